/-
  No cell of these rows narrows 'for every input' (looked for: loops, veiled, ifaces, maps, wideKeys, modest, calm, conditions, laid).
  DERIVED. THE GIVEN ROWS OF THIS SEAT. 5 by the template 'for every input the law returns true; each argument reads behind the call as it read before'; 0 by the template 'total and deterministic' (their statements: YtbemdnjcnmponaaTotals.lean).
  GIVEN WITH THE SEED: the statements are not yours to turn. If you find one false, say at which input.
  Laid BY PROGRAM, IN A SANDBOX (cutbox-rows.mjs): the forced cells as the released guide's own fill.sh prints them over the translation cdbb4efedae67e81… (all of the seat's roots in one cut). By AI agents, Wed Nov 11 2026. No macro, syntax, notation, axiom, sorry.
-/
import Derived.Test.YtbemdnjcnmponaaChecked
import GoSem.Claim
import GoSem.ClaimJoined
import GoSem.ClaimMapViews
import Derived.JoinedTies
import Derived.KernelRfl
namespace Go.Proofs.Ytbemdnjcnmponaa
/- THE CELL 'sum', in the pinned program and in every row, IS THE sha256 OF THE DUMP (.gsa) THAT YtbemdnjcnmponaaProg.lean LOADS. Nothing in Lean hashes anything: it is a label: what it is worth is what the hold of that sum in a sandbox is worth. -/
noncomputable def Try.pinned : Pinned := { name := "ytbemdnjcnmponaa", sum := "cdbb4efedae67e813c9fd2aeaf845108e8e4c107b8fd1f8cf284b7139a9cb7d3", checked := Try.checked }
namespace Rows
def none {H : Type} : Left H := { results := [], args := [] }

/-- 'alibilaw18.CertChecks': WHATEVER THE INPUT: true; the input reads as it did. -/
def certChecksSpec : ChangeSpec := { name := "certChecks", fn := fun _ => fun
  | [d] => { results := [.lit (.bool true)], args := [d] }
  | _ => none }
def certChecksRow : OpenClaim := { program := "ytbemdnjcnmponaa", sum := "cdbb4efedae67e813c9fd2aeaf845108e8e4c107b8fd1f8cf284b7139a9cb7d3", func := "alibi/alibilaw18.CertChecks", spec := "certChecks", unfollowed := true, recurses := true, apart := false }
def CertChecksSaid : Prop := certChecksRow.holds Try.pinned (OpenSpec.ofChange certChecksSpec)

/-- ITS FALSE NEIGHBOUR: 'it returns false'. Refute it at one input. -/
def certChecksWrong : ChangeSpec := { name := "certChecks", fn := fun _ => fun
  | [d] => { results := [.lit (.bool false)], args := [d] }
  | _ => none }
def CertChecksWrongFalsely : Prop := certChecksRow.holds Try.pinned (OpenSpec.ofChange certChecksWrong)

/-- 'alibilaw18.CertAlone': WHATEVER THE INPUT: true; the input reads as it did. -/
def certAloneSpec : ChangeSpec := { name := "certAlone", fn := fun _ => fun
  | [d] => { results := [.lit (.bool true)], args := [d] }
  | _ => none }
def certAloneRow : OpenClaim := { program := "ytbemdnjcnmponaa", sum := "cdbb4efedae67e813c9fd2aeaf845108e8e4c107b8fd1f8cf284b7139a9cb7d3", func := "alibi/alibilaw18.CertAlone", spec := "certAlone", unfollowed := true, recurses := true, apart := false }
def CertAloneSaid : Prop := certAloneRow.holds Try.pinned (OpenSpec.ofChange certAloneSpec)

/-- ITS FALSE NEIGHBOUR: 'it returns false'. Refute it at one input. -/
def certAloneWrong : ChangeSpec := { name := "certAlone", fn := fun _ => fun
  | [d] => { results := [.lit (.bool false)], args := [d] }
  | _ => none }
def CertAloneWrongFalsely : Prop := certAloneRow.holds Try.pinned (OpenSpec.ofChange certAloneWrong)

/-- 'alibilaw18.CertCopies': WHATEVER THE INPUT: true; the input reads as it did. -/
def certCopiesSpec : ChangeSpec := { name := "certCopies", fn := fun _ => fun
  | [d] => { results := [.lit (.bool true)], args := [d] }
  | _ => none }
def certCopiesRow : OpenClaim := { program := "ytbemdnjcnmponaa", sum := "cdbb4efedae67e813c9fd2aeaf845108e8e4c107b8fd1f8cf284b7139a9cb7d3", func := "alibi/alibilaw18.CertCopies", spec := "certCopies", unfollowed := true, recurses := true, apart := false }
def CertCopiesSaid : Prop := certCopiesRow.holds Try.pinned (OpenSpec.ofChange certCopiesSpec)

/-- ITS FALSE NEIGHBOUR: 'it returns false'. Refute it at one input. -/
def certCopiesWrong : ChangeSpec := { name := "certCopies", fn := fun _ => fun
  | [d] => { results := [.lit (.bool false)], args := [d] }
  | _ => none }
def CertCopiesWrongFalsely : Prop := certCopiesRow.holds Try.pinned (OpenSpec.ofChange certCopiesWrong)

/-- 'alibilaw18.CertSame': WHATEVER THE INPUT: true; the input reads as it did. -/
def certSameSpec : ChangeSpec := { name := "certSame", fn := fun _ => fun
  | [d1, d2] => { results := [.lit (.bool true)], args := [d1, d2] }
  | _ => none }
def certSameRow : OpenClaim := { program := "ytbemdnjcnmponaa", sum := "cdbb4efedae67e813c9fd2aeaf845108e8e4c107b8fd1f8cf284b7139a9cb7d3", func := "alibi/alibilaw18.CertSame", spec := "certSame", unfollowed := true, recurses := true, apart := false }
def CertSameSaid : Prop := certSameRow.holds Try.pinned (OpenSpec.ofChange certSameSpec)

/-- ITS FALSE NEIGHBOUR: 'it returns false'. Refute it at one input. -/
def certSameWrong : ChangeSpec := { name := "certSame", fn := fun _ => fun
  | [d1, d2] => { results := [.lit (.bool false)], args := [d1, d2] }
  | _ => none }
def CertSameWrongFalsely : Prop := certSameRow.holds Try.pinned (OpenSpec.ofChange certSameWrong)

/-- 'alibilaw18.CertLess': WHATEVER THE INPUT: true; the input reads as it did. -/
def certLessSpec : ChangeSpec := { name := "certLess", fn := fun _ => fun
  | [d1, d2] => { results := [.lit (.bool true)], args := [d1, d2] }
  | _ => none }
def certLessRow : OpenClaim := { program := "ytbemdnjcnmponaa", sum := "cdbb4efedae67e813c9fd2aeaf845108e8e4c107b8fd1f8cf284b7139a9cb7d3", func := "alibi/alibilaw18.CertLess", spec := "certLess", unfollowed := true, recurses := true, apart := false }
def CertLessSaid : Prop := certLessRow.holds Try.pinned (OpenSpec.ofChange certLessSpec)

/-- ITS FALSE NEIGHBOUR: 'it returns false'. Refute it at one input. -/
def certLessWrong : ChangeSpec := { name := "certLess", fn := fun _ => fun
  | [d1, d2] => { results := [.lit (.bool false)], args := [d1, d2] }
  | _ => none }
def CertLessWrongFalsely : Prop := certLessRow.holds Try.pinned (OpenSpec.ofChange certLessWrong)

/- THE SECOND FORM. 'bulk': how many values and letters a reading holds, each counted each time it is reached (what is shared counts as often as it is met; a slice's spare places count too). A statement '..UptoSaid' is the law's where the arguments, and the package variables that the reading takes, are together of bulk at most 1048576: NARROWER than '..Said'. Prove '..Said' where nothing that the law and all that it calls make is longer than what came in: it says more and counts as full. Else prove '..UptoSaid'. A law counts once. -/
mutual
def uptoBulk {H : Type} : DataW H → Nat
  | .lit (.string bytes) => bytes.length + 1
  | .lit _ => 1
  | .nil => 1
  | .ptr d => uptoBulk d + 1
  | .slice elems spare => uptoBulkAll elems + uptoBulkAll spare + 1
  | .agg parts => uptoBulkAll parts + 1
  | .iface _ d => uptoBulk d + 1
  | .map entries => uptoBulkEntries entries + 1
  | .held _ => 1
def uptoBulkAll {H : Type} : List (DataW H) → Nat
  | [] => 0
  | d :: r => uptoBulk d + uptoBulkAll r
def uptoBulkEntries {H : Type} : List (Lit × DataW H) → Nat
  | [] => 0
  | x :: r => uptoBulkEntry x + uptoBulkEntries r
def uptoBulkEntry {H : Type} : Lit × DataW H → Nat
  | (.string bytes, d) => bytes.length + uptoBulk d + 1
  | (_, d) => uptoBulk d + 1
 end
def uptoSmall : (H : Type) → List (DataW H) → Bool := fun _ ds => decide (uptoBulkAll ds ≤ 1048576)
def OpenSpec.upto (s : _root_.Go.ChangeSpec) : _root_.Go.OpenSpec := { _root_.Go.OpenSpec.ofChange s with cond := some uptoSmall }

/-- 'alibilaw18.CertChecks', WHERE WHAT IT READS IS OF BULK AT MOST 1048576: true; the input reads as it did. -/
def certChecksUptoRow : OpenClaim := { program := "ytbemdnjcnmponaa", sum := "cdbb4efedae67e813c9fd2aeaf845108e8e4c107b8fd1f8cf284b7139a9cb7d3", func := "alibi/alibilaw18.CertChecks", spec := "certChecks", unfollowed := true, recurses := true, apart := false, narrowed := true }
def CertChecksUptoSaid : Prop := certChecksUptoRow.holds Try.pinned (OpenSpec.upto certChecksSpec)

/-- 'alibilaw18.CertAlone', WHERE WHAT IT READS IS OF BULK AT MOST 1048576: true; the input reads as it did. -/
def certAloneUptoRow : OpenClaim := { program := "ytbemdnjcnmponaa", sum := "cdbb4efedae67e813c9fd2aeaf845108e8e4c107b8fd1f8cf284b7139a9cb7d3", func := "alibi/alibilaw18.CertAlone", spec := "certAlone", unfollowed := true, recurses := true, apart := false, narrowed := true }
def CertAloneUptoSaid : Prop := certAloneUptoRow.holds Try.pinned (OpenSpec.upto certAloneSpec)

/-- 'alibilaw18.CertCopies', WHERE WHAT IT READS IS OF BULK AT MOST 1048576: true; the input reads as it did. -/
def certCopiesUptoRow : OpenClaim := { program := "ytbemdnjcnmponaa", sum := "cdbb4efedae67e813c9fd2aeaf845108e8e4c107b8fd1f8cf284b7139a9cb7d3", func := "alibi/alibilaw18.CertCopies", spec := "certCopies", unfollowed := true, recurses := true, apart := false, narrowed := true }
def CertCopiesUptoSaid : Prop := certCopiesUptoRow.holds Try.pinned (OpenSpec.upto certCopiesSpec)

/-- 'alibilaw18.CertSame', WHERE WHAT IT READS IS OF BULK AT MOST 1048576: true; the input reads as it did. -/
def certSameUptoRow : OpenClaim := { program := "ytbemdnjcnmponaa", sum := "cdbb4efedae67e813c9fd2aeaf845108e8e4c107b8fd1f8cf284b7139a9cb7d3", func := "alibi/alibilaw18.CertSame", spec := "certSame", unfollowed := true, recurses := true, apart := false, narrowed := true }
def CertSameUptoSaid : Prop := certSameUptoRow.holds Try.pinned (OpenSpec.upto certSameSpec)

/-- 'alibilaw18.CertLess', WHERE WHAT IT READS IS OF BULK AT MOST 1048576: true; the input reads as it did. -/
def certLessUptoRow : OpenClaim := { program := "ytbemdnjcnmponaa", sum := "cdbb4efedae67e813c9fd2aeaf845108e8e4c107b8fd1f8cf284b7139a9cb7d3", func := "alibi/alibilaw18.CertLess", spec := "certLess", unfollowed := true, recurses := true, apart := false, narrowed := true }
def CertLessUptoSaid : Prop := certLessUptoRow.holds Try.pinned (OpenSpec.upto certLessSpec)

end Rows
end Go.Proofs.Ytbemdnjcnmponaa
