/- Two digests are alike where their bytes are; small laws for the laws' walks; no condition. -/
import Derived.Test.YtldkofdpohaahaaDoorAwake
import Derived.ChangeKeysEq
namespace Go.Proofs.YtldkofdpohaahaaDoor.Eq
open Go.RowKit Go.Proofs.YtldkofdpohaahaaDoorW.PrintWords Go.Proofs.YtldkofdpohaahaaDoor.New Go.Proofs.YtldkofdpohaahaaDoor.Rounds Go.Proofs.YtldkofdpohaahaaDoor.Mix Go.Proofs.YtldkofdpohaahaaDoor.Eat Go.Proofs.YtldkofdpohaahaaDoor.Pad
set_option linter.unusedVariables false
theorem part5 (cs : Array Value) (off : Nat) (v : Value) (w : World) (hv : cs[off]? = some v) : (part 5 cs off).run Tryd.prog w = .ok v w := by
  simp [part, go_sem]
  rw [hv]; rfl
theorem cells5 : Tryd.prog.cellsOf 5 = 1 := by kernel_rfl
theorem items_same (d : Nat) (ds : List Int) (w : World) : ∀ is : List Nat, (∀ i ∈ is, i < ds.length) → (Op.eqItems (d + 1) 5 1 (rowB ds) (rowB ds) is).run Tryd.prog w = .ok true w
  | [], _ => by simp [Op.eqItems]
  | i :: is, h => by
    have hi := h i (List.mem_cons_self ..)
    have hp := part5 (rowB ds) (i * 1) _ w (by rw [Nat.mul_one]; exact rowB_get ds i hi)
    have he := run_equalIn_int w d 5 .u8 .u8 (ds.getD i 0) (ds.getD i 0) Tryd.underlying5
    rw [beq_self_eq_true] at he
    simp only [Op.eqItems, Sem.run_bind, hp, Result.andThen_ok, he]
    exact items_same d ds w is (fun j hj => h j (List.mem_cons_of_mem _ hj))
theorem eq24 (ds : List Int) (w : World) (hl : ds.length = 32) : (Op.equalIn 10000 24 (.agg (rowB ds)) (.agg (rowB ds))).run Tryd.prog w = .ok true w := by
  obtain ⟨i, hi⟩ : ∃ i, Tryd.prog.info? 5 = some i := by
    obtain ⟨i, h, _⟩ := Option.map_eq_some_iff.1 Write.info5
    exact ⟨i, h⟩
  rw [run_equalIn_array w 9999 (rowB ds) (rowB ds) Tryd.underlying24 hi, cells5]
  exact items_same 9998 ds w _ (fun j hj => by rw [hl]; exact List.mem_range.1 hj)
/-- another block is written: a row lives on -/
theorem Ch.grown {g : Nat} {w w' : World} (h : Ch g w w') : w.grownBy w' (some g) := ⟨h.os, h.tape, h.output, h.size, fun k hk hne => h.block k (fun e => hne (by rw [e])) hk⟩
theorem own_ch {w w' : World} {base n g : Nat} {e : TypeId} {v : Value} {xs : List Value} (h : w.ownsRow base e 1 v n xs) (hc : Ch g w w') (hne : ∀ k, v.ownBlock = some k → k ≠ g) : w'.ownsRow base e 1 v n xs :=
  h.kept (Ch.grown hc) (by
    cases hv : v.ownBlock with
    | none => left; rfl
    | some k => right; intro hk; exact hne k hv (Option.some.inj hk))
theorem Ch.of_grown {w w' : World} {k : Nat} (h : w.grownBy w' (some k)) : Ch k w w' := ⟨h.os, h.tape, h.output, h.size, fun j hj hl => h.block j hl (fun e => hj (Option.some.inj e))⟩
end Go.Proofs.YtldkofdpohaahaaDoor.Eq
