/- What the row's condition on the package variable gives the walks; what a slice of bytes reads as; no condition. -/
import Derived.Test.YtldkofdpohaahaaDoorRows
import Derived.Test.YtldkofdpohaahaaDoorEq
import Derived.ProofKit
import Derived.LaidMore
import Derived.OpenShut
import Derived.Stop.Joined
import Derived.ChangeOld
import Derived.Below
import Derived.SizedLaws
namespace Go.Proofs.YtldkofdpohaahaaDoor.Laid
open Go.ChangeShapes Go.WideShapes Go.ChangeAt Go.RowKit Go.Proofs.YtldkofdpohaahaaDoorW.PrintWords Go.Proofs.YtldkofdpohaahaaDoor.Rounds Go.Proofs.YtldkofdpohaahaaDoor.Mix Go.Proofs.YtldkofdpohaahaaDoor.Eat
set_option linter.unusedVariables false
theorem own : ownKnob Tryd.prog.godebug = none := by kernel_rfl
theorem laidOut : laidOutB Tryd.prog = true := by kernel_rfl
theorem gKeys : Tryd.prog.globalNamed "alibi/sha.keys" = some 0 := by kernel_rfl
theorem tKeys : (Tryd.prog.globals[0]?).map (·.type) = some 49 := by kernel_rfl
theorem door_met (os : Os) (args : Array Value) : laidMetH Tryd.prog [("alibi/sha.keys", Rows.laid_alibi_sha_keys)] ((World.doorLaid Tryd.prog 400 os).forCall (fun _ _ => 0) ⟨#[], args, []⟩).memory :=
  laidMetH_of_parts3 (fuel := 8) (laidMet_of_run' 8 (by kernel_rfl) (by kernel_rfl)) (by kernel_rfl) (by kernel_rfl)
theorem keys_lits {H : Type} : (Rows.laid_alibi_sha_keys : DataW H) = .agg (keysL.map fun x => .lit (.int .u32 x)) := rfl
theorem of_laid {W : World} (h : laidMetH Tryd.prog [("alibi/sha.keys", Rows.laid_alibi_sha_keys)] W) : KeysAt W ∧ 0 < W.heap.size := by
  rw [MakeChecks.laidMetH_plain _ _ _ (by kernel_rfl)] at h
  obtain ⟨ps, ⟨g0, t0, cs0, f0, p0, q0, hg0, ht0, hv0, hd0, _, _⟩, _, _⟩ := h
  obtain rfl := Option.some.inj (gKeys.symm.trans hg0)
  obtain rfl := Option.some.inj (tKeys.symm.trans ht0)
  obtain ⟨xs, m1, rfl, hx1, hlen, hn3, hel⟩ := DataW.trod_array Tryd.underlying49 hd0
  have c41 : Tryd.prog.cellsOf 41 = 1 := by kernel_rfl
  simp only [Prod.mk.injEq] at hx1
  obtain ⟨hx1, _⟩ := hx1
  rw [keys_lits] at hx1
  simp only [DataW.agg.injEq] at hx1
  have hk : KeysAt W := by
    intro j v hv
    have hj : j < 64 := by
      have := (List.getElem?_eq_some_iff.1 hv).1
      rw [List.length_map, keysL_len] at this; exact this
    have h1 := hel j hj
    rw [c41, Nat.mul_one] at h1
    obtain ⟨x, hx⟩ : ∃ x, xs[j]? = some x := ⟨xs[j]'(by omega), List.getElem?_eq_getElem (by omega)⟩
    rw [hx] at h1
    obtain ⟨n, e1, e2, _⟩ := DataW.trod_int Tryd.underlying41 h1
    have h2 : (xs.map (·.1))[j]? = some x.1 := by rw [List.getElem?_map, hx]; rfl
    rw [← hx1, List.getElem?_map] at h2
    obtain ⟨y, hy, hy2⟩ := Option.map_eq_some_iff.1 h2
    have hn : y = n := by
      rw [e2] at hy2
      simpa using hy2
    rw [List.getElem?_map, hy] at hv
    have hv' : v = .int .u32 n := by rw [← hn]; simpa using hv.symm
    rw [Nat.zero_add, World.var?_cell hg0 hv0 j, hv']
    have h3 : (cs0.toList.drop j)[0]? = some (.int .u32 n) := by
      have h4 : ((cs0.toList.drop j).take 1)[0]? = some (.int .u32 n) := by rw [e1]; rfl
      rwa [List.getElem?_take_of_lt (by omega)] at h4
    rw [List.getElem?_drop, Nat.add_zero, Array.getElem?_toList] at h3
    exact h3
  refine ⟨hk, ?_⟩
  exact Nat.lt_of_le_of_lt (Nat.zero_le _) (World.block_lt_of_cell? W _ (hk 0 _ (by rfl)))
/-- a slice of bytes, as a row gives it -/
theorem wf_u8 {x : Int} (h : (Lit.int .u8 x).wf = true) : 0 ≤ x ∧ x < 256 := by
  simp [Lit.wf, IntKind.min, IntKind.max, IntKind.signed, IntKind.bits] at h; omega
def IsBytes (w : World) (a : Option Addr) (len cap : Nat) (xs : List Int) : Prop := xs.length = len ∧ len ≤ cap ∧ ReadsInt w .u8 a len xs ∧ Bytes8 xs
theorem open_bytes {H : Type} {enc : TypeId × Value → H} {W : World} {spare : Nat → Bool} {held : Bool} {fuel : Nat} {a0 : Option Addr} {len0 cap0 : Nat} {d : DataW H × List MemPlace}
    (hf : DataW.trod enc Tryd.prog W 0 spare held fuel 22 [.slice a0 len0 cap0] = some d) : ∃ xs, IsBytes W a0 len0 cap0 xs := by
  rcases open_ints Tryd.underlying22 Tryd.underlying5 (by kernel_rfl) hf with ⟨hcs, _⟩ | ⟨x, l, c, zs, hcs, _, hl, hm, hz, _, hcell, hwz⟩
  · simp at hcs
    obtain ⟨rfl, rfl, rfl⟩ := hcs
    exact ⟨[], rfl, Nat.le_refl _, ⟨rfl, by decide, fun h => absurd h (by decide)⟩, fun x hx => by cases hx⟩
  · simp at hcs
    obtain ⟨rfl, rfl, rfl⟩ := hcs
    have hz' : len0 ≤ zs.length := by rw [hz]; split <;> omega
    have hlen : (zs.take len0).length = len0 := by rw [List.length_take]; omega
    refine ⟨zs.take len0, hlen, hl, ⟨hlen, by simp only [maxLen] at hm; omega, fun _ => ⟨x, rfl, fun j hj => ?_⟩⟩, fun y hy => wf_u8 (hwz y (List.mem_of_mem_take hy))⟩
    rw [hcell j (by omega), Sched.getD_take _ _ _ hj]
end Go.Proofs.YtldkofdpohaahaaDoor.Laid
