/- What the row's condition on the package variable gives the walks; what a slice of bytes reads as; no condition. -/
import Derived.Test.YtldkofdpohaahaaDoorRows
import Derived.Test.YtldkofdpohaahaaDoorApart
import Derived.ProofKit
import Derived.LaidMore
import Derived.OpenShut
import Derived.Stop.Joined
import Derived.ChangeOld
import Derived.Below
import Derived.SizedLaws
namespace Go.Proofs.YtldkofdpohaahaaDoor.Laid
open Go.ChangeShapes Go.WideShapes Go.ChangeAt Go.RowKit Go.Proofs.YtldkofdpohaahaaDoorW.PrintWords Go.Proofs.YtldkofdpohaahaaDoor.Rounds Go.Proofs.YtldkofdpohaahaaDoor.Mix Go.Proofs.YtldkofdpohaahaaDoor.Eat
set_option linter.unusedVariables false
theorem own : ownKnob Tryd.prog.godebug = none := by kernel_rfl
theorem laidOut : laidOutB Tryd.prog = true := by kernel_rfl
theorem gKeys : Tryd.prog.globalNamed "alibi/sha.keys" = some 0 := by kernel_rfl
theorem tKeys : (Tryd.prog.globals[0]?).map (·.type) = some 49 := by kernel_rfl
theorem door_met (os : Os) (args : Array Value) : laidMetH Tryd.prog [("alibi/sha.keys", Rows.laid_alibi_sha_keys)] ((World.doorLaid Tryd.prog 400 os).forCall (fun _ _ => 0) ⟨#[], args, []⟩).memory :=
  laidMetH_of_parts3 (fuel := 8) (laidMet_of_run' 8 (by kernel_rfl) (by kernel_rfl)) (by kernel_rfl) (by kernel_rfl)
theorem keys_lits {H : Type} : (Rows.laid_alibi_sha_keys : DataW H) = .agg (keysL.map fun x => .lit (.int .u32 x)) := rfl
theorem of_laid {W : World} (h : laidMetH Tryd.prog [("alibi/sha.keys", Rows.laid_alibi_sha_keys)] W) : KeysAt W ∧ 0 < W.heap.size := by
  rw [MakeChecks.laidMetH_plain _ _ _ (by kernel_rfl)] at h
  obtain ⟨ps, ⟨g0, t0, cs0, f0, p0, q0, hg0, ht0, hv0, hd0, _, _⟩, _, _⟩ := h
  obtain rfl := Option.some.inj (gKeys.symm.trans hg0)
  obtain rfl := Option.some.inj (tKeys.symm.trans ht0)
  obtain ⟨xs, m1, rfl, hx1, hlen, hn3, hel⟩ := DataW.trod_array Tryd.underlying49 hd0
  have c41 : Tryd.prog.cellsOf 41 = 1 := by kernel_rfl
  simp only [Prod.mk.injEq] at hx1
  obtain ⟨hx1, _⟩ := hx1
  rw [keys_lits] at hx1
  simp only [DataW.agg.injEq] at hx1
  have hk : KeysAt W := by
    intro j v hv
    have hj : j < 64 := by
      have := (List.getElem?_eq_some_iff.1 hv).1
      rw [List.length_map, keysL_len] at this; exact this
    have h1 := hel j hj
    rw [c41, Nat.mul_one] at h1
    obtain ⟨x, hx⟩ : ∃ x, xs[j]? = some x := ⟨xs[j]'(by omega), List.getElem?_eq_getElem (by omega)⟩
    rw [hx] at h1
    obtain ⟨n, e1, e2, _⟩ := DataW.trod_int Tryd.underlying41 h1
    have h2 : (xs.map (·.1))[j]? = some x.1 := by rw [List.getElem?_map, hx]; rfl
    rw [← hx1, List.getElem?_map] at h2
    obtain ⟨y, hy, hy2⟩ := Option.map_eq_some_iff.1 h2
    have hn : y = n := by
      rw [e2] at hy2
      simpa using hy2
    rw [List.getElem?_map, hy] at hv
    have hv' : v = .int .u32 n := by rw [← hn]; simpa using hv.symm
    rw [Nat.zero_add, World.var?_cell hg0 hv0 j, hv']
    have h3 : (cs0.toList.drop j)[0]? = some (.int .u32 n) := by
      have h4 : ((cs0.toList.drop j).take 1)[0]? = some (.int .u32 n) := by rw [e1]; rfl
      rwa [List.getElem?_take_of_lt (by omega)] at h4
    rw [List.getElem?_drop, Nat.add_zero, Array.getElem?_toList] at h3
    exact h3
  refine ⟨hk, ?_⟩
  exact Nat.lt_of_le_of_lt (Nat.zero_le _) (World.block_lt_of_cell? W _ (hk 0 _ (by rfl)))
/-- a slice of bytes, as a row gives it -/
theorem wf_u8 {x : Int} (h : (Lit.int .u8 x).wf = true) : 0 ≤ x ∧ x < 256 := by
  simp [Lit.wf, IntKind.min, IntKind.max, IntKind.signed, IntKind.bits] at h; omega
def IsBytes (w : World) (a : Option Addr) (len cap : Nat) (xs : List Int) : Prop := xs.length = len ∧ len ≤ cap ∧ ReadsInt w .u8 a len xs ∧ Bytes8 xs ∧ (a = none → cap = 0)
theorem open_bytes {H : Type} {enc : TypeId × Value → H} {W : World} {spare : Nat → Bool} {held : Bool} {fuel : Nat} {a0 : Option Addr} {len0 cap0 : Nat} {d : DataW H × List MemPlace}
    (hf : DataW.trod enc Tryd.prog W 0 spare held fuel 22 [.slice a0 len0 cap0] = some d) : ∃ xs, IsBytes W a0 len0 cap0 xs := by
  rcases open_ints Tryd.underlying22 Tryd.underlying5 (by kernel_rfl) hf with ⟨hcs, _⟩ | ⟨x, l, c, zs, hcs, _, hl, hm, hz, _, hcell, hwz⟩
  · simp at hcs
    obtain ⟨rfl, rfl, rfl⟩ := hcs
    exact ⟨[], rfl, Nat.le_refl _, ⟨rfl, by decide, fun h => absurd h (by decide)⟩, (fun x hx => by cases hx), fun _ => rfl⟩
  · simp at hcs
    obtain ⟨rfl, rfl, rfl⟩ := hcs
    have hz' : len0 ≤ zs.length := by rw [hz]; split <;> omega
    have hlen : (zs.take len0).length = len0 := by rw [List.length_take]; omega
    refine ⟨zs.take len0, hlen, hl, ⟨hlen, by simp only [maxLen] at hm; omega, fun _ => ⟨x, rfl, fun j hj => ?_⟩⟩, fun y hy => wf_u8 (hwz y (List.mem_of_mem_take hy)), fun e => by cases e⟩
    rw [hcell j (by omega), Sched.getD_take _ _ _ hj]
theorem collect {α : Type} (d : α) (Q : Nat → α → Prop) : ∀ n : Nat, (∀ i, i < n → ∃ x, Q i x) → ∃ l : List α, l.length = n ∧ ∀ i, i < n → Q i (l.getD i d)
  | 0, _ => ⟨[], rfl, fun i hi => absurd hi (Nat.not_lt_zero i)⟩
  | n + 1, h => by
    obtain ⟨l, hl, hq⟩ := collect d Q n (fun i hi => h i (Nat.lt_succ_of_lt hi))
    obtain ⟨x, hx⟩ := h n (Nat.lt_succ_self n)
    refine ⟨l ++ [x], by rw [List.length_append, hl]; rfl, fun i hi => ?_⟩
    rcases Nat.lt_or_ge i n with h1 | h1
    · have := hq i h1
      rw [List.getD_eq_getElem?_getD, List.getElem?_append_left (by omega), ← List.getD_eq_getElem?_getD]; exact this
    · obtain rfl : i = n := by omega
      rw [List.getD_eq_getElem?_getD, List.getElem?_append_right (by omega), hl, Nat.sub_self]; exact hx
theorem elems_one {H : Type} {enc : TypeId × Value → H} {W : World} {spare : Nat → Bool} {held : Bool} {fuel : Nat} {t e : TypeId} {cs : List Value} {d : DataW H × List MemPlace} (ht : Tryd.prog.underlying t = some (.slice e)) (hc : Tryd.prog.cellsOf e = 1)
    (hf : DataW.trod enc Tryd.prog W 0 spare held fuel t cs = some d) : cs = [.slice none 0 0] ∨ ∃ (a : Addr) (len cap : Nat), cs = [.slice (some a) len cap] ∧ len ≤ cap ∧ cap ≤ maxLen ∧ ∀ i, i < len → ∃ v n y, W.cell? (a.add i) = some v ∧ DataW.trod enc Tryd.prog W 0 spare held n e [v] = some y := by
  rcases DataW.trod_slice ht hf with ⟨h, _⟩ | ⟨a, len, cap, elems, rest, n, _, hcs, _, _, hl, hm, hlen, hel, _⟩
  · exact .inl h
  · refine .inr ⟨a, len, cap, hcs, hl, hm, fun i hi => ?_⟩
    have hE := hel i hi
    rw [hc, Nat.mul_one] at hE
    have hy : elems[i]? = some (elems[i]'(by omega)) := List.getElem?_eq_getElem (by omega)
    rw [hy] at hE
    simp only [Option.bind_eq_some_iff] at hE
    obtain ⟨c1, hc1, hy1⟩ := hE
    have e0 : (a.add i).add 0 = a.add i := by simp [Addr.add]
    have : ∃ c, c1 = [c] ∧ W.cell? (a.add i) = some c := by
      unfold World.cells? at hc1
      split at hc1
      · simp only [List.range_succ, List.range_zero, List.nil_append, List.mapM_cons, List.mapM_nil, e0] at hc1
        cases hcc : W.cell? (a.add i) with
        | none => simp [hcc] at hc1
        | some c => simp [hcc] at hc1; exact ⟨c, hc1.symm, rfl⟩
      · cases hc1
    obtain ⟨c, rfl, hcell⟩ := this
    exact ⟨c, n, _, hcell, hy1⟩
def IsTurns (w : World) (a : Option Addr) (len cap : Nat) (ts : List Bool) : Prop := ts.length = len ∧ Apart.ReadsB w a len ts
theorem open_turns {H : Type} {enc : TypeId × Value → H} {W : World} {spare : Nat → Bool} {held : Bool} {fuel : Nat} {a0 : Option Addr} {len0 cap0 : Nat} {d : DataW H × List MemPlace}
    (hf : DataW.trod enc Tryd.prog W 0 spare held fuel 35 [.slice a0 len0 cap0] = some d) : ∃ ts, IsTurns W a0 len0 cap0 ts := by
  rcases elems_one Tryd.underlying35 (by kernel_rfl) hf with h | ⟨a, len, cap, h, hl, hm, hel⟩
  · simp at h
    obtain ⟨rfl, rfl, rfl⟩ := h
    exact ⟨[], rfl, rfl, by decide, fun h => absurd h (by decide)⟩
  · simp at h
    obtain ⟨rfl, rfl, rfl⟩ := h
    obtain ⟨ts, h1, h2⟩ := collect false (fun i x => W.cell? (a.add i) = some (.bool x)) len0 (fun i hi => by
      obtain ⟨v, n, y, hv, ht⟩ := hel i hi
      obtain ⟨b, hb, _⟩ := DataW.trod_bool Tryd.underlying4 ht
      simp at hb
      exact ⟨b, by rw [hv, hb]⟩)
    exact ⟨ts, h1, h1, by simp only [maxLen] at hm; omega, fun _ => ⟨a, rfl, h2⟩⟩
def IsParts (w : World) (a : Option Addr) (len cap : Nat) (ps : List (List Int)) : Prop := ps.length = len ∧ Of.Parts w a len ps ∧ ∀ p ∈ ps, Bytes8 p
theorem open_parts {H : Type} {enc : TypeId × Value → H} {W : World} {spare : Nat → Bool} {held : Bool} {fuel : Nat} {a0 : Option Addr} {len0 cap0 : Nat} {d : DataW H × List MemPlace}
    (hf : DataW.trod enc Tryd.prog W 0 spare held fuel 28 [.slice a0 len0 cap0] = some d) : ∃ ps, IsParts W a0 len0 cap0 ps := by
  rcases elems_one Tryd.underlying28 (by kernel_rfl) hf with h | ⟨a, len, cap, h, hl, hm, hel⟩
  · simp at h
    obtain ⟨rfl, rfl, rfl⟩ := h
    exact ⟨[], rfl, ⟨rfl, by decide, fun h => absurd h (by decide)⟩, fun p hp => by cases hp⟩
  · simp at h
    obtain ⟨rfl, rfl, rfl⟩ := h
    obtain ⟨ps, h1, h2⟩ := collect [] (fun i p => (∃ B c, W.cell? (a.add i) = some (.slice B p.length c) ∧ ReadsInt W .u8 B p.length p) ∧ Bytes8 p) len0 (fun i hi => by
      obtain ⟨v, n, y, hv, ht⟩ := hel i hi
      obtain ⟨B, l, c, rfl⟩ : ∃ B l c, v = .slice B l c := by
        rcases DataW.trod_slice Tryd.underlying22 ht with ⟨hb, _⟩ | ⟨b, l, c, _, _, _, _, hb, _⟩
        · simp at hb; exact ⟨none, 0, 0, hb⟩
        · simp at hb; exact ⟨some b, l, c, hb⟩
      obtain ⟨xs, hx1, hx2, hx3, hx4, _⟩ := open_bytes ht
      subst hx1
      exact ⟨xs, ⟨B, c, hv, hx3⟩, hx4⟩)
    refine ⟨ps, h1, ⟨h1, by simp only [maxLen] at hm; omega, fun _ => ⟨a, rfl, fun j hj => (h2 j hj).1⟩⟩, fun p hp => ?_⟩
    obtain ⟨j, hj, rfl⟩ := List.getElem_of_mem hp
    have := (h2 j (by omega)).2
    rwa [List.getD_eq_getElem?_getD, List.getElem?_eq_getElem hj] at this
end Go.Proofs.YtldkofdpohaahaaDoor.Laid
