/- Plain laws for the document's digest; no condition. -/
import Derived.Test.YtldkofdpohaahaaDoorPadded
namespace Go.Proofs.YtldkofdpohaahaaDoor.RefPlain
open Go.RowKit Go.Proofs.YtldkofdpohaahaaDoorW.PrintWords Go.Proofs.YtldkofdpohaahaaDoor.Word Go.Proofs.YtldkofdpohaahaaDoor.New Go.Proofs.YtldkofdpohaahaaDoor.Plain Go.Proofs.YtldkofdpohaahaaDoor.Sched Go.Proofs.YtldkofdpohaahaaDoor.Spread Go.Proofs.YtldkofdpohaahaaDoor.Rounds Go.Proofs.YtldkofdpohaahaaDoor.Mix Go.Proofs.YtldkofdpohaahaaDoor.Eat Go.Proofs.YtldkofdpohaahaaDoor.Pad Go.Proofs.YtldkofdpohaahaaDoor.Hex
set_option linter.unusedVariables false
theorem wraps_u32 (n : Int) (h₀ : 0 ≤ n) (h₁ : n < 2 ^ 32) : IntKind.u32.wrap n = n := by rw [IntKind.wrap_u32]; omega
theorem word4_sum (x0 x1 x2 x3 : Int) (b0 : 0 ≤ x0 ∧ x0 < 256) (b1 : 0 ≤ x1 ∧ x1 < 256) (b2 : 0 ≤ x2 ∧ x2 < 256) (b3 : 0 ≤ x3 ∧ x3 < 256) : word4 x0 x1 x2 x3 = ((x0 * 256 + x1) * 256 + x2) * 256 + x3 := by
  have e0 : x0 * 16777216 % 4294967296 = x0 * 16777216 := by omega
  have e1 : x1 * 65536 % 4294967296 = x1 * 65536 := by omega
  have e2 : x2 * 256 % 4294967296 = x2 * 256 := by omega
  have h1 := bits_join .u32 32 (by decide) wraps_u32 24 (x0 * 16777216) (x1 * 65536) (by omega) (by omega) (by omega) (by omega) (by omega) (by omega)
  have h2 := bits_join .u32 32 (by decide) wraps_u32 16 (x0 * 16777216 + x1 * 65536) (x2 * 256) (by omega) (by omega) (by omega) (by omega) (by omega) (by omega)
  have h3 := bits_join .u32 32 (by decide) wraps_u32 8 (x0 * 16777216 + x1 * 65536 + x2 * 256) x3 (by omega) (by omega) (by omega) (by omega) (by omega) (by omega)
  unfold word4
  rw [e0, e1, e2, h1, h2, h3]
  omega
theorem eat_drop : ∀ (t : Nat) (H l : List Int), (eat t H l).2 = l.drop (64 * t)
  | 0, H, l => rfl
  | t + 1, H, l => by
    show (eat t _ (l.drop 64)).2 = _
    rw [eat_drop t, List.drop_drop]; congr 1; omega
theorem eat_next (t : Nat) (H l : List Int) : (eat (t + 1) H l).1 = compress (eat t H l).1 ((l.drop (64 * t)).take 64) := by
  rw [eat_add t 1]
  show compress (eat t H l).1 ((eat t H l).2.take 64) = _
  rw [eat_drop]
theorem first16_get (b : List Int) (i : Nat) (h : i < 16) : (first16 b).getD i 0 = word4 (b.getD (4 * i) 0) (b.getD (4 * i + 1) 0) (b.getD (4 * i + 2) 0) (b.getD (4 * i + 3) 0) := by
  unfold first16
  rw [List.getD_eq_getElem?_getD, List.getElem?_map, List.getElem?_range h]; rfl
theorem take_get (l : List Int) (i : Nat) (h : i < l.length) : l.take (i + 1) = l.take i ++ [l.getD i 0] := by
  rw [List.take_succ_eq_append_getElem h, show l.getD i 0 = l[i] by simp [h]]
def litK : ByteArray := { data := #[52, 50, 56, 97, 50, 102, 57, 56, 32, 55, 49, 51, 55, 52, 52, 57, 49, 32, 98, 53, 99, 48, 102, 98, 99, 102, 32, 101, 57, 98, 53, 100, 98, 97, 53, 32, 51, 57, 53, 54, 99, 50, 53, 98, 32, 53, 57, 102, 49, 49, 49, 102, 49, 32, 57, 50, 51, 102, 56, 50, 97, 52, 32, 97, 98, 49, 99, 53, 101, 100, 53, 32, 100, 56, 48, 55, 97, 97, 57, 56, 32, 49, 50, 56, 51, 53, 98, 48, 49, 32, 50, 52, 51, 49, 56, 53, 98, 101, 32, 53, 53, 48, 99, 55, 100, 99, 51, 32, 55, 50, 98, 101, 53, 100, 55, 52, 32, 56, 48, 100, 101, 98, 49, 102, 101, 32, 57, 98, 100, 99, 48, 54, 97, 55, 32, 99, 49, 57, 98, 102, 49, 55, 52, 32, 101, 52, 57, 98, 54, 57, 99, 49, 32, 101, 102, 98, 101, 52, 55, 56, 54, 32, 48, 102, 99, 49, 57, 100, 99, 54, 32, 50, 52, 48, 99, 97, 49, 99, 99, 32, 50, 100, 101, 57, 50, 99, 54, 102, 32, 52, 97, 55, 52, 56, 52, 97, 97, 32, 53, 99, 98, 48, 97, 57, 100, 99, 32, 55, 54, 102, 57, 56, 56, 100, 97, 32, 57, 56, 51, 101, 53, 49, 53, 50, 32, 97, 56, 51, 49, 99, 54, 54, 100, 32, 98, 48, 48, 51, 50, 55, 99, 56, 32, 98, 102, 53, 57, 55, 102, 99, 55, 32, 99, 54, 101, 48, 48, 98, 102, 51, 32, 100, 53, 97, 55, 57, 49, 52, 55, 32, 48, 54, 99, 97, 54, 51, 53, 49, 32, 49, 52, 50, 57, 50, 57, 54, 55, 32, 50, 55, 98, 55, 48, 97, 56, 53, 32, 50, 101, 49, 98, 50, 49, 51, 56, 32, 52, 100, 50, 99, 54, 100, 102, 99, 32, 53, 51, 51, 56, 48, 100, 49, 51, 32, 54, 53, 48, 97, 55, 51, 53, 52, 32, 55, 54, 54, 97, 48, 97, 98, 98, 32, 56, 49, 99, 50, 99, 57, 50, 101, 32, 57, 50, 55, 50, 50, 99, 56, 53, 32, 97, 50, 98, 102, 101, 56, 97, 49, 32, 97, 56, 49, 97, 54, 54, 52, 98, 32, 99, 50, 52, 98, 56, 98, 55, 48, 32, 99, 55, 54, 99, 53, 49, 97, 51, 32, 100, 49, 57, 50, 101, 56, 49, 57, 32, 100, 54, 57, 57, 48, 54, 50, 52, 32, 102, 52, 48, 101, 51, 53, 56, 53, 32, 49, 48, 54, 97, 97, 48, 55, 48, 32, 49, 57, 97, 52, 99, 49, 49, 54, 32, 49, 101, 51, 55, 54, 99, 48, 56, 32, 50, 55, 52, 56, 55, 55, 52, 99, 32, 51, 52, 98, 48, 98, 99, 98, 53, 32, 51, 57, 49, 99, 48, 99, 98, 51, 32, 52, 101, 100, 56, 97, 97, 52, 97, 32, 53, 98, 57, 99, 99, 97, 52, 102, 32, 54, 56, 50, 101, 54, 102, 102, 51, 32, 55, 52, 56, 102, 56, 50, 101, 101, 32, 55, 56, 97, 53, 54, 51, 54, 102, 32, 56, 52, 99, 56, 55, 56, 49, 52, 32, 56, 99, 99, 55, 48, 50, 48, 56, 32, 57, 48, 98, 101, 102, 102, 102, 97, 32, 97, 52, 53, 48, 54, 99, 101, 98, 32, 98, 101, 102, 57, 97, 51, 102, 55, 32, 99, 54, 55, 49, 55, 56, 102, 50] }
def litL : ByteArray := { data := #[54, 97, 48, 57, 101, 54, 54, 55, 32, 98, 98, 54, 55, 97, 101, 56, 53, 32, 51, 99, 54, 101, 102, 51, 55, 50, 32, 97, 53, 52, 102, 102, 53, 51, 97, 32, 53, 49, 48, 101, 53, 50, 55, 102, 32, 57, 98, 48, 53, 54, 56, 56, 99, 32, 49, 102, 56, 51, 100, 57, 97, 98, 32, 53, 98, 101, 48, 99, 100, 49, 57] }
set_option maxRecDepth 100000 in
theorem hexK : hexP litK = keysL := by kernel_rfl
set_option maxRecDepth 100000 in
theorem hexL : hexP litL = h0L := by kernel_rfl
/-- the output under way: m bytes of word i are set, from the right -/
def part (D : List Int) (i m : Nat) : List Int := (List.range 32).map fun k => if k < 4 * i ∨ (4 * i + (4 - m) ≤ k ∧ k < 4 * i + 4) then D.getD k 0 else 0
theorem part_len (D : List Int) (i m : Nat) : (part D i m).length = 32 := by unfold part; rw [List.length_map, List.length_range]
theorem part_at (D : List Int) (i m k : Nat) (h : k < 32) : (part D i m)[k]? = some (if k < 4 * i ∨ (4 * i + (4 - m) ≤ k ∧ k < 4 * i + 4) then D.getD k 0 else 0) := by
  unfold part; rw [List.getElem?_map, List.getElem?_range h]; rfl
theorem part_none (D : List Int) (i m k : Nat) (h : ¬ k < 32) : (part D i m)[k]? = none := List.getElem?_eq_none (by rw [part_len]; omega)
theorem part_set (D : List Int) (i m : Nat) (hi : i < 8) (hm : m < 4) : (part D i m).set (4 * i + (3 - m)) (D.getD (4 * i + (3 - m)) 0) = part D i (m + 1) := by
  apply List.ext_getElem?
  intro k
  by_cases hk : k < 32
  · rw [part_at _ _ _ _ hk]
    by_cases he : k = 4 * i + (3 - m)
    · subst he
      rw [List.getElem?_set_self (by rw [part_len]; exact hk), if_pos (by omega)]
    · rw [List.getElem?_set_ne (fun e => he e.symm), part_at _ _ _ _ hk]
      by_cases hc : k < 4 * i ∨ (4 * i + (4 - m) ≤ k ∧ k < 4 * i + 4)
      · rw [if_pos hc, if_pos (by omega)]
      · rw [if_neg hc, if_neg (by omega)]
  · rw [part_none _ _ _ _ hk, List.getElem?_eq_none (by rw [List.length_set, part_len]; omega)]
theorem part_zero (D : List Int) : part D 0 0 = List.replicate 32 0 := by
  apply List.ext_getElem?
  intro k
  by_cases hk : k < 32
  · rw [part_at _ _ _ _ hk, if_neg (by omega), List.getElem?_replicate, if_pos hk]
  · rw [part_none _ _ _ _ hk, List.getElem?_replicate, if_neg hk]
theorem part_next (D : List Int) (i : Nat) : part D i 4 = part D (i + 1) 0 := by
  apply List.ext_getElem?
  intro k
  by_cases hk : k < 32
  · rw [part_at _ _ _ _ hk, part_at _ _ _ _ hk]
    by_cases hc : k < 4 * i ∨ (4 * i + (4 - 4) ≤ k ∧ k < 4 * i + 4)
    · rw [if_pos hc, if_pos (by omega)]
    · rw [if_neg hc, if_neg (by omega)]
  · rw [part_none _ _ _ _ hk, part_none _ _ _ _ hk]
theorem part_all (D : List Int) (h : D.length = 32) : part D 8 0 = D := by
  apply List.ext_getElem?
  intro k
  by_cases hk : k < 32
  · rw [part_at _ _ _ _ hk, if_pos (by omega), List.getD_eq_getElem?_getD, List.getElem?_eq_getElem (by omega)]; rfl
  · rw [part_none _ _ _ _ hk, List.getElem?_eq_none (by omega)]
end Go.Proofs.YtldkofdpohaahaaDoor.RefPlain
