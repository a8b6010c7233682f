/- The schedule's words, one out of those before; no program in sight. -/
import Derived.Test.YtldkofdpohaahaaDoorPlain
namespace Go.Proofs.YtldkofdpohaahaaDoor.Sched
open Go.RowKit Go.Proofs.YtldkofdpohaahaaDoor.Turn Go.Proofs.YtldkofdpohaahaaDoor.Word Go.Proofs.YtldkofdpohaahaaDoor.New Go.Proofs.YtldkofdpohaahaaDoor.Plain
theorem first16_length (b : List Int) : (first16 b).length = 16 := by unfold first16; rw [List.length_map, List.length_range]
theorem grow_snoc : ∀ (k : Nat) (ws : List Int), grow (k + 1) ws = grow k ws ++ [nextW (grow k ws)]
  | 0, ws => rfl
  | k + 1, ws => by
    show grow (k + 1) (ws ++ [nextW ws]) = grow k (ws ++ [nextW ws]) ++ [nextW (grow k (ws ++ [nextW ws]))]
    exact grow_snoc k _
theorem sched_take (b : List Int) (i : Nat) (h : 16 ≤ i) (h2 : i ≤ 64) : (sched b).take i = grow (i - 16) (first16 b) := by
  have := grow_take 48 (i - 16) (first16 b) (by omega)
  rw [first16_length, show 16 + (i - 16) = i by omega] at this
  exact this
theorem sched_16 (b : List Int) : (sched b).take 16 = first16 b := sched_take b 16 (by omega) (by omega)
theorem getD_take (l : List Int) (i j : Nat) (h : j < i) : (l.take i).getD j 0 = l.getD j 0 := by
  rw [List.getD_eq_getElem?_getD, List.getD_eq_getElem?_getD, List.getElem?_take_of_lt h]
theorem sched_next (b : List Int) (i : Nat) (h : 16 ≤ i) (h2 : i < 64) :
    (sched b).getD i 0 = add32 (add32 (add32 ((sched b).getD (i - 16) 0) (s0 ((sched b).getD (i - 15) 0))) ((sched b).getD (i - 7) 0)) (s1 ((sched b).getD (i - 2) 0)) := by
  have h1 := sched_take b (i + 1) (by omega) (by omega)
  rw [show i + 1 - 16 = (i - 16) + 1 by omega, grow_snoc, ← sched_take b i h (by omega)] at h1
  have hl : ((sched b).take i).length = i := by rw [List.length_take, sched_length]; omega
  have h3 : (sched b).getD i 0 = nextW ((sched b).take i) := by
    rw [← getD_take (sched b) (i + 1) i (by omega), h1, List.getD_eq_getElem?_getD, List.getElem?_append_right (by omega), hl]
    simp
  rw [h3]
  unfold nextW
  simp only [hl]
  rw [getD_take _ _ _ (by omega), getD_take _ _ _ (by omega), getD_take _ _ _ (by omega), getD_take _ _ _ (by omega)]
end Go.Proofs.YtldkofdpohaahaaDoor.Sched
