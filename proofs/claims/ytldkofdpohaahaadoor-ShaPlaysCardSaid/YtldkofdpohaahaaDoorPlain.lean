/- SHA-256 over numbers: the plain law that program and reference are held against; no program in sight. -/
import Derived.Test.YtldkofdpohaahaaDoorNew
namespace Go.Proofs.YtldkofdpohaahaaDoor.Plain
open Go.RowKit Go.Proofs.YtldkofdpohaahaaDoor.Turn Go.Proofs.YtldkofdpohaahaaDoor.Word Go.Proofs.YtldkofdpohaahaaDoor.New
/-- sums and differences of words -/
def add32 (x y : Int) : Int := (x + y) % 4294967296
def xor32 (x y : Int) : Int := bits .xor .u32 x y
def and32 (x y : Int) : Int := bits .and .u32 x y
def s0 (x : Int) : Int := xor32 (xor32 (rot 7 x) (rot 18 x)) (x / 8)
def s1 (y : Int) : Int := xor32 (xor32 (rot 17 y) (rot 19 y)) (y / 1024)
/-- the next word of the schedule, out of those before -/
def nextW (ws : List Int) : Int := let i := ws.length
  add32 (add32 (add32 (ws.getD (i - 16) 0) (s0 (ws.getD (i - 15) 0))) (ws.getD (i - 7) 0)) (s1 (ws.getD (i - 2) 0))
def grow : Nat → List Int → List Int
  | 0, ws => ws
  | k + 1, ws => grow k (ws ++ [nextW ws])
def first16 (b : List Int) : List Int := (List.range 16).map fun i => word4 (b.getD (4 * i) 0) (b.getD (4 * i + 1) 0) (b.getD (4 * i + 2) 0) (b.getD (4 * i + 3) 0)
def sched (b : List Int) : List Int := grow 48 (first16 b)
theorem grow_length : ∀ (k : Nat) (ws : List Int), (grow k ws).length = ws.length + k
  | 0, ws => rfl
  | k + 1, ws => by rw [grow, grow_length k, List.length_append, List.length_singleton]; omega
theorem sched_length (b : List Int) : (sched b).length = 64 := by
  unfold sched first16; rw [grow_length, List.length_map, List.length_range]
/-- the schedule's first i words (16 ≤ i) are grown out of the first 16 -/
theorem grow_take : ∀ (k j : Nat) (ws : List Int), j ≤ k → (grow k ws).take (ws.length + j) = grow j ws
  | 0, 0, ws, _ => by simp [grow]
  | k + 1, 0, ws, _ => by
    have h := grow_take k 0 (ws ++ [nextW ws]) (Nat.zero_le _)
    show (grow k (ws ++ [nextW ws])).take ws.length = ws
    have h2 := congrArg (List.take ws.length) h
    rw [List.take_take, List.length_append, List.length_singleton, show min ws.length (ws.length + 1 + 0) = ws.length by omega] at h2
    rw [h2]; simp [grow]
  | k + 1, j + 1, ws, h => by
    have h1 := grow_take k j (ws ++ [nextW ws]) (by omega)
    rw [List.length_append, List.length_singleton, show ws.length + 1 + j = ws.length + (j + 1) by omega] at h1
    exact h1
end Go.Proofs.YtldkofdpohaahaaDoor.Plain
