/- The padding and the digest over numbers: plain laws; no condition. -/
import Derived.Test.YtldkofdpohaahaaDoorEat
namespace Go.Proofs.YtldkofdpohaahaaDoor.Pad
open Go.RowKit Go.Proofs.YtldkofdpohaahaaDoorW.PrintWords Go.Proofs.YtldkofdpohaahaaDoor.New Go.Proofs.YtldkofdpohaahaaDoor.Plain Go.Proofs.YtldkofdpohaahaaDoor.Spread Go.Proofs.YtldkofdpohaahaaDoor.Rounds Go.Proofs.YtldkofdpohaahaaDoor.Mix Go.Proofs.YtldkofdpohaahaaDoor.Eat
set_option linter.unusedVariables false
def zeros (n : Nat) : Nat := (119 - n % 64) % 64
def padK (m : List Int) (k : Nat) : List Int := m ++ [128] ++ List.replicate k 0
/-- eight bytes of a number, the highest first -/
def tail8 (n : Nat) : List Int := [(n : Int) / 72057594037927936 % 256, (n : Int) / 281474976710656 % 256, (n : Int) / 1099511627776 % 256, (n : Int) / 4294967296 % 256, (n : Int) / 16777216 % 256, (n : Int) / 65536 % 256, (n : Int) / 256 % 256, (n : Int) % 256]
def pad (m : List Int) : List Int := padK m (zeros m.length) ++ tail8 (8 * m.length)
/-- four bytes of a word, the highest first -/
def word4s (x : Int) : List Int := [x / 16777216 % 256, x / 65536 % 256, x / 256 % 256, x % 256]
def outs (H : List Int) : List Int := H.flatMap word4s
def digest (m : List Int) : List Int := outs (eatAll h0L (pad m)).1
theorem padK_len (m : List Int) (k : Nat) : (padK m k).length = m.length + 1 + k := by
  unfold padK; rw [List.length_append, List.length_append, List.length_replicate]; rfl
theorem padK_end (m : List Int) (k : Nat) (h : k ≤ zeros m.length) : (padK m k).length % 64 = 56 ↔ k = zeros m.length := by
  rw [padK_len]; unfold zeros at *; omega
theorem padK_zero (m : List Int) : padK m 0 = m ++ [128] := by unfold padK; rw [List.replicate_zero, List.append_nil]
theorem padK_succ (m : List Int) (k : Nat) : padK m k ++ [0] = padK m (k + 1) := by
  unfold padK; rw [List.append_assoc, List.replicate_succ']
theorem zeros_le (n : Nat) : zeros n < 64 := by unfold zeros; omega
theorem tail8_b (n : Nat) : Bytes8 (tail8 n) := fun x hx => by
  simp only [tail8, List.mem_cons, List.not_mem_nil, or_false] at hx; omega
theorem tail8_len (n : Nat) : (tail8 n).length = 8 := rfl
theorem pad_len (m : List Int) : (pad m).length = m.length + 9 + zeros m.length := by
  unfold pad; rw [List.length_append, padK_len, tail8_len]; omega
theorem outs_len : ∀ (H : List Int), (outs H).length = 4 * H.length
  | [] => rfl
  | x :: H => by
    show (word4s x ++ outs H).length = _
    rw [List.length_append, outs_len H, List.length_cons]
    show 4 + _ = _; omega
theorem digest_len (m : List Int) : (digest m).length = 32 := by
  unfold digest; rw [outs_len, eatAll_h _ _ rfl]
theorem outs_b : ∀ (H : List Int), Bytes8 (outs H)
  | [] => fun x hx => by cases hx
  | x :: H => fun y hy => by
    rcases List.mem_append.1 (show y ∈ word4s x ++ outs H from hy) with h | h
    · simp only [word4s, List.mem_cons, List.not_mem_nil, or_false] at h; omega
    · exact outs_b H y h
theorem digest_b (m : List Int) : Bytes8 (digest m) := outs_b _
def rowB (ws : List Int) : Array Value := (nums .u8 ws).toArray
theorem rowB_size (ws : List Int) : (rowB ws).size = ws.length := by simp [rowB, nums]
theorem rowB_get (ws : List Int) (i : Nat) (h : i < ws.length) : (rowB ws)[i]? = some (.int .u8 (ws.getD i 0)) := by simp [rowB, nums, h]
theorem rowB_set (ws : List Int) (i : Nat) (x : Int) : (rowB ws).setIfInBounds i (.int .u8 x) = rowB (ws.set i x) := by
  apply Array.ext'
  simp [rowB, nums, List.map_set]
theorem rowB_one (ws : List Int) : (rowB ws).all (·.oneCell') = true := by simp [rowB, nums, Value.oneCell']
end Go.Proofs.YtldkofdpohaahaaDoor.Pad
