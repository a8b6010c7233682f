/- The plain law of chapter 1: a number's bytes, reading them, and the sizes, over whole numbers and lists alone; no condition. -/
import Derived.RowKit
import Derived.Laws.Entries
import Derived.Laws.BitsLemmas
import Derived.Test.YtacmfkkipafhfaaWMore
import Derived.Test.YtacmfkkipafhfaaWSized
namespace Go.Proofs.Ytacmfkkipafhfaa.PrintWords
/-- the printed rows name this word so -/
abbrev sized_ints := @Go.Proofs.YtacmfkkipafhfaaW.PrintWords.sized_ints
end Go.Proofs.Ytacmfkkipafhfaa.PrintWords
namespace Go.Proofs.Ytacmfkkipafhfaa.Math
open Go.RowKit Go.Proofs.YtacmfkkipafhfaaW.PrintWords Go.Proofs.YtacmfkkipafhfaaW.PrintMore

/-- the bytes of a number below 128 ^ m -/
def vput : Nat → Int → List Int
  | 0, _ => []
  | m + 1, n => if n < 128 then [n] else (128 + n % 128) :: vput m (n / 128)

/-- what bytes begin with: the number, where it ends, the error -/
def gget : List Int → Nat → Int → Int × Int × Int
  | [], _, _ => (0, 0, 2)
  | x :: r, i, n => if i = 4 ∧ x > 15 then (0, 0, 4) else if x < 128 then (if x = 0 ∧ i > 0 then (0, 0, 3) else (n + x * 128 ^ i, (i : Int) + 1, 0)) else gget r (i + 1) (n + (x % 128) * 128 ^ i)

theorem vput_length_pos (m : Nat) (n : Int) : 1 ≤ (vput (m + 1) n).length := by
  unfold vput; split <;> simp

theorem vput_length_le (m : Nat) (n : Int) : (vput m n).length ≤ m := by
  induction m generalizing n with
  | zero => simp [vput]
  | succ m ih => unfold vput; split <;> simp; exact ih _

theorem pow_le5 {i : Nat} (hi : i ≤ 4) : i = 0 ∨ i = 1 ∨ i = 2 ∨ i = 3 ∨ i = 4 := by omega

theorem vput_succ (m : Nat) (n : Int) (h1 : n < 128 ^ (m + 1)) (h0 : 0 ≤ n) : vput (m + 2) n = vput (m + 1) n := by
  induction m generalizing n with
  | zero => have : n < 128 := by simpa using h1
            simp [vput, this]
  | succ m ih =>
    by_cases hn : n < 128
    · simp [vput, hn]
    · have hp := Int.pow_succ 128 (m + 1)
      have e : ∀ k, vput (k + 1) n = (128 + n % 128) :: vput k (n / 128) := fun k => by simp only [vput]; rw [if_neg hn]
      rw [e, e, ih (n / 128) (by omega) (by omega)]

/-- reading what was put, whatever stands behind -/
theorem gget_put (m : Nat) : ∀ (n : Int) (i : Nat) (a : Int) (more : List Int), 1 ≤ m → 0 ≤ n → n < 128 ^ m → i ≤ 4 → n * 128 ^ i < 4294967296 → (0 < i → 0 < n) →
    gget (vput m n ++ more) i a = (a + n * 128 ^ i, (i : Int) + (vput m n).length, 0) := by
  induction m with
  | zero => intro n i a more hm; omega
  | succ m ih =>
    intro n i a more _ h0 h1 hi h2 h3
    unfold vput
    by_cases hn : n < 128
    · rw [if_pos hn]
      simp only [List.cons_append, List.nil_append, gget, List.length_singleton]
      rw [if_neg, if_pos hn, if_neg]
      · simp
      · rintro ⟨e, hp⟩; have := h3 hp; omega
      · rintro ⟨rfl, hx⟩; omega
    · rw [if_neg hn]
      simp only [List.cons_append, gget, List.length_cons]
      have hi4 : i ≠ 4 := by rintro rfl; omega
      rw [if_neg (by omega), if_neg (by omega)]
      have hp := Int.pow_succ 128 m
      have hm : 1 ≤ m := by
        cases m with
        | zero => simp at h1; omega
        | succ m => omega
      rw [ih (n / 128) (i + 1) _ more hm (by omega) (by omega) (by omega) (by rcases pow_le5 hi with rfl | rfl | rfl | rfl | rfl <;> omega) (by omega)]
      have e1 : (128 + n % 128) % 128 = n % 128 := by omega
      rw [e1]
      congr 1
      · rcases pow_le5 hi with rfl | rfl | rfl | rfl | rfl <;> omega
      · congr 1; push_cast; omega

/-- each front of it is too short -/
theorem gget_front (m : Nat) : ∀ (n : Int) (i : Nat) (a : Int) (c : Nat), 0 ≤ n → n < 128 ^ m → i ≤ 4 → n * 128 ^ i < 4294967296 → c < (vput m n).length →
    gget ((vput m n).take c) i a = (0, 0, 2) := by
  induction m with
  | zero => intro n i a c h0 h1 hi h2 h3; simp [vput] at h3
  | succ m ih =>
    intro n i a c h0 h1 hi h2 h3
    unfold vput at h3 ⊢
    by_cases hn : n < 128
    · rw [if_pos hn] at h3 ⊢
      simp at h3; subst h3; simp [gget]
    · rw [if_neg hn] at h3 ⊢
      cases c with
      | zero => simp [gget]
      | succ c =>
        simp only [List.take_succ_cons, gget]
        have hi4 : i ≠ 4 := by rintro rfl; omega
        rw [if_neg (by omega), if_neg (by omega)]
        have hp := Int.pow_succ 128 m
        exact ih (n / 128) (i + 1) _ c (by omega) (by omega) (by omega) (by rcases pow_le5 hi with rfl | rfl | rfl | rfl | rfl <;> omega) (by simpa using h3)

/-- what is read has just these bytes -/
theorem gget_once (l : List Int) : ∀ (i : Nat) (a : Int) (m : Nat), (∀ x ∈ l, 0 ≤ x ∧ x < 256) → i + m = 5 → 1 ≤ m →
    (∃ e, e ≠ 0 ∧ gget l i a = (0, 0, e)) ∨
    (∃ v : Int, ∃ u : Nat, gget l i a = (a + v * 128 ^ i, (i : Int) + u, 0) ∧ 1 ≤ u ∧ u ≤ l.length ∧ 0 ≤ v ∧ v < 128 ^ m ∧ (0 < i → 0 < v) ∧ v * 128 ^ i < 4294967296 ∧ vput m v = l.take u) := by
  induction l with
  | nil => intro i a m hb hi hm; exact .inl ⟨2, by decide, rfl⟩
  | cons x r ih =>
    intro i a m hb hi hm
    obtain ⟨hx0, hx1⟩ := hb x (by simp)
    have hi4 : i ≤ 4 := by omega
    obtain ⟨m, rfl⟩ : ∃ k, m = k + 1 := ⟨m - 1, by omega⟩
    have hp := Int.pow_succ 128 m
    have hq : (0 : Int) < 128 ^ m := Int.pow_pos (by decide)
    simp only [gget]
    by_cases c1 : i = 4 ∧ x > 15
    · rw [if_pos c1]; exact .inl ⟨4, by decide, rfl⟩
    · rw [if_neg c1]
      by_cases c2 : x < 128
      · rw [if_pos c2]
        by_cases c3 : x = 0 ∧ i > 0
        · rw [if_pos c3]; exact .inl ⟨3, by decide, rfl⟩
        · rw [if_neg c3]
          refine .inr ⟨x, 1, rfl, by omega, by simp, hx0, by omega, by omega, ?_, ?_⟩
          · rcases pow_le5 hi4 with rfl | rfl | rfl | rfl | rfl <;> omega
          · simp [vput, c2]
      · rw [if_neg c2]
        have hi3 : i ≠ 4 := by omega
        rcases ih (i + 1) (a + (x % 128) * 128 ^ i) m (fun y hy => hb y (by simp [hy])) (by omega) (by omega) with ⟨e, he, h⟩ | ⟨v, u, h, h1, h2, h3, h4, h5, h6, h7⟩
        · exact .inl ⟨e, he, h⟩
        · have hv := h5 (by omega)
          refine .inr ⟨x % 128 + 128 * v, u + 1, ?_, by omega, by simp; omega, by omega, by omega, by omega, ?_, ?_⟩
          · rw [h]
            congr 1
            · rcases pow_le5 hi4 with rfl | rfl | rfl | rfl | rfl <;> omega
            · congr 1; push_cast; omega
          · rcases pow_le5 hi4 with rfl | rfl | rfl | rfl | rfl <;> omega
          · rw [vput, if_neg (by omega), List.take_succ_cons]
            congr 1
            · omega
            · rw [← h7]; congr 1; omega

/-- a greater number has no fewer bytes -/
theorem vput_mono (m : Nat) : ∀ (a b : Int), a ≤ b → (vput m a).length ≤ (vput m b).length := by
  induction m with
  | zero => intro a b h; simp [vput]
  | succ m ih =>
    intro a b h
    unfold vput
    by_cases ha : a < 128
    · rw [if_pos ha]; split <;> simp
    · rw [if_neg ha, if_neg (by omega)]
      simp only [List.length_cons]
      have := ih (a / 128) (b / 128) (by omega)
      omega

theorem vput_shift (m : Nat) (a : Int) (h : 0 < a) (hm : a < 128 ^ (m + 1)) : (vput (m + 2) (128 * a)).length = (vput (m + 2) a).length + 1 := by
  rw [vput_succ m a hm (by omega)]
  rw [vput, if_neg (by omega)]
  have : 128 * a / 128 = a := by omega
  rw [this]; simp

/-! ### bits -/
theorem or128 (x : Int) : bits .or .u8 (x % 256) 128 = 128 + x % 128 := by
  have h : ∀ n : Fin 256, bits .or .u8 ((n.val : Nat) : Int) 128 = 128 + ((n.val : Nat) : Int) % 128 := by decide +kernel
  have := h ⟨(x % 256).toNat, by omega⟩
  have e : (((x % 256).toNat : Nat) : Int) = x % 256 := by omega
  rw [e] at this
  rw [this]; omega

theorem wraps_u64 (n : Int) (h₀ : 0 ≤ n) (h₁ : n < 2 ^ 64) : IntKind.u64.wrap n = n := by
  simp [IntKind.wrap, IntKind.bits, IntKind.signed]
  omega

theorem or_shl (a x : Int) (i : Nat) (hi : i ≤ 4) (h0 : 0 ≤ a) (h1 : a < 128 ^ i) (hx0 : 0 ≤ x) (hx1 : x < 256) :
    bits .or .u64 a (shl .u64 (IntKind.u64.wrap (bits .and .u8 x 127)) (wrap64 (7 * (i : Int)))) = a + (x % 128) * 128 ^ i := by
  have e1 : bits .and .u8 x 127 = x % 128 := bits_mask .u8 8 (by decide) wraps_u8 7 (by decide) x hx0 hx1
  have e2 : IntKind.u64.wrap (x % 128) = x % 128 := wraps_u64 _ (by omega) (by omega)
  have e3 : wrap64 (7 * (i : Int)) = 7 * (i : Int) := by unfold wrap64; omega
  rw [e1, e2, e3]
  have e4 : shl .u64 (x % 128) (7 * (i : Int)) = (x % 128) * 128 ^ i := by
    unfold shl
    rcases pow_le5 hi with rfl | rfl | rfl | rfl | rfl
    all_goals (simp [IntKind.bits]; rw [wraps_u64 _ (by omega) (by omega)])
  rw [e4]
  have hc : bits .or .u64 a ((x % 128) * 128 ^ i) = bits .or .u64 ((x % 128) * 128 ^ i) a := by
    simp only [bits]; rw [BitVec.or_comm]
  rw [hc]
  rw [bits_join .u64 63 (by decide) (fun n h h' => wraps_u64 n h (by omega)) (7 * i)]
  · omega
  · exact Int.mul_nonneg (by omega) (Int.pow_nonneg (by decide))
  · rcases pow_le5 hi with rfl | rfl | rfl | rfl | rfl <;> omega
  · rcases pow_le5 hi with rfl | rfl | rfl | rfl | rfl <;> omega
  · exact h0
  · rcases pow_le5 hi with rfl | rfl | rfl | rfl | rfl <;> omega
  · rcases pow_le5 hi with rfl | rfl | rfl | rfl | rfl <;> omega

theorem wf_u8 {x : Int} (h : (Lit.int .u8 x).wf = true) : 0 ≤ x ∧ x < 256 := by
  simp [Lit.wf, IntKind.min, IntKind.max, IntKind.signed, IntKind.bits] at h; omega
theorem wf_u32 {x : Int} (h : (Lit.int .u32 x).wf = true) : 0 ≤ x ∧ x < 4294967296 := by
  simp [Lit.wf, IntKind.min, IntKind.max, IntKind.signed, IntKind.bits] at h; omega

theorem rd_nat (l : List Int) (i : Nat) : rd l (i : Int) = l.getD i 0 := by unfold rd; simp
theorem drop_rd (l : List Int) (i : Nat) (h : i < l.length) : l.drop i = rd l (i : Int) :: l.drop (i + 1) := by
  rw [rd_nat, List.drop_eq_getElem_cons h]; simp [h]
theorem rd_mem (l : List Int) (i : Nat) (h : i < l.length) : rd l (i : Int) ∈ l := by
  rw [rd_nat]; simp [h]
end Go.Proofs.Ytacmfkkipafhfaa.Math
