/- What any bytes begin with is the number, the length and the error that the reference tells: the law over numbers and lists alone; for every input. -/
import Derived.Test.YtacmfkkipafhfaaPVarintGetsx2
import Derived.Test.YtacmfkkipafhfaaMath
namespace Go.Proofs.Ytacmfkkipafhfaa.Pure
open Go.RowKit Go.Proofs.Ytacmfkkipafhfaa.PVarintGets Go.Proofs.Ytacmfkkipafhfaa.Math Go.Proofs.YtacmfkkipafhfaaW.PrintWords Go.Proofs.YtacmfkkipafhfaaW.PrintLast Go.Proofs.YtacmfkkipafhfaaW.PrintMore

/-! ### what the printed functions answer, by the plain law -/
theorem put_l0 (m : Nat) : ∀ (k : Nat) (x : Int) (acc : List Int), 0 ≤ x → x < 128 ^ m → m ≤ k → acc.length + m < 140737488355328 →
    1 ≤ m → varint_Put.l0 k x acc = some (acc ++ vput m x) := by
  induction m with
  | zero => intro k x acc _ _ _ _ h; omega
  | succ m ih =>
    intro k x acc h0 h1 hk ha _
    obtain ⟨k, rfl⟩ : ∃ j, k = j + 1 := ⟨k - 1, by omega⟩
    have hp := Int.pow_succ 128 m
    simp only [varint_Put.l0, vput]
    by_cases hx : x < 128
    · rw [if_neg (by omega), if_pos (by omega), if_pos hx]
      have : x % 256 = x := by omega
      rw [this]
    · rw [if_pos (by omega), if_pos (by omega), if_neg hx, or128]
      have hm : 1 ≤ m := by
        cases m with
        | zero => simp at h1; omega
        | succ m => omega
      rw [ih k (x / 128) _ (by omega) (by omega) (by omega) (by simp; omega) hm]
      simp

theorem put_f (k : Nat) (x : Int) (h0 : 0 ≤ x) (h1 : x < 4294967296) (hk : 5 ≤ k) : varint_Put.f k x = some (vput 5 x) := by
  unfold varint_Put.f
  rw [put_l0 5 k x [] h0 (by omega) hk (by simp) (by omega)]; rfl

theorem size_l0 (m : Nat) : ∀ (k : Nat) (x : Int) (s : Int), 0 ≤ x → x < 128 ^ m → m ≤ k → 0 ≤ s → s + m ≤ 1000 →
    1 ≤ m → varint_Size.l0 k x s = some (s + (vput m x).length - 1) := by
  induction m with
  | zero => intro k x acc _ _ _ _ _ h; omega
  | succ m ih =>
    intro k x s h0 h1 hk hs hs1 _
    obtain ⟨k, rfl⟩ : ∃ j, k = j + 1 := ⟨k - 1, by omega⟩
    have hp := Int.pow_succ 128 m
    simp only [varint_Size.l0, vput]
    by_cases hx : x < 128
    · rw [if_neg (by omega), if_pos hx]
      simp
    · rw [if_pos (by omega), if_neg hx]
      have hm : 1 ≤ m := by
        cases m with
        | zero => simp at h1; omega
        | succ m => omega
      have e : wrap64 (s + 1) = s + 1 := by unfold wrap64; omega
      rw [e, ih k (x / 128) (s + 1) (by omega) (by omega) (by omega) (by omega) (by omega) hm]
      simp only [List.length_cons]
      congr 1; omega

theorem size_f (k : Nat) (x : Int) (h0 : 0 ≤ x) (h1 : x < 4294967296) (hk : 5 ≤ k) : varint_Size.f k x = some ((vput 5 x).length : Int) := by
  unfold varint_Size.f
  rw [size_l0 5 k x 1 h0 (by omega) hk (by omega) (by omega) (by omega)]
  congr 1; omega

theorem get_l0 (b : List Int) (hb : ∀ x ∈ b, 0 ≤ x ∧ x < 256) (d : Nat) : ∀ (k i : Nat) (n : Int), i + d = 5 → 1 ≤ d → 2 * d ≤ k → 0 ≤ n → n < 128 ^ i →
    varint_Get.l0 k b n i = some ((gget (b.drop i) i n).1 % 4294967296, (gget (b.drop i) i n).2) := by
  induction d with
  | zero => intro k i n _ h; omega
  | succ d ih =>
    intro k i n hi _ hk h0 h1
    obtain ⟨k, rfl⟩ : ∃ j, k = j + 2 := ⟨k - 2, by omega⟩
    have hi4 : i ≤ 4 := by omega
    simp only [varint_Get.l0]
    rw [if_pos (by omega)]
    by_cases hl : i < b.length
    · rw [if_neg (by omega), if_pos (by omega), if_pos (by omega), drop_rd b i hl]
      obtain ⟨hx0, hx1⟩ := hb _ (rd_mem b i hl)
      generalize rd b (i : Int) = x at hx0 hx1
      have e : (if (i : Int) = 4 then varint_Get.j1 (k + 1) b n i x i (decide (x > 15)) else varint_Get.j1 (k + 1) b n i x i false) = varint_Get.j1 (k + 1) b n i x i (decide (i = 4 ∧ x > 15)) := by
        by_cases h4 : i = 4
        · subst h4; simp
        · rw [if_neg (by omega)]; simp [h4]
      rw [e]
      simp only [varint_Get.j1, gget, decide_eq_true_eq]
      by_cases c1 : i = 4 ∧ x > 15
      · rw [if_pos c1, if_pos c1]; rfl
      · rw [if_neg c1, if_neg c1]
        have e7 : 0 ≤ wrap64 (7 * (i : Int)) := by rw [show wrap64 (7 * (i : Int)) = 7 * (i : Int) by unfold wrap64; omega]; omega
        have e8 : wrap64 ((i : Int) + 1) = (i : Int) + 1 := by unfold wrap64; omega
        rw [if_pos e7, or_shl n x i hi4 h0 h1 hx0 hx1, e8]
        by_cases c2 : x < 128
        · rw [if_pos c2, if_pos c2]
          have e9 : x % 128 = x := by omega
          by_cases c3 : x = 0
          · rw [if_pos c3]
            by_cases c4 : i > 0
            · rw [if_pos (by omega), if_pos ⟨c3, c4⟩]; rfl
            · rw [if_neg (by omega), if_neg (by omega), e9]
          · rw [if_neg c3, if_neg (by omega), e9]
        · rw [if_neg c2, if_neg c2]
          have := ih k (i + 1) (n + x % 128 * 128 ^ i) (by omega) (by omega) (by omega) (by
            have : 0 ≤ x % 128 * 128 ^ i := Int.mul_nonneg (by omega) (Int.pow_nonneg (by decide))
            omega) (by rcases pow_le5 hi4 with rfl | rfl | rfl | rfl | rfl <;> omega)
          rw [show (((i + 1 : Nat) : Int)) = (i : Int) + 1 by omega] at this
          exact this
    · rw [if_pos (by omega), List.drop_eq_nil_of_le (by omega)]; rfl

theorem gget_lt (b : List Int) (hb : ∀ x ∈ b, 0 ≤ x ∧ x < 256) : 0 ≤ (gget b 0 0).1 ∧ (gget b 0 0).1 < 4294967296 := by
  rcases gget_once b 0 0 5 hb (by omega) (by omega) with ⟨e, _, h⟩ | ⟨v, u, h, _, _, h0, _, _, h1, _⟩
  · rw [h]; exact ⟨Int.le_refl 0, by show (0 : Int) < 4294967296; omega⟩
  · rw [h]
    show 0 ≤ 0 + v * 128 ^ 0 ∧ 0 + v * 128 ^ 0 < 4294967296
    omega

theorem get_f (k : Nat) (b : List Int) (hb : ∀ x ∈ b, 0 ≤ x ∧ x < 256) (hk : 10 ≤ k) : varint_Get.f k b = some (gget b 0 0) := by
  unfold varint_Get.f
  have := get_l0 b hb 5 k 0 0 (by omega) (by omega) (by omega) (by omega) (by simp)
  rw [show ((0 : Nat) : Int) = 0 from rfl] at this
  rw [this]
  obtain ⟨h0, h1⟩ := gget_lt b hb
  have e : (gget (b.drop 0) 0 0).1 % 4294967296 = (gget (b.drop 0) 0 0).1 := by rw [List.drop_zero]; omega
  rw [e, List.drop_zero]

theorem awake_f (k : Nat) (hk : 10 ≤ k) : alibilaw01_awake.f k = some true := by
  unfold alibilaw01_awake.f
  rw [get_f k _ (by decide) hk, put_f k 300 (by omega) (by omega) (by omega), size_f k 300 (by omega) (by omega) (by omega)]
  decide +kernel

theorem rget_l0 (b : List Int) (hb : ∀ x ∈ b, 0 ≤ x ∧ x < 256) (d : Nat) : ∀ (k i : Nat) (n : Int), i + d = 5 → 1 ≤ d → 2 * d ≤ k → 0 ≤ n → n < 128 ^ i →
    alibiref01_Get.l0 k b n (128 ^ i) i = some (gget (b.drop i) i n) := by
  induction d with
  | zero => intro k i n _ h; omega
  | succ d ih =>
    intro k i n hi _ hk h0 h1
    obtain ⟨k, rfl⟩ : ∃ j, k = j + 2 := ⟨k - 2, by omega⟩
    have hi4 : i ≤ 4 := by omega
    simp only [alibiref01_Get.l0]
    by_cases hl : i < b.length
    · rw [if_pos (by omega), drop_rd b i hl]
      obtain ⟨hx0, hx1⟩ := hb _ (rd_mem b i hl)
      have e : (if (i : Int) = 4 then (if 0 ≤ (i : Int) then alibiref01_Get.j1 (k + 1) b n (128 ^ i) i (decide (rd b (i : Int) > 15)) else none) else alibiref01_Get.j1 (k + 1) b n (128 ^ i) i false) = alibiref01_Get.j1 (k + 1) b n (128 ^ i) i (decide (i = 4 ∧ rd b (i : Int) > 15)) := by
        by_cases h4 : i = 4
        · subst h4; simp
        · rw [if_neg (by omega)]; simp [h4]
      rw [e]
      simp only [alibiref01_Get.j1, gget, decide_eq_true_eq]
      generalize rd b (i : Int) = x at hx0 hx1
      by_cases c1 : i = 4 ∧ x > 15
      · rw [if_pos c1, if_pos c1]
      · rw [if_neg c1, if_neg c1, if_pos (by omega), if_pos (by omega)]
        have e8 : wrap64 ((i : Int) + 1) = (i : Int) + 1 := by unfold wrap64; omega
        have et : wrap64 (x.tmod 128) = x % 128 := by rw [Int.tmod_eq_emod_of_nonneg hx0]; unfold wrap64; omega
        have em : wrap64 (128 ^ i * (x % 128)) = x % 128 * 128 ^ i := by
          rw [Int.mul_comm]; unfold wrap64; rcases pow_le5 hi4 with rfl | rfl | rfl | rfl | rfl <;> omega
        have ea : wrap64 (n + x % 128 * 128 ^ i) = n + x % 128 * 128 ^ i := by
          unfold wrap64; rcases pow_le5 hi4 with rfl | rfl | rfl | rfl | rfl <;> omega
        have ep : wrap64 (128 ^ i * 128) = 128 ^ (i + 1) := by
          unfold wrap64; rcases pow_le5 hi4 with rfl | rfl | rfl | rfl | rfl <;> omega
        rw [et, em, ea, ep, e8]
        by_cases c2 : x < 128
        · rw [if_pos c2, if_pos c2]
          have e9 : x % 128 = x := by omega
          by_cases c4 : i > 0
          · rw [if_pos (by omega)]
            by_cases c3 : x = 0
            · rw [if_pos c3, if_pos ⟨c3, c4⟩]
            · rw [if_neg c3, if_neg (by omega), e9]
          · rw [if_neg (by omega), if_neg (by omega), e9]
        · rw [if_neg c2, if_neg c2]
          have := ih k (i + 1) (n + x % 128 * 128 ^ i) (by omega) (by omega) (by omega) (by
            have : 0 ≤ x % 128 * 128 ^ i := Int.mul_nonneg (by omega) (Int.pow_nonneg (by decide))
            omega) (by rcases pow_le5 hi4 with rfl | rfl | rfl | rfl | rfl <;> omega)
          rw [show (((i + 1 : Nat) : Int)) = (i : Int) + 1 by omega] at this
          exact this
    · rw [if_neg (by omega), List.drop_eq_nil_of_le (by omega)]; rfl

theorem rget_f (k : Nat) (b : List Int) (hb : ∀ x ∈ b, 0 ≤ x ∧ x < 256) (hk : 10 ≤ k) : alibiref01_Get.f k b = some (gget b 0 0) := by
  unfold alibiref01_Get.f
  have := rget_l0 b hb 5 k 0 0 (by omega) (by omega) (by omega) (by omega) (by simp)
  simpa using this

theorem VarintGets : alibilaw01_VarintGets.Pure := by
  intro b hl hl2 hw
  have hb : ∀ x ∈ b, 0 ≤ x ∧ x < 256 := fun x h => wf_u8 (hw x h)
  refine ⟨12, ?_⟩
  unfold alibilaw01_VarintGets.f
  rw [awake_f _ (by omega)]
  simp only [Option.bind_some, if_true, alibilaw01_VarintGets.j0]
  by_cases h : (b.length : Int) > 2000
  · rw [if_pos (by simpa using h), awake_f _ (by omega)]; rfl
  · rw [if_neg (by simpa using h), get_f _ _ hb (by omega), rget_f _ _ hb (by omega)]
    simp only [Option.bind_some]
    obtain ⟨h0, h1⟩ := gget_lt b hb
    rw [if_pos (by unfold wrap64; omega)]
    simp

end Go.Proofs.Ytacmfkkipafhfaa.Pure
