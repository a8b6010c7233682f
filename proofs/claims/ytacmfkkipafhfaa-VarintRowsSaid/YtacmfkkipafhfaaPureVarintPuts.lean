/- Any number's bytes are those of the reference, and a row's are those of its numbers: the law over numbers and lists alone; for every input. -/
import Derived.Test.YtacmfkkipafhfaaPVarintPutsx2
import Derived.Test.YtacmfkkipafhfaaMath
namespace Go.Proofs.Ytacmfkkipafhfaa.Pure
open Go.RowKit Go.Proofs.Ytacmfkkipafhfaa.PVarintPuts Go.Proofs.Ytacmfkkipafhfaa.Math Go.Proofs.YtacmfkkipafhfaaW.PrintWords Go.Proofs.YtacmfkkipafhfaaW.PrintLast Go.Proofs.YtacmfkkipafhfaaW.PrintMore

/-! ### what the printed functions answer, by the plain law -/
theorem put_l0 (m : Nat) : ∀ (k : Nat) (x : Int) (acc : List Int), 0 ≤ x → x < 128 ^ m → m ≤ k → acc.length + m < 140737488355328 →
    1 ≤ m → varint_Put.l0 k x acc = some (acc ++ vput m x) := by
  induction m with
  | zero => intro k x acc _ _ _ _ h; omega
  | succ m ih =>
    intro k x acc h0 h1 hk ha _
    obtain ⟨k, rfl⟩ : ∃ j, k = j + 1 := ⟨k - 1, by omega⟩
    have hp := Int.pow_succ 128 m
    simp only [varint_Put.l0, vput]
    by_cases hx : x < 128
    · rw [if_neg (by omega), if_pos (by omega), if_pos hx]
      have : x % 256 = x := by omega
      rw [this]
    · rw [if_pos (by omega), if_pos (by omega), if_neg hx, or128]
      have hm : 1 ≤ m := by
        cases m with
        | zero => simp at h1; omega
        | succ m => omega
      rw [ih k (x / 128) _ (by omega) (by omega) (by omega) (by simp; omega) hm]
      simp

theorem put_f (k : Nat) (x : Int) (h0 : 0 ≤ x) (h1 : x < 4294967296) (hk : 5 ≤ k) : varint_Put.f k x = some (vput 5 x) := by
  unfold varint_Put.f
  rw [put_l0 5 k x [] h0 (by omega) hk (by simp) (by omega)]; rfl

theorem size_l0 (m : Nat) : ∀ (k : Nat) (x : Int) (s : Int), 0 ≤ x → x < 128 ^ m → m ≤ k → 0 ≤ s → s + m ≤ 1000 →
    1 ≤ m → varint_Size.l0 k x s = some (s + (vput m x).length - 1) := by
  induction m with
  | zero => intro k x acc _ _ _ _ _ h; omega
  | succ m ih =>
    intro k x s h0 h1 hk hs hs1 _
    obtain ⟨k, rfl⟩ : ∃ j, k = j + 1 := ⟨k - 1, by omega⟩
    have hp := Int.pow_succ 128 m
    simp only [varint_Size.l0, vput]
    by_cases hx : x < 128
    · rw [if_neg (by omega), if_pos hx]
      simp
    · rw [if_pos (by omega), if_neg hx]
      have hm : 1 ≤ m := by
        cases m with
        | zero => simp at h1; omega
        | succ m => omega
      have e : wrap64 (s + 1) = s + 1 := by unfold wrap64; omega
      rw [e, ih k (x / 128) (s + 1) (by omega) (by omega) (by omega) (by omega) (by omega) hm]
      simp only [List.length_cons]
      congr 1; omega

theorem size_f (k : Nat) (x : Int) (h0 : 0 ≤ x) (h1 : x < 4294967296) (hk : 5 ≤ k) : varint_Size.f k x = some ((vput 5 x).length : Int) := by
  unfold varint_Size.f
  rw [size_l0 5 k x 1 h0 (by omega) hk (by omega) (by omega) (by omega)]
  congr 1; omega

theorem get_l0 (b : List Int) (hb : ∀ x ∈ b, 0 ≤ x ∧ x < 256) (d : Nat) : ∀ (k i : Nat) (n : Int), i + d = 5 → 1 ≤ d → 2 * d ≤ k → 0 ≤ n → n < 128 ^ i →
    varint_Get.l0 k b n i = some ((gget (b.drop i) i n).1 % 4294967296, (gget (b.drop i) i n).2) := by
  induction d with
  | zero => intro k i n _ h; omega
  | succ d ih =>
    intro k i n hi _ hk h0 h1
    obtain ⟨k, rfl⟩ : ∃ j, k = j + 2 := ⟨k - 2, by omega⟩
    have hi4 : i ≤ 4 := by omega
    simp only [varint_Get.l0]
    rw [if_pos (by omega)]
    by_cases hl : i < b.length
    · rw [if_neg (by omega), if_pos (by omega), if_pos (by omega), drop_rd b i hl]
      obtain ⟨hx0, hx1⟩ := hb _ (rd_mem b i hl)
      generalize rd b (i : Int) = x at hx0 hx1
      have e : (if (i : Int) = 4 then varint_Get.j1 (k + 1) b n i x i (decide (x > 15)) else varint_Get.j1 (k + 1) b n i x i false) = varint_Get.j1 (k + 1) b n i x i (decide (i = 4 ∧ x > 15)) := by
        by_cases h4 : i = 4
        · subst h4; simp
        · rw [if_neg (by omega)]; simp [h4]
      rw [e]
      simp only [varint_Get.j1, gget, decide_eq_true_eq]
      by_cases c1 : i = 4 ∧ x > 15
      · rw [if_pos c1, if_pos c1]; rfl
      · rw [if_neg c1, if_neg c1]
        have e7 : 0 ≤ wrap64 (7 * (i : Int)) := by rw [show wrap64 (7 * (i : Int)) = 7 * (i : Int) by unfold wrap64; omega]; omega
        have e8 : wrap64 ((i : Int) + 1) = (i : Int) + 1 := by unfold wrap64; omega
        rw [if_pos e7, or_shl n x i hi4 h0 h1 hx0 hx1, e8]
        by_cases c2 : x < 128
        · rw [if_pos c2, if_pos c2]
          have e9 : x % 128 = x := by omega
          by_cases c3 : x = 0
          · rw [if_pos c3]
            by_cases c4 : i > 0
            · rw [if_pos (by omega), if_pos ⟨c3, c4⟩]; rfl
            · rw [if_neg (by omega), if_neg (by omega), e9]
          · rw [if_neg c3, if_neg (by omega), e9]
        · rw [if_neg c2, if_neg c2]
          have := ih k (i + 1) (n + x % 128 * 128 ^ i) (by omega) (by omega) (by omega) (by
            have : 0 ≤ x % 128 * 128 ^ i := Int.mul_nonneg (by omega) (Int.pow_nonneg (by decide))
            omega) (by rcases pow_le5 hi4 with rfl | rfl | rfl | rfl | rfl <;> omega)
          rw [show (((i + 1 : Nat) : Int)) = (i : Int) + 1 by omega] at this
          exact this
    · rw [if_pos (by omega), List.drop_eq_nil_of_le (by omega)]; rfl

theorem gget_lt (b : List Int) (hb : ∀ x ∈ b, 0 ≤ x ∧ x < 256) : 0 ≤ (gget b 0 0).1 ∧ (gget b 0 0).1 < 4294967296 := by
  rcases gget_once b 0 0 5 hb (by omega) (by omega) with ⟨e, _, h⟩ | ⟨v, u, h, _, _, h0, _, _, h1, _⟩
  · rw [h]; exact ⟨Int.le_refl 0, by show (0 : Int) < 4294967296; omega⟩
  · rw [h]
    show 0 ≤ 0 + v * 128 ^ 0 ∧ 0 + v * 128 ^ 0 < 4294967296
    omega

theorem get_f (k : Nat) (b : List Int) (hb : ∀ x ∈ b, 0 ≤ x ∧ x < 256) (hk : 10 ≤ k) : varint_Get.f k b = some (gget b 0 0) := by
  unfold varint_Get.f
  have := get_l0 b hb 5 k 0 0 (by omega) (by omega) (by omega) (by omega) (by simp)
  rw [show ((0 : Nat) : Int) = 0 from rfl] at this
  rw [this]
  obtain ⟨h0, h1⟩ := gget_lt b hb
  have e : (gget (b.drop 0) 0 0).1 % 4294967296 = (gget (b.drop 0) 0 0).1 := by rw [List.drop_zero]; omega
  rw [e, List.drop_zero]

theorem awake_f (k : Nat) (hk : 10 ≤ k) : alibilaw01_awake.f k = some true := by
  unfold alibilaw01_awake.f
  rw [get_f k _ (by decide) hk, put_f k 300 (by omega) (by omega) (by omega), size_f k 300 (by omega) (by omega) (by omega)]
  decide +kernel

theorem rput_f (m : Nat) : ∀ (k : Nat) (n : Int), 0 ≤ n → n < 128 ^ m → n < 4294967296 → m ≤ k → m ≤ 1000 → 1 ≤ m → alibiref01_Put.f k n = some (vput m n) := by
  induction m with
  | zero => intro k n _ _ _ _ _ h; omega
  | succ m ih =>
    intro k n h0 h1 hn hk hb _
    obtain ⟨k, rfl⟩ : ∃ j, k = j + 1 := ⟨k - 1, by omega⟩
    have hp := Int.pow_succ 128 m
    simp only [alibiref01_Put.f, vput]
    by_cases hx : n < 128
    · rw [if_pos hx, if_pos hx, show n % 256 = n by omega]
    · rw [if_neg hx, if_neg hx]
      have hm : 1 ≤ m := by
        cases m with
        | zero => simp at h1; omega
        | succ m => omega
      have e1 : wrap64 (n.tdiv 128) = n / 128 := by
        rw [Int.tdiv_eq_ediv_of_nonneg h0]; unfold wrap64; omega
      have e2 : wrap64 (128 + n.tmod 128) % 256 = 128 + n % 128 := by
        rw [Int.tmod_eq_emod_of_nonneg h0]; unfold wrap64; omega
      have hl := vput_length_le m (n / 128)
      rw [e1, e2, ih k (n / 128) (by omega) (by omega) (by omega) (by omega) (by omega) hm]
      simp only [Option.bind_some, List.length_singleton]
      rw [if_pos (by omega)]; rfl

def rowOf (l : List Int) : List Int := l.flatMap (vput 5)
theorem rowOf_length (l : List Int) : (rowOf l).length ≤ 5 * l.length := by
  induction l with
  | nil => simp [rowOf]
  | cons x r ih =>
    have := vput_length_le 5 x
    unfold rowOf at ih ⊢
    simp only [List.flatMap_cons, List.length_append, List.length_cons]; omega

theorem row_l0 (l : List Int) (hl : ∀ x ∈ l, 0 ≤ x ∧ x < 4294967296) (hb : l.length ≤ 2000) (d : Nat) : ∀ (k i : Nat) (acc : List Int), i + d = l.length → d + 6 ≤ k → acc.length + 5 * d ≤ 100000 →
    varint_Row.l0 k acc l (l.length : Int) (i : Int) = some (acc ++ rowOf (l.drop i)) := by
  induction d with
  | zero =>
    intro k i acc hi hk ha
    obtain ⟨k, rfl⟩ : ∃ j, k = j + 1 := ⟨k - 1, by omega⟩
    simp only [varint_Row.l0]
    rw [if_neg (by omega), List.drop_eq_nil_of_le (by omega)]; simp [rowOf]
  | succ d ih =>
    intro k i acc hi hk ha
    obtain ⟨k, rfl⟩ : ∃ j, k = j + 1 := ⟨k - 1, by omega⟩
    simp only [varint_Row.l0]
    have hlt : i < l.length := by omega
    obtain ⟨h0, h1⟩ := hl _ (rd_mem l i hlt)
    have hv := vput_length_le 5 (rd l (i : Int))
    rw [if_pos (by omega), if_pos (by omega), if_pos (by omega), put_f k _ h0 h1 (by omega), Option.bind_some, if_pos (by omega), show wrap64 ((i : Int) + 1) = ((i + 1 : Nat) : Int) by unfold wrap64; omega,
      ih k (i + 1) _ (by omega) (by omega) (by rw [List.length_append]; omega), drop_rd l i hlt]
    simp [rowOf]

theorem row_f (l : List Int) (hl : ∀ x ∈ l, 0 ≤ x ∧ x < 4294967296) (hb : l.length ≤ 2000) (k : Nat) (hk : l.length + 6 ≤ k) : varint_Row.f k l = some (rowOf l) := by
  unfold varint_Row.f
  have := row_l0 l hl hb l.length k 0 [] (by omega) hk (by simp; omega)
  simpa using this

theorem str_append (a b : List Int) : strOfNums a ++ strOfNums b = strOfNums (a ++ b) := by
  apply ByteArray.ext
  rw [ByteArray.data_append]
  simp [strOfNums]

theorem want_l0 (n : Int) (n0 : 0 ≤ n) (n1 : n < 4294967296) (l : List Int) (hl : ∀ x ∈ l, 0 ≤ x ∧ x < 4294967296) (hb : l.length ≤ 2000) (d : Nat) : ∀ (k i : Nat) (acc : List Int), i + d = l.length → d + l.length + 7 ≤ k → acc.length + 5 * d ≤ 100000 →
    acc ++ rowOf (l.drop i) = rowOf l → alibilaw01_VarintPuts.l0 k n l (strOfNums acc) (i : Int) = some true := by
  induction d with
  | zero =>
    intro k i acc hi hk ha he
    obtain ⟨k, rfl⟩ : ∃ j, k = j + 1 := ⟨k - 1, by omega⟩
    simp only [alibilaw01_VarintPuts.l0]
    have en : wrap64 n = n := by unfold wrap64; omega
    rw [if_neg (by omega), put_f k _ n0 n1 (by omega), en, rput_f 5 k n n0 (by omega) n1 (by omega) (by omega) (by omega), Option.bind_some, Option.bind_some, if_pos rfl,
      size_f k _ n0 n1 (by omega), Option.bind_some, Option.bind_some, if_pos rfl, row_f l hl hb k (by omega), Option.bind_some]
    rw [List.drop_eq_nil_of_le (by omega)] at he
    have : acc = rowOf l := by simpa [rowOf] using he
    rw [this]; simp
  | succ d ih =>
    intro k i acc hi hk ha he
    obtain ⟨k, rfl⟩ : ∃ j, k = j + 1 := ⟨k - 1, by omega⟩
    simp only [alibilaw01_VarintPuts.l0]
    have hlt : i < l.length := by omega
    obtain ⟨h0, h1⟩ := hl _ (rd_mem l i hlt)
    have hv := vput_length_le 5 (rd l (i : Int))
    have en : wrap64 (rd l (i : Int)) = rd l (i : Int) := by
      generalize rd l (i : Int) = y at h0 h1
      unfold wrap64; omega
    rw [if_pos (by omega), if_pos (by omega), en, rput_f 5 k _ h0 (by omega) h1 (by omega) (by omega) (by omega), Option.bind_some, if_pos (by rw [strOfNums_size, strOfNums_size]; omega), str_append,
      show wrap64 ((i : Int) + 1) = ((i + 1 : Nat) : Int) by unfold wrap64; omega]
    refine ih k (i + 1) _ (by omega) (by omega) (by rw [List.length_append]; omega) ?_
    rw [← he, drop_rd l i hlt]
    simp [rowOf]

theorem VarintPuts : alibilaw01_VarintPuts.Pure := by
  intro n l hn hl hl2 hw
  have hb : ∀ x ∈ l, 0 ≤ x ∧ x < 4294967296 := fun x h => wf_u32 (hw x h)
  obtain ⟨n0, n1⟩ := wf_u32 hn
  refine ⟨2 * l.length + 20, ?_⟩
  unfold alibilaw01_VarintPuts.f
  rw [awake_f _ (by omega)]
  simp only [Option.bind_some, if_true]
  obtain ⟨k, hk⟩ : ∃ k, 2 * l.length + 20 = k + 1 := ⟨2 * l.length + 19, by omega⟩
  rw [hk]
  simp only [alibilaw01_VarintPuts.j0]
  by_cases h : (l.length : Int) > 2000
  · rw [if_pos (by simpa using h), awake_f _ (by omega)]; rfl
  · rw [if_neg (by simpa using h)]
    exact want_l0 n n0 n1 l hb (by omega) l.length k 0 [] (by omega) (by omega) (by simp; omega) (by simp)

end Go.Proofs.Ytacmfkkipafhfaa.Pure
