/- Certificates: the plain law of chapter 18 (whether a section, a justification, a certificate may be), as the program and the reference tell it; over data alone. -/
import Derived.Test.YtbemdnjcnmponaaSection
import Derived.Test.YtbemdnjcnmponaaPCertChecksx1
import Derived.Test.YtbemdnjcnmponaaPCertChecksx2
namespace Go.Proofs.Ytbemdnjcnmponaa.Plain
open Go.RowKit Go.Proofs.YtbemdnjcnmponaaW.PrintWords Go.Proofs.YtbemdnjcnmponaaW.PrintMore Go.Proofs.Ytbemdnjcnmponaa.PCertSame Go.Proofs.Ytbemdnjcnmponaa.Data Go.Proofs.Ytbemdnjcnmponaa.Within Go.Proofs.Ytbemdnjcnmponaa.Section

theorem and_not_zero (a : BitVec 32) (j : Nat) : (a &&& ~~~(BitVec.ofNat 32 (2 ^ j - 1))) = 0#32 ↔ a.toNat < 2 ^ j := by
  constructor
  · intro h
    apply Nat.lt_pow_two_of_testBit
    intro i hi
    by_cases h32 : i < 32
    · have h2 := congrArg (fun x : BitVec 32 => x.getLsbD i) h
      simp only [BitVec.getLsbD_and, BitVec.getLsbD_not, BitVec.getLsbD_ofNat, h32, decide_true, Bool.true_and, Nat.testBit_two_pow_sub_one] at h2
      have : decide (i < j) = false := decide_eq_false (by omega)
      rw [this] at h2
      simpa [BitVec.getLsbD] using h2
    · exact Nat.testBit_lt_two_pow (Nat.lt_of_lt_of_le a.isLt (Nat.pow_le_pow_right (by omega) (by omega)))
  · intro h
    apply BitVec.eq_of_getLsbD_eq
    intro i hi
    simp only [BitVec.getLsbD_and, BitVec.getLsbD_not, BitVec.getLsbD_ofNat, hi, decide_true, Bool.true_and, Nat.testBit_two_pow_sub_one]
    by_cases hij : i < j
    · simp [hij]
    · have : a.getLsbD i = false := by
        unfold BitVec.getLsbD
        exact Nat.testBit_lt_two_pow (Nat.lt_of_lt_of_le h (Nat.pow_le_pow_right (by omega) (by omega)))
      simp [this]

theorem out_zero (j : Nat) (m : Int) (hm : u32 m) : (out m (2 ^ j - 1) == 0) = decide (m < 2 ^ j) := by
  obtain ⟨a, rfl⟩ := Int.eq_ofNat_of_zero_le hm.1
  have ha : a < 4294967296 := by have := hm.2; omega
  have e1 : ((2 : Int) ^ j - 1) = ((2 ^ j - 1 : Nat) : Int) := by
    rw [Int.natCast_sub (Nat.two_pow_pos j)]; simp
  have h := and_not_zero (BitVec.ofNat 32 a) j
  have e2 : (BitVec.ofNat 32 a).toNat = a := by simp; omega
  rw [e2] at h
  rw [e1]
  have e0 : out (a : Int) ((2 ^ j - 1 : Nat) : Int) = IntKind.u32.wrap (((BitVec.ofInt 32 (a : Int) &&& ~~~(BitVec.ofInt 32 ((2 ^ j - 1 : Nat) : Int))).toNat : Nat) : Int) := rfl
  rw [BitVec.ofInt_natCast, BitVec.ofInt_natCast] at e0
  have hlt := (BitVec.ofNat 32 a &&& ~~~BitVec.ofNat 32 (2 ^ j - 1)).isLt
  have hw : ∀ n : Nat, n < 2 ^ 32 → IntKind.u32.wrap (n : Int) = (n : Int) := fun n h => by rw [IntKind.wrap_u32]; omega
  rw [hw _ hlt] at e0
  rw [e0]
  rw [Bool.eq_iff_iff, beq_iff_eq, decide_eq_true_eq]
  have h3 : ((a : Int) < 2 ^ j) ↔ a < 2 ^ j := by
    constructor
    · intro h; exact_mod_cast h
    · intro h; exact_mod_cast h
  rw [h3, ← h]
  constructor
  · intro h0; apply BitVec.eq_of_toNat_eq; simpa using h0
  · intro h0; rw [h0]; rfl

theorem allIn_lt (j : Nat) (l : List Int) (hl : ∀ x ∈ l, u32 x) : allIn (2 ^ j - 1) l = l.all fun x => decide (x < 2 ^ j) := by
  unfold allIn
  rw [Bool.eq_iff_iff, List.all_eq_true, List.all_eq_true]
  constructor
  · intro h x hx; rw [← out_zero j x (hl x hx)]; exact h x hx
  · intro h x hx; rw [out_zero j x (hl x hx)]; exact h x hx

/-! ### the reference's section -/
open Go.Proofs.Ytbemdnjcnmponaa.PCertChecks in
theorem sec_l0 (s : Sec) (hn : s.live.length = s.held.length) (hb : s.held.length ≤ 64) (d : Nat) : ∀ (k i : Nat), i + d = s.held.length → d < k →
    alibiref18_section.l0 k (i : Int) s.entry s.exit s.held s.le s.lx s.live = some (((s.held.drop i).all fun x => decide (x < 65536)) && ((s.live.drop i).all fun x => decide (x < 512))) := by
  induction d with
  | zero =>
    intro k i hi hk
    obtain ⟨k, rfl⟩ : ∃ j, k = j + 1 := ⟨k - 1, by omega⟩
    simp only [alibiref18_section.l0]
    rw [if_neg (by omega), List.drop_eq_nil_of_le (by omega), List.drop_eq_nil_of_le (by omega)]; rfl
  | succ d ih =>
    intro k i hi hk
    obtain ⟨k, rfl⟩ : ∃ j, k = j + 1 := ⟨k - 1, by omega⟩
    simp only [alibiref18_section.l0]
    have h1 := drop_rd s.held (i : Int) (by omega) (by omega)
    have h2 := drop_rd s.live (i : Int) (by omega) (by omega)
    simp only [Int.toNat_natCast] at h1 h2
    rw [if_pos (by omega), if_pos (by omega), h1, h2]
    simp only [List.all_cons]
    have e : ((i : Int) + 1).toNat = i + 1 := by omega
    by_cases c1 : rd s.held (i : Int) < 65536
    · rw [if_neg (by omega), if_pos (by omega)]
      by_cases c2 : rd s.live (i : Int) < 512
      · rw [if_neg (by omega), show wrap64 ((i : Int) + 1) = ((i + 1 : Nat) : Int) by unfold wrap64; omega, ih k (i + 1) (by omega) (by omega), e]
        simp [c1, c2]
      · rw [if_pos (by omega)]; simp [c1, c2]
    · rw [if_pos (by omega)]; simp [c1]

open Go.Proofs.Ytbemdnjcnmponaa.PCertChecks in
theorem sec_f (s : Sec) (hg : s.Good) (k : Nat) (hk : 100 ≤ k) :
    alibiref18_section.f k s.entry s.exit s.held s.le s.lx s.live = some (secOk s) := by
  obtain ⟨k, rfl⟩ : ∃ j, k = j + 2 := ⟨k - 2, by omega⟩
  unfold alibiref18_section.f secOk
  by_cases c1 : 1 ≤ s.held.length
  · rw [if_neg (by omega)]
    by_cases c2 : s.held.length ≤ 64
    · rw [if_neg (by omega)]
      simp only [alibiref18_section.j0]
      by_cases c3 : s.live.length = s.held.length
      · rw [if_neg (by simp; omega)]
        have e1 := allIn_lt 16 [s.entry, s.exit] (by intro x hx; simp at hx; rcases hx with rfl | rfl; exact hg.entry; exact hg.exit)
        have e2 := allIn_lt 16 s.held hg.held
        have e3 := allIn_lt 9 [s.le, s.lx] (by intro x hx; simp at hx; rcases hx with rfl | rfl; exact hg.le; exact hg.lx)
        have e4 := allIn_lt 9 s.live hg.live
        rw [show ((2 : Int) ^ 16 - 1) = 65535 by decide, show ((2 : Int) ^ 16) = 65536 by decide] at e1 e2
        rw [show ((2 : Int) ^ 9 - 1) = 511 by decide, show ((2 : Int) ^ 9) = 512 by decide] at e3 e4
        rw [e1, e2, e3, e4]
        have hl := sec_l0 s c3 c2 s.held.length k 0 (by omega) (by omega)
        simp only [List.drop_zero, Int.ofNat_zero] at hl
        simp only [alibiref18_section.j1]
        by_cases h1 : s.entry < 65536
        · by_cases h2 : s.exit < 65536
          · by_cases h3 : s.le < 512
            · rw [if_neg (by omega), if_neg (by omega), if_neg (by omega)]
              by_cases h4 : s.lx < 512
              · rw [if_neg (by simp; omega), hl]
                simp [c1, c2, c3, h1, h2, h3, h4]
              · rw [if_pos (by simp; omega)]; simp [h4]
            · rw [if_neg (by omega), if_neg (by omega), if_pos (by omega)]; simp [h3]
          · rw [if_neg (by omega), if_pos (by omega)]; simp [h2]
        · rw [if_pos (by omega)]; simp [h1]
      · rw [if_pos (by simp; omega)]; simp [c3]
    · rw [if_pos (by omega)]; simp [alibiref18_section.j0, c2]
  · rw [if_pos (by omega)]; simp [alibiref18_section.j0, c1]

/-! ### justifications -/
def justOk (j : S40) : Bool := if j.f0 = 2 then decide (0 ≤ j.f1 ∧ j.f1 < 16) else decide ((j.f0 = 0 ∨ j.f0 = 1) ∧ j.f1 = 0)
theorem right_f (j : S40) : Go.Proofs.Ytbemdnjcnmponaa.PCertSame.guard_Right.f j.f0 j.f1 16 = some (justOk j) := by
  unfold PCertSame.guard_Right.f justOk
  by_cases c : j.f0 = 2
  · rw [if_pos c, if_pos c]
    by_cases h : 0 ≤ j.f1
    · rw [if_pos h]; simp [h]
    · rw [if_neg (by omega)]; simp [h]
  · rw [if_neg c, if_neg c]
    by_cases c0 : j.f0 = 0
    · rw [if_pos c0]; simp only [c0, true_or, true_and]; rfl
    · rw [if_neg c0]
      by_cases c1 : j.f0 = 1
      · rw [if_pos c1]; simp only [c1, or_true, true_and]; rfl
      · rw [if_neg c1]; simp [c0, c1]
theorem ref_right_f (j : S40) : Go.Proofs.Ytbemdnjcnmponaa.PCertChecks.alibiref17_Right.f j.f0 j.f1 16 = some (justOk j) := by
  unfold PCertChecks.alibiref17_Right.f justOk
  by_cases c : j.f0 = 2
  · rw [if_pos c, if_pos c]
    by_cases h : 0 ≤ j.f1
    · rw [if_pos h]; simp [h]
    · rw [if_neg (by omega)]; simp [h]
  · rw [if_neg c, if_neg c]
    by_cases c0 : 0 ≤ j.f0
    · rw [if_pos c0]
      by_cases c1 : j.f0 < 2
      · rw [if_pos c1]
        have : j.f0 = 0 ∨ j.f0 = 1 := by omega
        simp only [this, true_and]; rfl
      · rw [if_neg c1]
        have : ¬ (j.f0 = 0 ∨ j.f0 = 1) := by omega
        simp [this]
    · rw [if_neg (by omega)]
      have : ¬ (j.f0 = 0 ∨ j.f0 = 1) := by omega
      simp [this]

/-! ### certificates -/
/-- the place of the first that may not be; -1: there is none -/
def badAt {α : Type} (p : α → Bool) : List α → Int → Int
  | [], _ => -1
  | x :: r, i => if p x = true then badAt p r (i + 1) else i
def chk (c : Crt) : Int × Int :=
  if c.secs.length = 0 then (0, 1) else if 16 < c.secs.length ∨ 16 < c.justs.length then (0, 4)
  else if 0 ≤ badAt secOk c.secs 0 then (badAt secOk c.secs 0, 3)
  else if 0 ≤ badAt justOk c.justs 0 then ((c.secs.length : Int) + badAt justOk c.justs 0, 3) else (0, 0)
def fewOk (c : Crt) : Bool := decide (c.secs.length ≤ 40) && decide (c.justs.length ≤ 40) && c.secs.all fun s => decide (s.held.length ≤ 100) && decide (s.live.length ≤ 100)
end Go.Proofs.Ytbemdnjcnmponaa.Plain
