/- Whether two sets, sections, rows of sections, justifications are alike: the plain law behind the printed functions, and slices.EqualFunc over sections; for every input. -/
import Derived.Test.YtbemdnjcnmponaaLit
import Derived.Stop.BytesEq
namespace Go.Proofs.Ytbemdnjcnmponaa.SameP
open Go.RowKit Go.Proofs.YtbemdnjcnmponaaW.PrintWords Go.Proofs.YtbemdnjcnmponaaW.PrintLast Go.Proofs.YtbemdnjcnmponaaW.PrintMore Go.Proofs.Ytbemdnjcnmponaa.PCertSame Go.Proofs.Ytbemdnjcnmponaa.Data Go.Proofs.Ytbemdnjcnmponaa.Within Go.Proofs.Ytbemdnjcnmponaa.Check Go.Proofs.Ytbemdnjcnmponaa.Laws1 Go.Proofs.Ytbemdnjcnmponaa.Lit
set_option linter.unusedVariables false
set_option linter.unusedSimpArgs false

noncomputable def eqB {α : Type} (x y : α) : Bool := @decide (x = y) (Classical.propDecidable _)
theorem eqB_iff {α : Type} (x y : α) : eqB x y = true ↔ x = y := by unfold eqB; simp
theorem eqB_self {α : Type} (x : α) : eqB x x = true := (eqB_iff x x).2 rfl
theorem eqB_false {α : Type} {x y : α} (h : x ≠ y) : eqB x y = false := by
  cases hq : eqB x y with
  | false => rfl
  | true => exact absurd ((eqB_iff x y).1 hq) h
theorem eqB_congr {α β : Type} {x y : α} {u v : β} (h : x = y ↔ u = v) : eqB x y = eqB u v := by
  rw [Bool.eq_iff_iff, eqB_iff, eqB_iff]; exact h

theorem masks_l0 (l l' : List Int) (hl : l.length = l'.length) (d : Nat) : ∀ (k i : Nat), i + d = l.length → d < k → l.length ≤ 9223372036854775806 → alibiref18_masks.l0 k l l' (i : Int) = some (eqB (l.drop i) (l'.drop i)) := by
  induction d with
  | zero =>
    intro k i hi hk hm
    obtain ⟨k, rfl⟩ : ∃ j, k = j + 1 := ⟨k - 1, by omega⟩
    simp only [alibiref18_masks.l0]
    rw [if_neg (by omega), List.drop_eq_nil_of_le (by omega), List.drop_eq_nil_of_le (by omega), eqB_self]
  | succ d ih =>
    intro k i hi hk hm
    obtain ⟨k, rfl⟩ : ∃ j, k = j + 1 := ⟨k - 1, by omega⟩
    simp only [alibiref18_masks.l0]
    have h1 := drop_rd l (i : Int) (by omega) (by omega)
    have h2 := drop_rd l' (i : Int) (by omega) (by omega)
    simp only [Int.toNat_natCast] at h1 h2
    have e : ((i : Int) + 1).toNat = i + 1 := by omega
    rw [if_pos (by omega), if_pos (by omega), if_pos (by omega), h1, h2, e]
    by_cases c : rd l (i : Int) = rd l' (i : Int)
    · rw [if_pos c, show wrap64 ((i : Int) + 1) = ((i + 1 : Nat) : Int) by unfold wrap64; omega, ih k (i + 1) (by omega) (by omega) hm]
      congr 1
      exact eqB_congr (by rw [List.cons.injEq]; exact ⟨fun h => ⟨c, h⟩, fun h => h.2⟩)
    · rw [if_neg c, eqB_false (fun h => c (List.cons.inj h).1)]
theorem masks_f (l l' : List Int) (k : Nat) (hk : l.length < k) (hm : l.length ≤ 9223372036854775806) : alibiref18_masks.f k l l' = some (eqB l l') := by
  unfold alibiref18_masks.f
  by_cases h : l.length = l'.length
  · rw [if_pos (by omega)]
    exact masks_l0 l l' h l.length k 0 (by omega) hk hm
  · rw [if_neg (by omega), eqB_false (fun e => h (by rw [e]))]

theorem equal_l0 (l l' : List Int) (hl : l.length = l'.length) (d : Nat) : ∀ (k i : Nat), i + d = l.length → d < k → l.length ≤ 9223372036854775806 → slices_Equal_uint32_uint32.l0 k l l' (l.length : Int) (i : Int) = some (eqB (l.drop i) (l'.drop i)) := by
  induction d with
  | zero =>
    intro k i hi hk hm
    obtain ⟨k, rfl⟩ : ∃ j, k = j + 1 := ⟨k - 1, by omega⟩
    simp only [slices_Equal_uint32_uint32.l0]
    rw [if_neg (by omega), List.drop_eq_nil_of_le (by omega), List.drop_eq_nil_of_le (by omega), eqB_self]
  | succ d ih =>
    intro k i hi hk hm
    obtain ⟨k, rfl⟩ : ∃ j, k = j + 1 := ⟨k - 1, by omega⟩
    simp only [slices_Equal_uint32_uint32.l0]
    have h1 := drop_rd l (i : Int) (by omega) (by omega)
    have h2 := drop_rd l' (i : Int) (by omega) (by omega)
    simp only [Int.toNat_natCast] at h1 h2
    have e : ((i : Int) + 1).toNat = i + 1 := by omega
    rw [if_pos (by omega), if_pos (by omega), if_pos (by omega), if_pos (by omega), h1, h2, e]
    by_cases c : rd l (i : Int) = rd l' (i : Int)
    · rw [if_pos c, show wrap64 ((i : Int) + 1) = ((i + 1 : Nat) : Int) by unfold wrap64; omega, ih k (i + 1) (by omega) (by omega) hm]
      congr 1
      exact eqB_congr (by rw [List.cons.injEq]; exact ⟨fun h => ⟨c, h⟩, fun h => h.2⟩)
    · rw [if_neg c, eqB_false (fun h => c (List.cons.inj h).1)]
theorem equal_f (l l' : List Int) (k : Nat) (hk : l.length < k) (hm : l.length ≤ 9223372036854775806) : slices_Equal_uint32_uint32.f k l l' = some (eqB l l') := by
  unfold slices_Equal_uint32_uint32.f
  by_cases h : l.length = l'.length
  · rw [if_pos (by omega)]
    exact equal_l0 l l' h l.length k 0 (by omega) hk hm
  · rw [if_neg (by omega), eqB_false (fun e => h (by rw [e]))]

theorem just_l0 (l l' : List S40) (hl : l.length = l'.length) (d : Nat) : ∀ (k i : Nat), i + d = l.length → d < k → l.length ≤ 9223372036854775806 → api_Just_24.l0 k l l' (l.length : Int) (i : Int) = some (eqB (l.drop i) (l'.drop i)) := by
  induction d with
  | zero =>
    intro k i hi hk hm
    obtain ⟨k, rfl⟩ : ∃ j, k = j + 1 := ⟨k - 1, by omega⟩
    simp only [api_Just_24.l0]
    rw [if_neg (by omega), List.drop_eq_nil_of_le (by omega), List.drop_eq_nil_of_le (by omega), eqB_self]
  | succ d ih =>
    intro k i hi hk hm
    obtain ⟨k, rfl⟩ : ∃ j, k = j + 1 := ⟨k - 1, by omega⟩
    simp only [api_Just_24.l0]
    have h1 := drop_rdJ l (i : Int) (by omega) (by omega)
    have h2 := drop_rdJ l' (i : Int) (by omega) (by omega)
    simp only [Int.toNat_natCast] at h1 h2
    have e : ((i : Int) + 1).toNat = i + 1 := by omega
    rw [if_pos (by omega), if_pos (by omega), if_pos (by omega), if_pos (by omega), h1, h2, e]
    by_cases c : (rd_T40 l (i : Int)).f0 = (rd_T40 l' (i : Int)).f0 ∧ (rd_T40 l (i : Int)).f1 = (rd_T40 l' (i : Int)).f1
    · rw [if_neg (by simp [c.1, c.2]), show wrap64 ((i : Int) + 1) = ((i + 1 : Nat) : Int) by unfold wrap64; omega, ih k (i + 1) (by omega) (by omega) hm]
      have c' : rd_T40 l (i : Int) = rd_T40 l' (i : Int) := by
        cases h3 : rd_T40 l (i : Int); cases h4 : rd_T40 l' (i : Int)
        rw [h3, h4] at c
        simp at c; rw [c.1, c.2]
      congr 1
      exact eqB_congr (by rw [List.cons.injEq]; exact ⟨fun h => ⟨c', h⟩, fun h => h.2⟩)
    · rw [if_pos (by
        by_cases c0 : (rd_T40 l (i : Int)).f0 = (rd_T40 l' (i : Int)).f0
        · simp [c0]; intro h; exact c ⟨c0, h⟩
        · simp [c0]), eqB_false (fun h => c (by rw [(List.cons.inj h).1]; exact ⟨rfl, rfl⟩))]
theorem just_f (l l' : List S40) (k : Nat) (hk : l.length < k) (hm : l.length ≤ 9223372036854775806) : api_Just_24.f k l l' = some (eqB l l') := by
  unfold api_Just_24.f
  by_cases h : l.length = l'.length
  · rw [if_pos (by omega)]
    exact just_l0 l l' h l.length k 0 (by omega) hk hm
  · rw [if_neg (by omega), eqB_false (fun e => h (by rw [e]))]

theorem alike_f (s t : Sec) (k : Nat) (hk : s.held.length < k) (hk' : s.live.length < k) (hm : s.held.length ≤ 9223372036854775806) (hm' : s.live.length ≤ 9223372036854775806) :
    cert_alike.f k s.entry s.exit s.held s.le s.lx s.live t.entry t.exit t.held t.le t.lx t.live = some (eqB s t) := by
  unfold cert_alike.f
  have hne : ∀ {p : Sec → Prop}, True := trivial
  by_cases c0 : s.entry = t.entry
  · rw [if_pos c0]
    by_cases c1 : s.exit = t.exit
    · rw [if_pos c1]
      by_cases c2 : s.le = t.le
      · rw [if_pos c2]
        by_cases c3 : s.lx = t.lx
        · rw [if_pos c3, equal_f s.held t.held k hk hm, Option.bind_some]
          by_cases c4 : s.held = t.held
          · rw [if_pos ((eqB_iff _ _).2 c4), equal_f s.live t.live k hk' hm', Option.bind_some]
            congr 1
            refine eqB_congr ⟨fun h => ?_, fun h => by rw [h]⟩
            cases s; cases t
            simp only at c0 c1 c2 c3 c4 h
            rw [c0, c1, c2, c3, c4, h]
          · rw [if_neg (by rw [eqB_iff]; exact c4), eqB_false (fun h => c4 (by rw [h]))]
        · rw [if_neg c3, eqB_false (fun h => c3 (by rw [h]))]
      · rw [if_neg c2, eqB_false (fun h => c2 (by rw [h]))]
    · rw [if_neg c1, eqB_false (fun h => c1 (by rw [h]))]
  · rw [if_neg c0, eqB_false (fun h => c0 (by rw [h]))]

/-- the sections' lengths are small -/
def SmallS (l : List Sec) : Prop := ∀ s ∈ l, s.held.length ≤ 100 ∧ s.live.length ≤ 100

theorem drop_ne {l l' : List Sec} {i : Int} (h0 : 0 ≤ i) (h1 : i < l.length) (h2 : i < l'.length) (hne : rdS l i ≠ rdS l' i) : l ≠ l' := by
  rintro rfl; exact hne rfl

set_option maxHeartbeats 8000000 in
set_option maxRecDepth 100000 in
theorem equalfunc_same (A B : Option Addr) (a b : Nat) (l l' : List Sec) (w : World) (hA : Kd.C kSec w A l.length l) (hB : Kd.C kSec w B l'.length l') (hl : l.length = l'.length) (h40 : l.length ≤ 40) (hS : SmallS l) :
    Calls Try.prog 22 #[.slice A l.length a, .slice B l'.length b, .func (.func 23) #[] #[]] w fun e w' => e = .returned (.bool (eqB l l')) ∧ Below w.heap.size w w' := by
  have HA := Aside0.mk hA
  have HBB := Aside0.mk hB
  have HL := Aside0.mk hl
  have H40 := Aside0.mk h40
  have HSS := Aside0.mk hS
  have HB := Aside0.mk (Below.refl w.heap.size w)
  have d0 : ((l.length : Int) != (l'.length : Int)) = false := by rw [hl]; simp
  have d0b : (l.length != l'.length) = false := by rw [hl]; simp
  clear hA hB hl h40 hS
  go_enter Try.func22, Try.ntmps22
  go_wp2
  go_loopg [17] (l.length + 1) (fun kq v17 w' => ∃ i : Int, v17 = .int .i64 i ∧ Aside0 (0 ≤ i ∧ i ≤ l.length ∧ l.length - i < kq ∧ eqB (l.drop i.toNat) (l'.drop i.toNat) = eqB l l') ∧ Aside0 (Below w.heap.size w w'))
  case atStart => exact ⟨0, rfl, ⟨by omega, by omega, by omega, rfl⟩, HB⟩
  case round =>
    clear HB
    obtain ⟨i, rfl, HI, HB⟩ := hrel
    cases gk with
    | zero => exact absurd HI.out (by omega)
    | succ k2 =>
      obtain ⟨i0, i1, ik, hx⟩ := HI.out
      by_cases hi : i < l.length
      · have hi' : i < l'.length := by have := HL.out; omega
        rw [drop_rdS l i i0 hi, drop_rdS l' i i0 hi'] at hx
        obtain ⟨ad, A1, c1, B1, c1', e133, q0, q1, q2, q3, q4, q5, r1, r2, r3, r4⟩ := at_sec HA.out i i0 hi
        cases e133
        obtain ⟨ad', A2, c2, B2, c2', e134, p0, p1, p2, p3, p4, p5, t1, t2, t3, t4⟩ := at_sec HBB.out i i0 hi'
        cases e134
        have hbw := HB.out
        have q0' := (hbw.cell (World.block_lt_of_cell? w _ q0)).trans q0
        have q1' := (hbw.cell (World.block_lt_of_cell? w _ q1)).trans q1
        have q2' := (hbw.cell (World.block_lt_of_cell? w _ q2)).trans q2
        have q3' := (hbw.cell (World.block_lt_of_cell? w _ q3)).trans q3
        have q4' := (hbw.cell (World.block_lt_of_cell? w _ q4)).trans q4
        have q5' := (hbw.cell (World.block_lt_of_cell? w _ q5)).trans q5
        have hbw2 := fun cs : Array Value => below_alloc hbw (.cells cs 38)
        have HBW2 := Aside0.mk hbw2
        have p0' := fun cs : Array Value => ((hbw2 cs).cell (World.block_lt_of_cell? w _ p0)).trans p0
        have p1' := fun cs : Array Value => ((hbw2 cs).cell (World.block_lt_of_cell? w _ p1)).trans p1
        have p2' := fun cs : Array Value => ((hbw2 cs).cell (World.block_lt_of_cell? w _ p2)).trans p2
        have p3' := fun cs : Array Value => ((hbw2 cs).cell (World.block_lt_of_cell? w _ p3)).trans p3
        have p4' := fun cs : Array Value => ((hbw2 cs).cell (World.block_lt_of_cell? w _ p4)).trans p4
        have p5' := fun cs : Array Value => ((hbw2 cs).cell (World.block_lt_of_cell? w _ p5)).trans p5
        have c1d : decide (i < (l.length : Int)) = true := decide_eq_true hi
        have s1 := eq_true i0
        have s2 := eq_true hi
        have s3 := eq_true hi'
        have hw : wrap64 (i + 1) = i + 1 := by have := H40.out; unfold wrap64; omega
        have HW := Aside0.mk hw
        have h100 := HSS.out _ (rdS_mem l i i0 hi)
        obtain ⟨s, hs⟩ : ∃ s, s = rdS l i := ⟨_, rfl⟩
        obtain ⟨t, ht⟩ : ∃ t, t = rdS l' i := ⟨_, rfl⟩
        rw [← hs] at q0' q1' q2' q3' q4' q5' hx h100 r1 r2 r3 r4
        simp only [← ht] at p0' p1' p2' p3' p4' p5' hx t1 t2 t3 t4
        have hal : ∀ r, eqB s t = r → ∀ W, Below w.heap.size w W → Calls Try.prog 23 #[.agg #[.int .u32 s.entry, .int .u32 s.exit, .slice A1 s.held.length c1, .int .u32 s.le, .int .u32 s.lx, .slice B1 s.live.length c1'], .agg #[.int .u32 t.entry, .int .u32 t.exit, .slice A2 t.held.length c2, .int .u32 t.le, .int .u32 t.lx, .slice B2 t.live.length c2']] W fun e w' => e = .returned (.bool r) ∧ Below W.heap.size W w' := fun r hr W hW => by
          rw [← hr]
          exact cert_alike.calls 200 s.entry s.exit A1 c1 s.held s.le s.lx B1 c1' s.live t.entry t.exit A2 c2 t.held t.le t.lx B2 c2' t.live _ W (Kd.C_below r2 hW) r1 (Kd.C_below r4 hW) r3 (Kd.C_below t2 hW) t1 (Kd.C_below t4 hW) t3 (alike_f s t 200 (by omega) (by omega) (by omega) (by omega))
        by_cases hst : s = t
        · have hx2 : eqB (l.drop (i + 1).toNat) (l'.drop (i + 1).toNat) = eqB l l' := by
            rw [← hx]; exact eqB_congr (by rw [List.cons.injEq]; exact ⟨fun h => ⟨hst, h⟩, fun h => h.2⟩)
          have HX := Aside0.mk hx2
          have HC := Aside0.mk (hal true ((eqB_iff _ _).2 hst))
          clear hx hx2 hst hw q0 q1 q2 q3 q4 q5 p0 p1 p2 p3 p4 p5 r1 r2 r3 r4 t1 t2 t3 t4 i0 i1 ik hi hi' hbw hbw2 hs ht h100 hal
          go_wp2_with (first | (go_at_call 23; (with_reducible refine (HC.out _ (by repeat (first | exact HB.out | apply below_alloc))).mono ?_); rintro e w' ⟨rfl, hb⟩))
          go_roundg k2
          case measure => omega
          case rel => exact ⟨i + 1, (by rw [HW.out]), ⟨by have := HI.out; omega, by have := HI.out; have := of_eq_true s2; omega, by have := HI.out; omega, HX.out⟩, ⟨below_step (by repeat (first | exact HB.out | apply below_alloc)) hb⟩⟩
        · have hx2 : eqB l l' = false := by rw [← hx]; exact eqB_false (fun h => hst (List.cons.inj h).1)
          have HX := Aside0.mk hx2
          have HC := Aside0.mk (hal false (eqB_false hst))
          clear hx hx2 hst hw q0 q1 q2 q3 q4 q5 p0 p1 p2 p3 p4 p5 r1 r2 r3 r4 t1 t2 t3 t4 i0 i1 ik hi hi' hbw hbw2 hs ht h100 hal
          go_wp2_with (first | (go_at_call 23; (with_reducible refine (HC.out _ (by repeat (first | exact HB.out | apply below_alloc))).mono ?_); rintro e w' ⟨rfl, hb⟩))
          go_ret
          exact ⟨by rw [HX.out]; rfl, below_step (by repeat (first | exact HB.out | apply below_alloc)) hb⟩
      · have ei : i = l.length := by omega
        have hx0 : eqB l l' = true := by
          rw [← hx, ei]
          have : l'.drop (l.length : Int).toNat = [] := List.drop_eq_nil_of_le (by have := HL.out; omega)
          rw [this]
          have : l.drop (l.length : Int).toNat = [] := List.drop_eq_nil_of_le (by omega)
          rw [this]; exact eqB_self _
        have HX := Aside0.mk hx0
        have c1d : decide (i < (l.length : Int)) = false := decide_eq_false hi
        clear hx ei hi i0 i1 ik hx0 HI
        go_wp2
        go_ret
        exact ⟨by rw [HX.out]; rfl, HB.out⟩

set_option maxHeartbeats 2000000 in
set_option maxRecDepth 100000 in
theorem equalfunc_other (A B : Option Addr) (a b : Nat) (l l' : List Sec) (w : World) (hl : l.length ≠ l'.length) (h1 : (l.length : Int) ≤ 9223372036854775807) (h2 : (l'.length : Int) ≤ 9223372036854775807) :
    Calls Try.prog 22 #[.slice A l.length a, .slice B l'.length b, .func (.func 23) #[] #[]] w fun e w' => e = .returned (.bool (eqB l l')) ∧ Below w.heap.size w w' := by
  have d0 : ((l.length : Int) != (l'.length : Int)) = true := bne_iff_ne.mpr (by omega)
  have d0b : (l.length != l'.length) = true := bne_iff_ne.mpr hl
  have hx : eqB l l' = false := eqB_false (fun h => hl (by rw [h]))
  rw [hx]
  clear hl hx
  go_enter Try.func22, Try.ntmps22
  go_wp2
  go_ret
  exact ⟨by first | rfl | (simp; done), Below.refl _ _⟩

theorem equalfunc_any (A B : Option Addr) (a b : Nat) (l l' : List Sec) (w : World) (hA : Kd.C kSec w A l.length l) (hB : Kd.C kSec w B l'.length l') (h40 : l.length ≤ 40) (hS : SmallS l) :
    Calls Try.prog 22 #[.slice A l.length a, .slice B l'.length b, .func (.func 23) #[] #[]] w fun e w' => e = .returned (.bool (eqB l l')) ∧ Below w.heap.size w w' := by
  have l1 := Kd.C_max hA
  have l2 := Kd.C_max hB
  by_cases hl : l.length = l'.length
  · exact equalfunc_same A B a b l l' w hA hB hl h40 hS
  · exact equalfunc_other A B a b l l' w hl (by omega) (by omega)
end Go.Proofs.Ytbemdnjcnmponaa.SameP
