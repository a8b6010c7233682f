/- What is wrong with a certificate first (cert.Check), its contract; for every certificate. -/
import Derived.Test.YtbemdnjcnmponaaPlain
namespace Go.Proofs.Ytbemdnjcnmponaa.Check
open Go.RowKit Go.Proofs.YtbemdnjcnmponaaW.PrintWords Go.Proofs.YtbemdnjcnmponaaW.PrintLast Go.Proofs.YtbemdnjcnmponaaW.PrintMore Go.Proofs.Ytbemdnjcnmponaa.PCertSame Go.Proofs.Ytbemdnjcnmponaa.Data Go.Proofs.Ytbemdnjcnmponaa.Within Go.Proofs.Ytbemdnjcnmponaa.Section Go.Proofs.Ytbemdnjcnmponaa.Plain
set_option linter.unusedVariables false
set_option linter.unusedSimpArgs false

/-- a certificate's cells, as a call has them -/
structure CrtVal (w : World) (c : Crt) (cs : Array Value) (A : Option Addr) (a : Nat) (B : Option Addr) (b : Nat) : Prop where
  size : cs.size = 34
  h32 : cs[32]? = some (.slice A c.secs.length a)
  h33 : cs[33]? = some (.slice B c.justs.length b)
  ha : c.secs.length ≤ a
  hb : c.justs.length ≤ b
  hA : Kd.C kSec w A c.secs.length c.secs
  hB : Kd.C k40 w B c.justs.length c.justs

theorem CrtVal.below {w w1 : World} {c : Crt} {cs : Array Value} {A B : Option Addr} {a b : Nat} (h : CrtVal w c cs A a B b) (hb : Below w.heap.size w w1) : CrtVal w1 c cs A a B b :=
  ⟨h.size, h.h32, h.h33, h.ha, h.hb, Kd.C_below h.hA hb, Kd.C_below h.hB hb⟩

def zSec : Sec := ⟨0, 0, [], 0, 0, []⟩
def rdS (xs : List Sec) (i : Int) : Sec := xs.getD i.toNat zSec

theorem at_sec {w : World} {A : Option Addr} {n : Nat} {xs : List Sec} (h : Kd.C kSec w A n xs) (i : Int) (h0 : 0 ≤ i) (h1 : i < n) :
    ∃ ad A1 c1 B1 c1', A = some ad ∧ w.cell? (ad.add (i.toNat * 6)) = some (.int .u32 (rdS xs i).entry) ∧ w.cell? ⟨(ad.add (i.toNat * 6)).block, (ad.add (i.toNat * 6)).off + 1, none⟩ = some (.int .u32 (rdS xs i).exit) ∧
      w.cell? ⟨(ad.add (i.toNat * 6)).block, (ad.add (i.toNat * 6)).off + 2, none⟩ = some (.slice A1 (rdS xs i).held.length c1) ∧ w.cell? ⟨(ad.add (i.toNat * 6)).block, (ad.add (i.toNat * 6)).off + 3, none⟩ = some (.int .u32 (rdS xs i).le) ∧
      w.cell? ⟨(ad.add (i.toNat * 6)).block, (ad.add (i.toNat * 6)).off + 4, none⟩ = some (.int .u32 (rdS xs i).lx) ∧ w.cell? ⟨(ad.add (i.toNat * 6)).block, (ad.add (i.toNat * 6)).off + 5, none⟩ = some (.slice B1 (rdS xs i).live.length c1') ∧
      (rdS xs i).held.length ≤ c1 ∧ Kd.C (Kd.int .u32) w A1 (rdS xs i).held.length (rdS xs i).held ∧ (rdS xs i).live.length ≤ c1' ∧ Kd.C (Kd.int .u32) w B1 (rdS xs i).live.length (rdS xs i).live := by
  obtain ⟨ad, c, e, _, hK, hc0⟩ := Kd.C_get h zSec i h0 h1
  have hc : ∀ j u, c[j]? = some u → w.cell? (ad.add (i.toNat * 6 + j)) = some u := hc0
  obtain ⟨A1, c1, B1, c1', rfl, h2, h3, h4, h5⟩ := kSec_open hK
  exact ⟨ad, A1, c1, B1, c1', e, hc 0 _ rfl, by rw [← add_field _ _ 1 (by omega)]; exact hc 1 _ rfl, by rw [← add_field _ _ 2 (by omega)]; exact hc 2 _ rfl, by rw [← add_field _ _ 3 (by omega)]; exact hc 3 _ rfl,
    by rw [← add_field _ _ 4 (by omega)]; exact hc 4 _ rfl, by rw [← add_field _ _ 5 (by omega)]; exact hc 5 _ rfl, h2, h3, h4, h5⟩

theorem rdS_mem (xs : List Sec) (i : Int) (h0 : 0 ≤ i) (h1 : i < xs.length) : rdS xs i ∈ xs := by
  unfold rdS
  have : i.toNat < xs.length := by omega
  simp [this]
theorem drop_rdS (xs : List Sec) (i : Int) (h0 : 0 ≤ i) (h1 : i < xs.length) : xs.drop i.toNat = rdS xs i :: xs.drop (i + 1).toNat := by
  have h' : i.toNat < xs.length := by omega
  rw [List.drop_eq_getElem_cons h', show (i + 1).toNat = i.toNat + 1 by omega]
  unfold rdS; simp [h']
theorem drop_rdJ (xs : List S40) (i : Int) (h0 : 0 ≤ i) (h1 : i < xs.length) : xs.drop i.toNat = rd_T40 xs i :: xs.drop (i + 1).toNat := by
  have h' : i.toNat < xs.length := by omega
  rw [List.drop_eq_getElem_cons h', show (i + 1).toNat = i.toNat + 1 by omega]
  unfold rd_T40; simp [h']

set_option maxHeartbeats 2000000 in
set_option maxRecDepth 100000 in
theorem check_empty (c : Crt) (cs : Array Value) (A B : Option Addr) (a b : Nat) (w : World) (h : CrtVal w c cs A a B b) (h0 : c.secs.length = 0) :
    Calls Try.prog 10 #[.agg cs] w fun e w' => e = .returned (.tuple #[.int .i64 0, .int .i64 1]) ∧ Below w.heap.size w w' := by
  have h32 := h.h32
  rw [h0] at h32
  clear h h0
  go_enter Try.func10, Try.ntmps10
  go_wp2
  go_ret2
  exact ⟨by first | rfl | (simp; done), below_alloc (Below.refl _ _) _⟩

set_option maxHeartbeats 2000000 in
set_option maxRecDepth 100000 in
theorem check_long (c : Crt) (cs : Array Value) (A B : Option Addr) (a b : Nat) (w : World) (h : CrtVal w c cs A a B b) (h0 : c.secs.length ≠ 0) (h1 : 16 < c.secs.length ∨ 16 < c.justs.length) (hl : (c.secs.length : Int) ≤ 9223372036854775807) (hm : (c.justs.length : Int) ≤ 9223372036854775807) :
    Calls Try.prog 10 #[.agg cs] w fun e w' => e = .returned (.tuple #[.int .i64 0, .int .i64 4]) ∧ Below w.heap.size w w' := by
  have h32 := h.h32
  have h33 := h.h33
  have d0 : ((c.secs.length : Int) == 0) = false := beq_eq_false_iff_ne.mpr (by omega)
  have d0b : (c.secs.length == 0) = false := beq_eq_false_iff_ne.mpr h0
  clear h
  by_cases h2 : 16 < c.secs.length
  · have d1 : decide ((16 : Int) < (c.secs.length : Int)) = true := decide_eq_true (by omega)
    have d1b : decide (16 < c.secs.length) = true := decide_eq_true h2
    clear h1 h0 h2
    go_enter Try.func10, Try.ntmps10
    go_wp2
    go_ret2
    exact ⟨by first | rfl | (simp; done), below_alloc (Below.refl _ _) _⟩
  · have d1 : decide ((16 : Int) < (c.secs.length : Int)) = false := decide_eq_false (by omega)
    have d1b : decide (16 < c.secs.length) = false := decide_eq_false h2
    have d2 : decide ((16 : Int) < (c.justs.length : Int)) = true := decide_eq_true (by omega)
    have d2b : decide (16 < c.justs.length) = true := decide_eq_true (by omega)
    clear h1 h0 h2
    go_enter Try.func10, Try.ntmps10
    go_wp2
    go_ret2
    exact ⟨by first | rfl | (simp; done), below_alloc (Below.refl _ _) _⟩

/-- the answer behind both loops -/
def ans (c : Crt) : Int × Int := if 0 ≤ badAt secOk c.secs 0 then (badAt secOk c.secs 0, 3) else if 0 ≤ badAt justOk c.justs 0 then ((c.secs.length : Int) + badAt justOk c.justs 0, 3) else (0, 0)

theorem badAt_ge {α : Type} (p : α → Bool) : ∀ (l : List α) (i : Int), 0 ≤ i → badAt p l i = -1 ∨ i ≤ badAt p l i
  | [], _, _ => .inl rfl
  | x :: r, i, h => by
    unfold badAt
    by_cases c : p x = true
    · rw [if_pos c]
      rcases badAt_ge p r (i + 1) (by omega) with h | h
      · exact .inl h
      · exact .inr (by omega)
    · rw [if_neg c]; exact .inr (Int.le_refl _)

set_option maxHeartbeats 8000000 in
set_option maxRecDepth 100000 in
theorem check_main (c : Crt) (cs : Array Value) (A B : Option Addr) (a b : Nat) (w : World) (h : CrtVal w c cs A a B b) (h0 : c.secs.length ≠ 0) (h1 : c.secs.length ≤ 16) (h2 : c.justs.length ≤ 16)
    (hh : ∀ s ∈ c.secs, s.held.length ≤ 9223372036854775807 ∧ s.live.length ≤ 9223372036854775807) :
    Calls Try.prog 10 #[.agg cs] w fun e w' => e = .returned (.tuple #[.int .i64 (ans c).1, .int .i64 (ans c).2]) ∧ Below w.heap.size w w' := by
  have h32 := h.h32
  have h33 := h.h33
  have HA := Aside0.mk h.hA
  have HJ := Aside0.mk h.hB
  have HS := Aside0.mk hh
  have HN := Aside0.mk (And.intro h1 h2)
  have d0 : ((c.secs.length : Int) == 0) = false := beq_eq_false_iff_ne.mpr (by omega)
  have d0b : (c.secs.length == 0) = false := beq_eq_false_iff_ne.mpr h0
  have d1 : decide ((16 : Int) < (c.secs.length : Int)) = false := decide_eq_false (by omega)
  have d1b : decide (16 < c.secs.length) = false := decide_eq_false (by omega)
  have d2 : decide ((16 : Int) < (c.justs.length : Int)) = false := decide_eq_false (by omega)
  have d2b : decide (16 < c.justs.length) = false := decide_eq_false (by omega)
  have HB := Aside0.mk (Below.refl (w.alloc (.cells cs 26)).heap.size (w.alloc (.cells cs 26)))
  have hcell33 : ∀ w', Below (w.alloc (.cells cs 26)).heap.size (w.alloc (.cells cs 26)) w' → w'.cell? ⟨w.heap.size, 33, none⟩ = some (.slice B c.justs.length b) := fun w' hb => by
    rw [hb.cell (p := ⟨w.heap.size, 33, none⟩) (by simp), World.cell?_alloc_at _ _ _ _ rfl]; exact h33
  have hcell32 : ∀ w', Below (w.alloc (.cells cs 26)).heap.size (w.alloc (.cells cs 26)) w' → w'.cell? ⟨w.heap.size, 32, none⟩ = some (.slice A c.secs.length a) := fun w' hb => by
    rw [hb.cell (p := ⟨w.heap.size, 32, none⟩) (by simp), World.cell?_alloc_at _ _ _ _ rfl]; exact h32
  have H33 := Aside0.mk hcell33
  have H32 := Aside0.mk hcell32
  have HB0 := Aside0.mk (below_alloc (Below.refl w.heap.size w) (.cells cs 26))
  have ANS : Aside0 (ans c = ans c) := ⟨rfl⟩
  clear h h0 h1 h2 hh hcell33 hcell32
  go_enter Try.func10, Try.ntmps10
  go_wp2
  go_loopg [25] (c.secs.length + 1) (fun kq v25 w' => ∃ i : Int, v25 = .int .i64 i ∧ Aside0 (0 ≤ i ∧ i ≤ c.secs.length ∧ c.secs.length - i < kq ∧ badAt secOk (c.secs.drop i.toNat) i = badAt secOk c.secs 0) ∧ Aside0 (Below (w.alloc (.cells cs 26)).heap.size (w.alloc (.cells cs 26)) w'))
  case atStart => exact ⟨0, rfl, ⟨by omega, by omega, by omega, rfl⟩, HB⟩
  case round =>
    clear HB
    obtain ⟨i, rfl, HI, HB⟩ := hrel
    cases gk with
    | zero => exact absurd HI.out (by omega)
    | succ k2 =>
      obtain ⟨i0, i1, ik, hx⟩ := HI.out
      by_cases hi : i < c.secs.length
      · rw [drop_rdS c.secs i i0 hi, badAt] at hx
        obtain ⟨ad, A1, c1, B1, c1', e133, q0, q1, q2, q3, q4, q5, r1, r2, r3, r4⟩ := at_sec HA.out i i0 hi
        cases e133
        obtain ⟨hl1, hl2⟩ := HS.out _ (rdS_mem c.secs i i0 hi)
        have hbw := below_step HB0.out HB.out
        have q0' := (hbw.cell (World.block_lt_of_cell? w _ q0)).trans q0
        have q1' := (hbw.cell (World.block_lt_of_cell? w _ q1)).trans q1
        have q2' := (hbw.cell (World.block_lt_of_cell? w _ q2)).trans q2
        have q3' := (hbw.cell (World.block_lt_of_cell? w _ q3)).trans q3
        have q4' := (hbw.cell (World.block_lt_of_cell? w _ q4)).trans q4
        have q5' := (hbw.cell (World.block_lt_of_cell? w _ q5)).trans q5
        have R1 := Aside0.mk (Kd.C_below r2 hbw)
        have R2 := Aside0.mk (Kd.C_below r4 hbw)
        have HL1 := Aside0.mk (And.intro hl1 hl2)
        have c1d : decide (i < (c.secs.length : Int)) = true := decide_eq_true hi
        have p1 := eq_true i0
        have p2 := eq_true hi
        have hw : wrap64 (i + 1) = i + 1 := by have := HN.out; unfold wrap64; omega
        have HW := Aside0.mk hw
        obtain ⟨s, hs⟩ : ∃ s, s = rdS c.secs i := ⟨_, rfl⟩
        rw [← hs] at q0' q1' q2' q3' q4' q5' R1 R2 HL1 hx
        by_cases hz : secOk s = true
        · rw [if_pos hz] at hx
          have HX := Aside0.mk hx
          have HZ := Aside0.mk hz
          have HC : ∀ W, Below wr.heap.size wr W → Calls Try.prog 15 #[.agg #[.int .u32 s.entry, .int .u32 s.exit, .slice A1 s.held.length c1, .int .u32 s.le, .int .u32 s.lx, .slice B1 s.live.length c1']] W fun e w' => e = .returned (.bool true) ∧ Below W.heap.size W w' := fun W hW => by
            rw [← HZ.out]; exact section_any A1 B1 c1 c1' s W (Kd.C_below R1.out hW) (Kd.C_below R2.out hW) HL1.out.1 HL1.out.2
          have HC1 := Aside0.mk HC
          clear hx hz hw q0 q1 q2 q3 q4 q5 i0 i1 ik hi hl1 hl2 hbw r1 r2 r3 r4 hs HC
          go_wp2_with (first | (go_at_call 15; (with_reducible refine (HC1.out _ (by repeat (first | exact Below.refl _ _ | apply below_alloc))).mono ?_); rintro e w' ⟨rfl, hb⟩))
          go_roundg k2
          case measure => omega
          case rel => exact ⟨i + 1, (by rw [HW.out]), ⟨by have := HI.out; omega, by have := HI.out; have := of_eq_true p2; omega, by have := HI.out; omega, HX.out⟩, ⟨below_step (below_alloc HB.out _) hb⟩⟩
        · rw [if_neg hz] at hx
          have hans : ans c = (i, 3) := by unfold ans; rw [← hx, if_pos i0]
          have HX := Aside0.mk hans
          have HZ := Aside0.mk (Bool.eq_false_iff.mpr hz)
          have HC : ∀ W, Below wr.heap.size wr W → Calls Try.prog 15 #[.agg #[.int .u32 s.entry, .int .u32 s.exit, .slice A1 s.held.length c1, .int .u32 s.le, .int .u32 s.lx, .slice B1 s.live.length c1']] W fun e w' => e = .returned (.bool false) ∧ Below W.heap.size W w' := fun W hW => by
            rw [← HZ.out]; exact section_any A1 B1 c1 c1' s W (Kd.C_below R1.out hW) (Kd.C_below R2.out hW) HL1.out.1 HL1.out.2
          have HC1 := Aside0.mk HC
          clear hx hz hw q0 q1 q2 q3 q4 q5 i0 i1 ik hi hl1 hl2 hbw r1 r2 r3 r4 hs HC hans
          go_wp2_with (first | (go_at_call 15; (with_reducible refine (HC1.out _ (by repeat (first | exact Below.refl _ _ | apply below_alloc))).mono ?_); rintro e w' ⟨rfl, hb⟩))
          go_ret2
          exact ⟨by rw [HX.out]; rfl, below_step HB0.out (below_step (below_alloc HB.out _) hb)⟩
      · have e : i = c.secs.length := by omega
        have hx0 : badAt secOk c.secs 0 = -1 := by
          rw [← hx, e]; simp [badAt]
        have hans : ans c = if 0 ≤ badAt justOk c.justs 0 then ((c.secs.length : Int) + badAt justOk c.justs 0, 3) else (0, 0) := by
          unfold ans; rw [hx0, if_neg (by omega)]
        have HX := Aside0.mk hans
        have c1d : decide (i < (c.secs.length : Int)) = false := decide_eq_false hi
        have q33 := H33.out _ HB.out
        have q32 := H32.out _ HB.out
        clear hx e hi i0 i1 ik hx0 hans HI
        go_wp2
        go_loopg [38] (c.justs.length + 1) (fun kq v38 w' => ∃ j : Int, v38 = .int .i64 j ∧ Aside0 (0 ≤ j ∧ j ≤ c.justs.length ∧ c.justs.length - j < kq ∧ badAt justOk (c.justs.drop j.toNat) j = badAt justOk c.justs 0) ∧ Aside0 (Below (w.alloc (.cells cs 26)).heap.size (w.alloc (.cells cs 26)) w'))
        case atStart => exact ⟨0, rfl, ⟨by omega, by omega, by omega, rfl⟩, HB⟩
        case round =>
          clear q33 q32 HB
          obtain ⟨j, rfl, HI, HB⟩ := hrel
          cases gk with
          | zero => exact absurd HI.out (by omega)
          | succ k3 =>
            obtain ⟨j0, j1, jk, hx⟩ := HI.out
            have q32 := H32.out _ HB.out
            by_cases hj : j < c.justs.length
            · rw [drop_rdJ c.justs j j0 hj, badAt] at hx
              obtain ⟨ad, e133, q0, q1⟩ := at_T40 HJ.out j j0 hj
              cases e133
              have hbw := below_step HB0.out HB.out
              have q0' := (hbw.cell (World.block_lt_of_cell? w _ q0)).trans q0
              have q1' := (hbw.cell (World.block_lt_of_cell? w _ q1)).trans q1
              have c1j : decide (j < (c.justs.length : Int)) = true := decide_eq_true hj
              have p1j := eq_true j0
              have p2j := eq_true hj
              have hw : wrap64 (j + 1) = j + 1 := by have := HN.out; unfold wrap64; omega
              have HW := Aside0.mk hw
              obtain ⟨s, hs⟩ : ∃ s, s = rd_T40 c.justs j := ⟨_, rfl⟩
              rw [← hs] at q0' q1' hx
              by_cases hz : justOk s = true
              · rw [if_pos hz] at hx
                have HX2 := Aside0.mk hx
                have hr := right_f s
                rw [hz] at hr
                have HR := Aside0.mk hr
                clear hx hz hw q0 q1 j0 j1 jk hj hbw hs hr
                go_wp2_with (first | (go_at_call 16; (with_reducible refine (guard_Right.calls s.f0 s.f1 16 true _ HR.out).mono ?_); rintro e w' ⟨rfl, hb⟩))
                go_roundg k3
                case measure => omega
                case rel => exact ⟨j + 1, (by rw [HW.out]), ⟨by have := HI.out; omega, by have := HI.out; have := of_eq_true p2j; omega, by have := HI.out; omega, HX2.out⟩, ⟨below_step (below_alloc HB.out _) hb⟩⟩
              · rw [if_neg hz] at hx
                have hans : ans c = ((c.secs.length : Int) + j, 3) := by rw [HX.out, ← hx, if_pos j0]
                have HX2 := Aside0.mk hans
                have hr := right_f s
                rw [Bool.eq_false_iff.mpr hz] at hr
                have HR := Aside0.mk hr
                have hw2 : wrap64 ((c.secs.length : Int) + j) = (c.secs.length : Int) + j := by have := HN.out; unfold wrap64; omega
                have HW2 := Aside0.mk hw2
                clear hx hz hw q0 q1 j0 j1 jk hj hbw hs hr hans hw2
                go_wp2_with (first | (go_at_call 16; (with_reducible refine (guard_Right.calls s.f0 s.f1 16 false _ HR.out).mono ?_); rintro e w' ⟨rfl, hb⟩; have q32b := H32.out _ (below_step (below_alloc HB.out _) hb)))
                go_ret2
                exact ⟨by rw [HX2.out]; first | rfl | (rw [← HW2.out]; rfl) | (simp [HW2.out]; done), below_step HB0.out (below_step (below_alloc HB.out _) hb)⟩
            · have e : j = c.justs.length := by omega
              have hx0 : badAt justOk c.justs 0 = -1 := by
                rw [← hx, e]; simp [badAt]
              have hans : ans c = (0, 0) := by rw [HX.out, hx0, if_neg (by omega)]
              have HX2 := Aside0.mk hans
              have c1j : decide (j < (c.justs.length : Int)) = false := decide_eq_false hj
              clear hx e hj j0 j1 jk hx0 hans HI
              go_wp2
              go_ret2
              exact ⟨by rw [HX2.out]; rfl, below_step HB0.out HB.out⟩

/-- cert.Check -/
theorem check_any (c : Crt) (cs : Array Value) (A B : Option Addr) (a b : Nat) (w : World) (h : CrtVal w c cs A a B b)
    (hh : ∀ s ∈ c.secs, s.held.length ≤ 9223372036854775807 ∧ s.live.length ≤ 9223372036854775807) :
    Calls Try.prog 10 #[.agg cs] w fun e w' => e = .returned (.tuple #[.int .i64 (chk c).1, .int .i64 (chk c).2]) ∧ Below w.heap.size w w' := by
  have l1 := Kd.C_max h.hA
  have l2 := Kd.C_max h.hB
  unfold chk
  by_cases c0 : c.secs.length = 0
  · rw [if_pos c0]; exact check_empty c cs A B a b w h c0
  · rw [if_neg c0]
    by_cases c1 : 16 < c.secs.length ∨ 16 < c.justs.length
    · rw [if_pos c1]; exact check_long c cs A B a b w h c0 c1 (by omega) (by omega)
    · rw [if_neg c1]; exact check_main c cs A B a b w h c0 (by omega) (by omega) hh
end Go.Proofs.Ytbemdnjcnmponaa.Check
