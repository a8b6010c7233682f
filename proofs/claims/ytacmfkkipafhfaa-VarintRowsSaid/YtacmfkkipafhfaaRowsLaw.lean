/- A row is read number by number, as it was: the walk of VarintRows over the printed contracts of its callees; for every input. -/
import Derived.Test.YtacmfkkipafhfaaRows
import Derived.Test.YtacmfkkipafhfaaPureVarintPuts
import Derived.WalkKit
import Derived.ProofKit
import Derived.OpenShut
import Derived.ShutString
import Derived.ChangeOld
import Derived.Below
import Derived.SizedLaws
namespace Go.Proofs.Ytacmfkkipafhfaa.RowsLaw
open Go.RowKit Go.Proofs.Ytacmfkkipafhfaa.PVarintPuts Go.Proofs.Ytacmfkkipafhfaa.Math Go.Proofs.YtacmfkkipafhfaaW.PrintWords Go.Proofs.YtacmfkkipafhfaaW.PrintLast Go.Proofs.YtacmfkkipafhfaaW.PrintMore
set_option linter.unusedVariables false
set_option linter.unusedSimpArgs false

theorem vput_byte (m : Nat) : ∀ (n : Int), 0 ≤ n → n < 128 ^ m → ∀ x ∈ vput m n, 0 ≤ x ∧ x < 256 := by
  induction m with
  | zero => intro n _ _ x hx; simp [vput] at hx
  | succ m ih =>
    intro n h0 h1 x hx
    have hp := Int.pow_succ 128 m
    unfold vput at hx
    by_cases hn : n < 128
    · rw [if_pos hn] at hx; simp at hx; omega
    · rw [if_neg hn] at hx
      simp at hx
      rcases hx with rfl | hx
      · omega
      · exact ih _ (by omega) (by omega) x hx

theorem rowOf_byte (l : List Int) (hb : ∀ x ∈ l, 0 ≤ x ∧ x < 4294967296) : ∀ x ∈ Pure.rowOf l, 0 ≤ x ∧ x < 256 := by
  intro x hx
  obtain ⟨n, hn, h⟩ := List.mem_flatMap.1 hx
  obtain ⟨h0, h1⟩ := hb n hn
  exact vput_byte 5 n h0 (by omega) x h

/-- one round: what Get tells of the rest, and what is left behind it -/
theorem round_tells (l : List Int) (hb : ∀ x ∈ l, 0 ≤ x ∧ x < 4294967296) (i : Int) (h0 : 0 ≤ i) (h1 : i < l.length) :
    ∃ m : Int, 1 ≤ m ∧ m ≤ (Pure.rowOf (l.drop i.toNat)).length ∧ varint_Get.f 20 (Pure.rowOf (l.drop i.toNat)) = some (rd l i, m, 0) ∧
      (Pure.rowOf (l.drop i.toNat)).drop m.toNat = Pure.rowOf (l.drop (i + 1).toNat) := by
  have hi : i.toNat < l.length := by omega
  have e : ((i.toNat : Nat) : Int) = i := by omega
  have hd := drop_rd l i.toNat hi
  rw [e] at hd
  have hm := rd_mem l i.toNat hi
  rw [e] at hm
  obtain ⟨x0, x1⟩ := hb _ hm
  have hp : 1 ≤ (vput 5 (rd l i)).length := vput_length_pos 4 _
  have hr : Pure.rowOf (l.drop i.toNat) = vput 5 (rd l i) ++ Pure.rowOf (l.drop (i + 1).toNat) := by
    rw [hd, show (i + 1).toNat = i.toNat + 1 by omega]; simp [Pure.rowOf]
  refine ⟨(vput 5 (rd l i)).length, by omega, by rw [hr, List.length_append]; omega, ?_, ?_⟩
  · rw [Pure.get_f 20 _ (rowOf_byte _ (fun x hx => hb x (List.mem_of_mem_drop hx))) (by omega), hr,
      gget_put 5 (rd l i) 0 0 _ (by omega) x0 (by omega) (by omega) (by simpa using x1) (by omega)]
    simp
  · rw [hr]; simp

set_option maxHeartbeats 4000000 in
set_option maxRecDepth 100000 in
theorem walk_ok (A0 : Option Addr) (c0 : Nat) (l : List Int) (w : World) (hR : Kd.C (Kd.int .u32) w A0 l.length l) (hC : l.length ≤ c0) (hl : l.length ≤ 2000) (hb : ∀ x ∈ l, 0 ≤ x ∧ x < 4294967296) :
    Calls Try.prog 8 #[.slice A0 l.length c0] w fun e w' => e = .returned (.bool true) ∧ Below w.heap.size w w' := by
  have HB := Aside0.mk (Below.refl w.heap.size w)
  have A3 := Aside0.mk (Pure.awake_f 20 (by omega))
  have AR := Aside0.mk (Pure.row_f l hb hl 2010 (by omega))
  have HR0 := Aside0.mk hR
  have HC0 := Aside0.mk hC
  have HT := Aside0.mk (round_tells l hb)
  have HL := Aside0.mk hl
  have hlt : decide (2000 < l.length) = false := decide_eq_false (by omega)
  have hlt' : decide ((2000 : Int) < (l.length : Int)) = false := decide_eq_false (by omega)
  clear hR hC hl hb
  go_enter Try.func8, Try.ntmps8
  go_wp2_with (first | ((with_reducible refine gate_callee (f := 9) rfl ?_); refine goesL_ (some 8) rfl rfl Try.func9 (by kernel_rfl) rfl #[] rfl (by (try simp only [List.map_toArray, List.map_cons, List.map_nil]); first | done | rfl) ?_; (with_reducible refine (alibilaw01_awake.calls 20 true _ A3.out).mono ?_); rintro e w6 ⟨rfl, hb⟩; refine ⟨_, rfl, ?_⟩; have n0_ := Aside0.mk (below_step HB.out hb); clear HB; have HB := n0_; clear n0_; (try clear hb)) | ((with_reducible refine gate_callee (f := 15) rfl ?_); refine goesL_ (some 17) rfl rfl Try.func15 (by kernel_rfl) rfl #[.slice A0 l.length c0] rfl (by (try simp only [List.map_toArray, List.map_cons, List.map_nil]); first | done | rfl) ?_; (with_reducible refine (varint_Row.calls 2010 A0 c0 l (Pure.rowOf l) _ (Kd.C_below HR0.out HB.out) HC0.out AR.out).mono ?_); rintro e w11 ⟨v128, rfl, ho0, hb⟩; refine ⟨_, rfl, ?_⟩; obtain ⟨A1, c1, rfl, hle1, hr1⟩ := Kd.R_reads ho0; have HR1 := Aside0.mk hr1; have HC1 := Aside0.mk hle1; have n1_ := Aside0.mk (below_step HB.out hb); clear HB; have HB := n1_; clear n1_ hb ho0 hr1 hle1))
  go_loopg [3, 4] (l.length + 1) (fun kq v3 v4 w' => ∃ (i : Int) (x : List Int) (A : Option Addr) (c : Nat), v3 = .slice A x.length c ∧ v4 = .int .i64 i ∧ Aside0 (0 ≤ i ∧ i ≤ l.length ∧ l.length - i < kq ∧ x.length ≤ c ∧ x = Pure.rowOf (l.drop i.toNat)) ∧ Aside0 (Kd.C (Kd.int .u8) w' A x.length x) ∧ Aside0 (Below w.heap.size w w'))
  case atStart => exact ⟨0, Pure.rowOf l, A1, c1, rfl, rfl, ⟨by omega, by omega, by omega, HC1.out, by simp⟩, HR1, HB⟩
  case round =>
    clear HR1 HC1 HB
    obtain ⟨i, x, A, c, rfl, rfl, HI, HX, HB⟩ := hrel
    cases gk with
    | zero => exact absurd HI.out (by omega)
    | succ k2 =>
      obtain ⟨i0, i1, ik, hxc, hx⟩ := HI.out
      by_cases hi : i < l.length
      · obtain ⟨m, hm1, hm2, hg, hd⟩ := HT.out i i0 hi
        rw [← hx] at hm2 hg hd
        have AG := Aside0.mk hg
        have HD := Aside0.mk hd
        have HM := Aside0.mk (And.intro hm1 hm2)
        obtain ⟨i022, hi022, _, hsz22, _⟩ := info_parts info5
        have hcut := cut_from (P := Try.prog) 22 5 .i64 Try.underlying22 hi022 1 hsz22 A x.length c m (by omega) hm2
        have hdr := Kd.C_drop (m := m.toNat) (c := c) HX.out (by omega) hxc
        obtain ⟨y, hy⟩ : ∃ y, y = x.drop m.toNat := ⟨_, rfl⟩
        obtain ⟨A22, hA22⟩ : ∃ A1, A1 = (if c = m.toNat then A else A.map (·.add (m.toNat * 1))) := ⟨_, rfl⟩
        obtain ⟨c22, hc22⟩ : ∃ c1, c1 = c - m.toNat := ⟨_, rfl⟩
        have hyl : y.length = x.length - m.toNat := by rw [hy, List.length_drop]
        rw [← hyl, ← hA22, ← hc22] at hcut
        have hdr2 : Kd.C (Kd.int .u8) wr A22 y.length y := by rw [hA22, hy]; exact hdr
        have HDR := Aside0.mk hdr2
        have HCUT := Aside0.mk hcut
        obtain ⟨ad, e133, hx133⟩ := Kd.at_int HR0.out i i0 hi
        cases e133
        have hcell := (HB.out.cell (World.block_lt_of_cell? w _ hx133)).trans hx133
        have HY := Aside0.mk (And.intro hyl (And.intro hc22 (hy.trans hd)))
        have hb1 : (rd l i == rd l i) = true := beq_self_eq_true _
        have hb2 : (rd l i != rd l i) = false := by simp
        have c1 : decide (i < (l.length : Int)) = true := decide_eq_true hi
        have c2 : decide (0 ≤ i) = true := decide_eq_true i0
        have c3 : decide ((x.length : Int) < m) = false := decide_eq_false (by omega)
        have p1 := eq_true i0
        have p2 := eq_true hi
        have p3 := eq_true hm2
        have hw : wrap64 (i + 1) = i + 1 := by have := HL.out; unfold wrap64; omega
        have HW := Aside0.mk hw
        clear hy hA22 hc22 hyl hdr hdr2 hd hg hcut hm1 hm2 hx133 hsz22 hi022 hx hw i0 i1 ik hi hxc
        have hcut := HCUT.out
        go_wp2_with (first | ((with_reducible refine gate_callee (f := 10) rfl ?_); refine goesL_ (some 26) rfl rfl Try.func10 (by kernel_rfl) rfl #[.slice A x.length c] rfl (by (try simp only [List.map_toArray, List.map_cons, List.map_nil]); first | done | rfl) ?_; (with_reducible refine (varint_Get.calls 20 A c x (rd l i) m 0 _ HX.out HI.out.2.2.2.1 AG.out).mono ?_); rintro e w' ⟨rfl, ⟨nd, rfl⟩⟩; refine ⟨_, rfl, ?_⟩))
        go_roundg k2
        case measure => omega
        case rel => exact ⟨i + 1, y, A22, c22, rfl, (by rw [HW.out]), ⟨by have := HI.out; omega, by have := HI.out; have := of_eq_true p2; omega, by have := HI.out; omega, by have := HI.out; have := HY.out; omega, HY.out.2.2⟩, ⟨Kd.C_drewN HDR.out nd⟩, ⟨pw_below_drewN HB.out nd⟩⟩
      · have e : i = l.length := by omega
        have hx0 : x = [] := by
          rw [hx, e]; simp [Pure.rowOf]
        subst hx0
        have c1 : decide (i < (l.length : Int)) = false := decide_eq_false hi
        clear hx e hi i0 i1 ik hxc
        go_wp2
        go_ret
        exact ⟨by first | rfl | (simp; done) | (simp [*]; done), by repeat (first | (with_reducible first | exact HB.out | apply below_alloc | apply pw_below_drewN | apply below_drew1) | exact HB.out)⟩

set_option maxHeartbeats 4000000 in
set_option maxRecDepth 100000 in
theorem walk_long (A0 : Option Addr) (c0 : Nat) (l : List Int) (w : World) (hl : 2000 < l.length) (hm : (l.length : Int) ≤ 9223372036854775807) :
    Calls Try.prog 8 #[.slice A0 l.length c0] w fun e w' => e = .returned (.bool true) ∧ Below w.heap.size w w' := by
  have HB := Aside0.mk (Below.refl w.heap.size w)
  have A3 := Aside0.mk (Pure.awake_f 20 (by omega))
  have hlt : decide (2000 < l.length) = true := decide_eq_true (by omega)
  have hlt' : decide ((2000 : Int) < (l.length : Int)) = true := decide_eq_true (by omega)
  clear hl
  go_enter Try.func8, Try.ntmps8
  go_wp2_with (first | ((with_reducible refine gate_callee (f := 9) rfl ?_); refine goesL_ (some 8) rfl rfl Try.func9 (by kernel_rfl) rfl #[] rfl (by (try simp only [List.map_toArray, List.map_cons, List.map_nil]); first | done | rfl) ?_; (with_reducible refine (alibilaw01_awake.calls 20 true _ A3.out).mono ?_); rintro e w6 ⟨rfl, hb⟩; refine ⟨_, rfl, ?_⟩; have n0_ := Aside0.mk (below_step HB.out hb); clear HB; have HB := n0_; clear n0_; (try clear hb)) | ((with_reducible refine gate_callee (f := 9) rfl ?_); refine goesL_ (some 15) rfl rfl Try.func9 (by kernel_rfl) rfl #[] rfl (by (try simp only [List.map_toArray, List.map_cons, List.map_nil]); first | done | rfl) ?_; (with_reducible refine (alibilaw01_awake.calls 20 true _ A3.out).mono ?_); rintro e w6 ⟨rfl, hb⟩; refine ⟨_, rfl, ?_⟩; have n0_ := Aside0.mk (below_step HB.out hb); clear HB; have HB := n0_; clear n0_; (try clear hb)))
  go_ret
  exact ⟨by first | rfl | (simp; done) | (simp [*]; done), by repeat (first | (with_reducible first | exact HB.out | apply below_alloc | apply pw_below_drewN | apply below_drew1) | exact HB.out)⟩

theorem law_row (a0 : Option Addr) (len0 cap0 : Nat) (z0 : List Int) (w : World) (w0 : (a0 = none ∧ len0 = 0 ∧ cap0 = 0 ∧ z0 = []) ∨ ∃ x, a0 = some x ∧ len0 ≤ cap0 ∧ cap0 ≤ maxLen ∧ z0.length = cap0 ∧ (∀ i, i < z0.length → w.cell? (x.add i) = some (.int .u32 (z0.getD i 0))) ∧ ∀ n ∈ z0, (Lit.int .u32 n).wf = true) (y0 : len0 * 4 ≤ 140737488351232) :
    Calls Try.prog 8 #[.slice a0 len0 cap0] w fun e w' => e = .returned (.bool true) ∧ Below w.heap.size w w' := by
  obtain ⟨l0, rfl, hr0, hm0, hw0, hc0⟩ := ReadsInt.ofRowC w0
  have hr := Kd.C_of_reads (d := (0 : Int)) (h1 := fun _ => rfl) hr0
  by_cases h : 2000 < l0.length
  · exact walk_long a0 cap0 l0 w h (by omega)
  · exact walk_ok a0 cap0 l0 w hr hc0 (by omega) (fun x h => wf_u32 (hw0 x h))
end Go.Proofs.Ytacmfkkipafhfaa.RowsLaw
