/- A greater number has no fewer bytes, and 128 times as much has just one more, as long as it is a number: the walk of VarintSizes over the printed contracts of its callees; for every input. -/
import Derived.Test.YtacmfkkipafhfaaRows
import Derived.Test.YtacmfkkipafhfaaPureVarintGets
import Derived.WalkKit
import Derived.ProofKit
import Derived.OpenShut
import Derived.ShutString
import Derived.ChangeOld
import Derived.Below
import Derived.SizedLaws
namespace Go.Proofs.Ytacmfkkipafhfaa.Sizes
open Go.RowKit Go.Proofs.Ytacmfkkipafhfaa.PVarintGets Go.Proofs.Ytacmfkkipafhfaa.Math Go.Proofs.YtacmfkkipafhfaaW.PrintWords Go.Proofs.YtacmfkkipafhfaaW.PrintLast Go.Proofs.YtacmfkkipafhfaaW.PrintMore
set_option linter.unusedVariables false
set_option linter.unusedSimpArgs false

/-- the sizes of two numbers, under names -/
theorem sizes (a b : Int) (a0 : 0 ≤ a) (a1 : a < 4294967296) (b0 : 0 ≤ b) (b1 : b < 4294967296) :
    ∃ sa sb : Int, varint_Size.f 20 a = some sa ∧ varint_Size.f 20 b = some sb ∧ 1 ≤ sa ∧ sa ≤ 5 ∧ (a ≤ b → sa ≤ sb) ∧ (b ≤ a → sb ≤ sa) ∧
      (a ≠ 0 → a < 33554432 → varint_Size.f 20 ((128 * a) % 4294967296) = some (sa + 1)) := by
  refine ⟨(vput 5 a).length, (vput 5 b).length, Pure.size_f 20 a a0 a1 (by omega), Pure.size_f 20 b b0 b1 (by omega), ?_, ?_, ?_, ?_, ?_⟩
  · have : 1 ≤ (vput 5 a).length := vput_length_pos 4 a
    omega
  · have := vput_length_le 5 a; omega
  · intro h; have := vput_mono 5 a b h; omega
  · intro h; have := vput_mono 5 b a h; omega
  · intro h h'
    rw [show 128 * a % 4294967296 = 128 * a by omega, Pure.size_f 20 (128 * a) (by omega) (by omega) (by omega)]
    have := vput_shift 3 a (by omega) (by omega)
    rw [this]; simp

set_option maxHeartbeats 4000000 in
set_option maxRecDepth 100000 in
theorem law_walk (a b : Int) (w : World) (a0 : 0 ≤ a) (a1 : a < 4294967296) (b0 : 0 ≤ b) (b1 : b < 4294967296) :
    Calls Try.prog 6 #[.int .u32 a, .int .u32 b] w fun e w' => e = .returned (.bool true) ∧ Below w.heap.size w w' := by
  have HB := Aside0.mk (Below.refl w.heap.size w)
  have A3 := Aside0.mk (Pure.awake_f 20 (by omega))
  obtain ⟨sa, sb, hA, hB, s1, s5, h1, h2, h3⟩ := sizes a b a0 a1 b0 b1
  have A8 := Aside0.mk hA
  have A9 := Aside0.mk hB
  clear hA hB
  have hw : wrap64 (sa + 1) = sa + 1 := by unfold wrap64; omega
  have HW := Aside0.mk hw
  clear hw
  by_cases c : a ≤ b
  all_goals
    first
    | have c0 : decide (a ≤ b) = true := decide_eq_true c
      have c1 : decide (b < a) = false := decide_eq_false (by omega)
      have c2 : decide (sb < sa) = false := decide_eq_false (by have := h1 c; omega)
    | have c0 : decide (a ≤ b) = false := decide_eq_false c
      have c1 : decide (b < a) = true := decide_eq_true (by omega)
      have c2 : decide (sa < sb) = false := decide_eq_false (by have := h2 (by omega); omega)
    clear h1 h2 c
    by_cases z : a = 0
    · have z0 : (a == 0) = true := beq_iff_eq.mpr z
      have z1 : (a != 0) = false := bne_eq_false_iff_eq.mpr z
      clear z h3 a0 a1 b0 b1 s1 s5
      go_enter Try.func6, Try.ntmps6
      go_wp2_with (first | ((with_reducible refine gate_callee (f := 9) rfl ?_); refine goesL_ (some 5) rfl rfl Try.func9 (by kernel_rfl) rfl #[] rfl (by (try simp only [List.map_toArray, List.map_cons, List.map_nil]); first | done | rfl) ?_; (with_reducible refine (alibilaw01_awake.calls 20 true _ A3.out).mono ?_); rintro e w6 ⟨rfl, hb⟩; refine ⟨_, rfl, ?_⟩; have n0_ := Aside0.mk (below_step HB.out hb); clear HB; have HB := n0_; clear n0_; (try clear hb)) | (go_at_call 13; (with_reducible refine (varint_Size.calls 20 a sa _ A8.out).mono ?_); rintro e w' ⟨rfl, ⟨nd, rfl⟩⟩) | (go_at_call 13; (with_reducible refine (varint_Size.calls 20 b sb _ A9.out).mono ?_); rintro e w' ⟨rfl, ⟨nd, rfl⟩⟩))
      go_ret
      exact ⟨by first | rfl | (simp; done) | (simp [*]; done), by repeat (first | (with_reducible first | exact HB.out | apply below_alloc | apply pw_below_drewN | apply below_drew1) | exact HB.out)⟩
    · have z0 : (a == 0) = false := beq_eq_false_iff_ne.mpr z
      have z1 : (a != 0) = true := bne_iff_ne.mpr z
      by_cases t : 33554432 ≤ a
      · have t0 : decide (33554432 ≤ a) = true := decide_eq_true t
        clear z h3 t a0 a1 b0 b1 s1 s5
        go_enter Try.func6, Try.ntmps6
        go_wp2_with (first | ((with_reducible refine gate_callee (f := 9) rfl ?_); refine goesL_ (some 5) rfl rfl Try.func9 (by kernel_rfl) rfl #[] rfl (by (try simp only [List.map_toArray, List.map_cons, List.map_nil]); first | done | rfl) ?_; (with_reducible refine (alibilaw01_awake.calls 20 true _ A3.out).mono ?_); rintro e w6 ⟨rfl, hb⟩; refine ⟨_, rfl, ?_⟩; have n0_ := Aside0.mk (below_step HB.out hb); clear HB; have HB := n0_; clear n0_; (try clear hb)) | (go_at_call 13; (with_reducible refine (varint_Size.calls 20 a sa _ A8.out).mono ?_); rintro e w' ⟨rfl, ⟨nd, rfl⟩⟩) | (go_at_call 13; (with_reducible refine (varint_Size.calls 20 b sb _ A9.out).mono ?_); rintro e w' ⟨rfl, ⟨nd, rfl⟩⟩))
        go_ret
        exact ⟨by first | rfl | (simp; done) | (simp [*]; done), by repeat (first | (with_reducible first | exact HB.out | apply below_alloc | apply pw_below_drewN | apply below_drew1) | exact HB.out)⟩
      · have t0 : decide (33554432 ≤ a) = false := decide_eq_false t
        have A20 := Aside0.mk (h3 z (by omega))
        clear z h3 t a0 a1 b0 b1 s1 s5
        go_enter Try.func6, Try.ntmps6
        go_wp2_with (first | ((with_reducible refine gate_callee (f := 9) rfl ?_); refine goesL_ (some 5) rfl rfl Try.func9 (by kernel_rfl) rfl #[] rfl (by (try simp only [List.map_toArray, List.map_cons, List.map_nil]); first | done | rfl) ?_; (with_reducible refine (alibilaw01_awake.calls 20 true _ A3.out).mono ?_); rintro e w6 ⟨rfl, hb⟩; refine ⟨_, rfl, ?_⟩; have n0_ := Aside0.mk (below_step HB.out hb); clear HB; have HB := n0_; clear n0_; (try clear hb)) | (go_at_call 13; (with_reducible refine (varint_Size.calls 20 ((128 * a) % 4294967296) (sa + 1) _ A20.out).mono ?_); rintro e w' ⟨rfl, ⟨nd, rfl⟩⟩) | (go_at_call 13; (with_reducible refine (varint_Size.calls 20 a sa _ A8.out).mono ?_); rintro e w' ⟨rfl, ⟨nd, rfl⟩⟩) | (go_at_call 13; (with_reducible refine (varint_Size.calls 20 b sb _ A9.out).mono ?_); rintro e w' ⟨rfl, ⟨nd, rfl⟩⟩))
        go_ret
        exact ⟨by rw [HW.out]; first | rfl | (simp; done) | (simp [*]; done), by repeat (first | (with_reducible first | exact HB.out | apply below_alloc | apply pw_below_drewN | apply below_drew1) | exact HB.out)⟩

theorem law_row (a b : Int) (w : World) (ha : (Lit.int .u32 a).wf = true) (hb : (Lit.int .u32 b).wf = true) :
    Calls Try.prog 6 #[.int .u32 a, .int .u32 b] w fun e w' => e = .returned (.bool true) ∧ Below w.heap.size w w' :=
  law_walk a b w (wf_u32 ha).1 (wf_u32 ha).2 (wf_u32 hb).1 (wf_u32 hb).2
end Go.Proofs.Ytacmfkkipafhfaa.Sizes
