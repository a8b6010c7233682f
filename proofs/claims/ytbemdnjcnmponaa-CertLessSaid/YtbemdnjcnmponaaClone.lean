/- slices.Clone of sets and of justifications: contracts (the copy is new memory); for slices of at most a thousand elements. -/
import Derived.Test.YtbemdnjcnmponaaLit
import Derived.WalkSpells
namespace Go.Proofs.Ytbemdnjcnmponaa.Clone
open Go.RowKit Go.Proofs.YtbemdnjcnmponaaW.PrintWords Go.Proofs.YtbemdnjcnmponaaW.PrintLast Go.Proofs.YtbemdnjcnmponaaW.PrintMore Go.Proofs.Ytbemdnjcnmponaa.PCertSame Go.Proofs.Ytbemdnjcnmponaa.Data
set_option linter.unusedVariables false
set_option linter.unusedSimpArgs false

theorem nil_of {α : Type} {d : Kd α} {w : World} {n : Nat} {xs : List α} (h : d.C w none n xs) : xs = [] := by
  rcases Nat.eq_zero_or_pos n with h0 | h0
  · exact List.eq_nil_of_length_eq_zero (by rw [h.1, h0])
  · obtain ⟨_, e, _⟩ := h.2.2 h0
    cases e

theorem info35 : (Try.prog.info? 35).map (fun i => (i.zero, i.size, i.bytes)) = some (some (.int .u32 0), 1, 4) := by kernel_rfl
theorem info40 : (Try.prog.info? 40).map (fun i => (i.zero, i.size, i.bytes)) = some (some (.agg #[.int .i64 0, .int .i64 0]), 2, 16) := by kernel_rfl

set_option maxHeartbeats 2000000 in
set_option maxRecDepth 100000 in
theorem clone_u32 (A : Option Addr) (c : Nat) (l : List Int) (w : World) (hC : Kd.C (Kd.int .u32) w A l.length l) (hl : l.length ≤ 1000) :
    Calls Try.prog 20 #[.slice A l.length c] w fun e w' => ∃ v, e = .returned v ∧ Kd.R (Kd.int .u32) 35 w' w.heap.size (fun _ => True) v l ∧ Below w.heap.size w w' := by
  cases A with
  | none =>
    have e := nil_of hC
    subst e
    clear hC hl
    have hn := fun W => Lib.run_eql_slice_nil (P := Try.prog) W 36 35 none 0 c 0 0 Try.underlying36
    go_enter Try.func20, Try.ntmps20
    go_wp2
    go_ret
    exact ⟨_, rfl, Kd.R_nil _ _ _ _ _, Below.refl _ _⟩
  | some ad =>
    have HC := Aside0.mk hC
    have HL := Aside0.mk hl
    have HB := Aside0.mk (Below.refl w.heap.size w)
    have hn := fun W => Lib.run_eql_slice_nil (P := Try.prog) W 36 35 (some ad) l.length c 0 0 Try.underlying36
    clear hC hl
    go_enter Try.func20, Try.ntmps20
    go_wp2_with (first | ((with_reducible refine gate_dst (N := 5) rfl ?_); refine Kd.R_lit (Kd.int .u32) w.heap.size 35 ?hg (N := 5) ?hd (xs := ([] : List Int)) (inner := []) (ok := fun _ => True) (okp := fun _ => True) ?hr ?hp (fun _ hk => hk) trivial (Below.refl _ _) (Nat.le_refl _) (by simp) ?_; (case hd => rfl); (case hg => rfl); (case hr => first | (go_simp; done) | (go_simp; rfl)); (case hp => exact (Reps.none _ _)); intro v1 w1 ho hb hg_ hnew_; have HO := Aside0.mk ho; have n_ := Aside0.mk hb; clear HB; have HB := n_; clear n_ ho hb hg_ hnew_) | ((with_reducible refine gate_builtin (b := .append) (xs := #[.tmp 5, .tmp 6]) rfl ?_); at_builtin; refine Kd.R_append_rows (Kd.int .u32) (w0 := w) w.heap.size rfl (.tmp 5) (.tmp 6) 36 35 (.int .u32 0) 4 rfl Try.underlying36 info35 rfl (by decide) (by omega) v1 [] l _ _ _ (fun _ => True) (fun _ => False) rfl rfl HO.out (Kd.C_below HC.out HB.out) (fun _ _ h => h) (fun _ h => h.elim) (fun _ _ => trivial) HB.out (below_size HB.out) ?aL ?_; (case aL => simp; have := HL.out; omega); intro v2 w2 ho2 hb2 hg2_ hnew2_; clear HO HB; have HO := Aside0.mk ho2; have HB := Aside0.mk hb2; clear ho2 hb2 hg2_ hnew2_))
    go_ret
    exact ⟨_, rfl, HO.out, HB.out⟩

set_option maxHeartbeats 2000000 in
set_option maxRecDepth 100000 in
theorem clone_just (A : Option Addr) (c : Nat) (l : List S40) (w : World) (hC : Kd.C k40 w A l.length l) (hl : l.length ≤ 1000) :
    Calls Try.prog 19 #[.slice A l.length c] w fun e w' => ∃ v, e = .returned v ∧ Kd.R k40 40 w' w.heap.size (fun _ => True) v l ∧ Below w.heap.size w w' := by
  cases A with
  | none =>
    have e := nil_of hC
    subst e
    clear hC hl
    have hn := fun W => Lib.run_eql_slice_nil (P := Try.prog) W 24 40 none 0 c 0 0 Try.underlying24
    go_enter Try.func19, Try.ntmps19
    go_wp2
    go_ret
    exact ⟨_, rfl, Kd.R_nil _ _ _ _ _, Below.refl _ _⟩
  | some ad =>
    have HC := Aside0.mk hC
    have HL := Aside0.mk hl
    have HB := Aside0.mk (Below.refl w.heap.size w)
    have hn := fun W => Lib.run_eql_slice_nil (P := Try.prog) W 24 40 (some ad) l.length c 0 0 Try.underlying24
    clear hC hl
    go_enter Try.func19, Try.ntmps19
    go_wp2_with (first | ((with_reducible refine gate_dst (N := 5) rfl ?_); refine Kd.R_lit k40 w.heap.size 40 ?hg (N := 5) ?hd (xs := ([] : List S40)) (inner := []) (ok := fun _ => True) (okp := fun _ => True) ?hr ?hp (fun _ hk => hk) trivial (Below.refl _ _) (Nat.le_refl _) (by simp) ?_; (case hd => rfl); (case hg => rfl); (case hr => first | (go_simp; done) | (go_simp; rfl)); (case hp => exact (Reps.none _ _)); intro v1 w1 ho hb hg_ hnew_; have HO := Aside0.mk ho; have n_ := Aside0.mk hb; clear HB; have HB := n_; clear n_ ho hb hg_ hnew_) | ((with_reducible refine gate_builtin (b := .append) (xs := #[.tmp 5, .tmp 6]) rfl ?_); at_builtin; refine Kd.R_append_rows k40 (w0 := w) w.heap.size rfl (.tmp 5) (.tmp 6) 24 40 (.agg #[.int .i64 0, .int .i64 0]) 16 rfl Try.underlying24 info40 rfl (by decide) (by omega) v1 [] l _ _ _ (fun _ => True) (fun _ => False) rfl rfl HO.out (Kd.C_below HC.out HB.out) (fun x cs h => by have := k40_open h; subst this; exact k40_mkM _ _ _ x) (fun _ h => h.elim) (fun _ _ => trivial) HB.out (below_size HB.out) ?aL ?_; (case aL => simp; have := HL.out; omega); intro v2 w2 ho2 hb2 hg2_ hnew2_; clear HO HB; have HO := Aside0.mk ho2; have HB := Aside0.mk hb2; clear ho2 hb2 hg2_ hnew2_))
    go_ret
    exact ⟨_, rfl, HO.out, HB.out⟩
end Go.Proofs.Ytbemdnjcnmponaa.Clone
