/- No section hangs on another one (CertAlone): the walk of the law; for every certificate. -/
import Derived.Test.YtbemdnjcnmponaaLit
namespace Go.Proofs.Ytbemdnjcnmponaa.Laws2
open Go.RowKit Go.Proofs.YtbemdnjcnmponaaW.PrintWords Go.Proofs.YtbemdnjcnmponaaW.PrintLast Go.Proofs.YtbemdnjcnmponaaW.PrintMore Go.Proofs.Ytbemdnjcnmponaa.PCertSame Go.Proofs.Ytbemdnjcnmponaa.Data Go.Proofs.Ytbemdnjcnmponaa.Within Go.Proofs.Ytbemdnjcnmponaa.Section Go.Proofs.Ytbemdnjcnmponaa.Plain Go.Proofs.Ytbemdnjcnmponaa.Check Go.Proofs.Ytbemdnjcnmponaa.RefCheck Go.Proofs.Ytbemdnjcnmponaa.Awake Go.Proofs.Ytbemdnjcnmponaa.Laws1 Go.Proofs.Ytbemdnjcnmponaa.Lit
set_option linter.unusedVariables false
set_option linter.unusedSimpArgs false

theorem chk_one (d : List Int) (s : Sec) : chk ⟨d, [s], []⟩ = (0, if secOk s = true then 0 else 3) := by
  unfold chk
  rw [if_neg (by simp), if_neg (by simp)]
  by_cases h : secOk s = true
  · simp [badAt, h]
  · simp [badAt, h]
theorem chk_secs (d : List Int) (l : List Sec) (h0 : l.length ≠ 0) (h1 : l.length ≤ 16) : chk ⟨d, l, []⟩ = if 0 ≤ badAt secOk l 0 then (badAt secOk l 0, 3) else (0, 0) := by
  unfold chk
  rw [if_neg h0, if_neg (by simp; omega)]
  split <;> simp [badAt]
theorem mid_one (l : List Sec) (i : Int) (h0 : 0 ≤ i) (h1 : i < l.length) : (l.take (i + 1).toNat).drop i.toNat = [rdS l i] := by
  have hi : i.toNat < l.length := by omega
  have e : (i + 1).toNat = i.toNat + 1 := by omega
  rw [e, List.drop_take, List.drop_eq_getElem_cons hi]
  have : i.toNat + 1 - i.toNat = 1 := by omega
  rw [this, List.take_succ_cons, List.take_zero]
  unfold rdS; simp [hi]
theorem info38 : ∃ i, Try.prog.info? 38 = some i ∧ i.size = 6 := by
  have h : (Try.prog.info? 38).map (·.size) = some 6 := by kernel_rfl
  exact Option.map_eq_some_iff.1 h

theorem check_lit (d : List Int) (l : List Sec) (dg : Nat → Int) (A : Option Addr) (a : Nat) (n e : Int) (W : World) (ha : l.length ≤ a) (hA : Kd.C kSec W A l.length l) (hh : Short ⟨d, l, []⟩) (hc : chk ⟨d, l, []⟩ = (n, e)) :
    Calls Try.prog 10 #[.agg #[.int .u8 (dg 0), .int .u8 (dg 1), .int .u8 (dg 2), .int .u8 (dg 3), .int .u8 (dg 4), .int .u8 (dg 5), .int .u8 (dg 6), .int .u8 (dg 7), .int .u8 (dg 8), .int .u8 (dg 9), .int .u8 (dg 10), .int .u8 (dg 11), .int .u8 (dg 12), .int .u8 (dg 13), .int .u8 (dg 14), .int .u8 (dg 15), .int .u8 (dg 16), .int .u8 (dg 17), .int .u8 (dg 18), .int .u8 (dg 19), .int .u8 (dg 20), .int .u8 (dg 21), .int .u8 (dg 22), .int .u8 (dg 23), .int .u8 (dg 24), .int .u8 (dg 25), .int .u8 (dg 26), .int .u8 (dg 27), .int .u8 (dg 28), .int .u8 (dg 29), .int .u8 (dg 30), .int .u8 (dg 31), .slice A l.length a, .slice none 0 0]] W fun e' w' => e' = .returned (.tuple #[.int .i64 n, .int .i64 e]) ∧ Below W.heap.size W w' :=
  check_is ⟨d, l, []⟩ _ A none a 0 n e W (litVal dg ⟨d, l, []⟩ A none a 0 ha (Nat.le_refl _) hA (Kd.C_nil _ _)) hh hc
theorem check_lit1 (d : List Int) (s : Sec) (A : Option Addr) (a : Nat) (n e : Int) (W : World) (ha : 1 ≤ a) (hA : Kd.C kSec W A 1 [s]) (hh : Short ⟨d, [s], []⟩) (hc : chk ⟨d, [s], []⟩ = (n, e)) :
    Calls Try.prog 10 #[.agg #[.int .u8 0, .int .u8 0, .int .u8 0, .int .u8 0, .int .u8 0, .int .u8 0, .int .u8 0, .int .u8 0, .int .u8 0, .int .u8 0, .int .u8 0, .int .u8 0, .int .u8 0, .int .u8 0, .int .u8 0, .int .u8 0, .int .u8 0, .int .u8 0, .int .u8 0, .int .u8 0, .int .u8 0, .int .u8 0, .int .u8 0, .int .u8 0, .int .u8 0, .int .u8 0, .int .u8 0, .int .u8 0, .int .u8 0, .int .u8 0, .int .u8 0, .int .u8 0, .slice A 1 a, .slice none 0 0]] W fun e' w' => e' = .returned (.tuple #[.int .i64 n, .int .i64 e]) ∧ Below W.heap.size W w' :=
  check_lit d [s] (fun _ => 0) A a n e W ha hA hh hc

set_option maxHeartbeats 4000000 in
set_option maxRecDepth 100000 in
theorem alone_many (c : Crt) (dg : Nat → Int) (A B : Option Addr) (a b : Nat) (w : World) (h : CrtVal w c (litC dg (.slice A c.secs.length a) (.slice B c.justs.length b)) A a B b) (hh : Short c) (hf : fewOk c = false) :
    Calls Try.prog 4 #[.agg #[.int .u8 (dg 0), .int .u8 (dg 1), .int .u8 (dg 2), .int .u8 (dg 3), .int .u8 (dg 4), .int .u8 (dg 5), .int .u8 (dg 6), .int .u8 (dg 7), .int .u8 (dg 8), .int .u8 (dg 9), .int .u8 (dg 10), .int .u8 (dg 11), .int .u8 (dg 12), .int .u8 (dg 13), .int .u8 (dg 14), .int .u8 (dg 15), .int .u8 (dg 16), .int .u8 (dg 17), .int .u8 (dg 18), .int .u8 (dg 19), .int .u8 (dg 20), .int .u8 (dg 21), .int .u8 (dg 22), .int .u8 (dg 23), .int .u8 (dg 24), .int .u8 (dg 25), .int .u8 (dg 26), .int .u8 (dg 27), .int .u8 (dg 28), .int .u8 (dg 29), .int .u8 (dg 30), .int .u8 (dg 31), .slice A c.secs.length a, .slice B c.justs.length b]] w fun e w' => e = .returned (.bool true) ∧ Below w.heap.size w w' := by
  have HB := Aside0.mk (Below.refl (w.alloc (.cells (litC dg (.slice A c.secs.length a) (.slice B c.justs.length b)) 26)).heap.size (w.alloc (.cells (litC dg (.slice A c.secs.length a) (.slice B c.justs.length b)) 26)))
  have HB0 := Aside0.mk (below_alloc (Below.refl w.heap.size w) (.cells (litC dg (.slice A c.secs.length a) (.slice B c.justs.length b)) 26))
  have HX := Aside0.mk (box_block (litC dg (.slice A c.secs.length a) (.slice B c.justs.length b)) w)
  have HZ := Aside0.mk (size26 (cs := litC dg (.slice A c.secs.length a) (.slice B c.justs.length b)) rfl)
  have HV := Aside0.mk h
  have HH := Aside0.mk hh
  have HF := Aside0.mk hf
  have hcell32 : ∀ w', Below (w.alloc (.cells (litC dg (.slice A c.secs.length a) (.slice B c.justs.length b)) 26)).heap.size (w.alloc (.cells (litC dg (.slice A c.secs.length a) (.slice B c.justs.length b)) 26)) w' → w'.cell? ⟨w.heap.size, 32, none⟩ = some (.slice A c.secs.length a) := fun w' hb => by
    rw [hb.cell (p := ⟨w.heap.size, 32, none⟩) (by simp), World.cell?_alloc_at _ _ _ _ rfl]; rfl
  have H32 := Aside0.mk hcell32
  clear h hh hf hcell32
  go_enter Try.func4, Try.ntmps4
  go_wp2_with (first | ((with_reducible refine gate_callee (f := 8) rfl ?_); refine goesL_ (some 8) rfl rfl Try.func8 (by kernel_rfl) rfl #[] rfl (by (try simp only [List.map_toArray, List.map_cons, List.map_nil]); first | done | rfl) ?_; (with_reducible refine (awake_any _).mono ?_); rintro e w1 ⟨rfl, hb⟩; refine ⟨_, rfl, ?_⟩; have n_ := Aside0.mk (below_step HB.out hb); clear HB; have HB := n_; clear n_ hb) | ((with_reducible refine gate_dst (N := 11) rfl ?_); refine gate_guard (by rfl) ?_; refine wpList_load_row rfl 26 (.tmp 1) rfl w.heap.size rfl 26 (litC dg (.slice A c.secs.length a) (.slice B c.justs.length b)) (0, 0) _ (HX.out _ HB.out) Try.underlying26 rfl HZ.out ?_) | (go_at_call 9; (with_reducible refine (few_is c _ A B a b false _ (HV.out.below (below_step HB0.out HB.out)) HH.out HF.out).mono ?_); rintro e w2 ⟨rfl, hb⟩; have n_ := Aside0.mk (below_step HB.out hb); clear HB; have HB := n_; clear n_ hb; have q32 := H32.out _ HB.out) | (go_at_call 8; (with_reducible refine (awake_any _).mono ?_); rintro e w5 ⟨rfl, hb⟩; have n_ := Aside0.mk (below_step HB.out hb); clear HB; have HB := n_; clear n_ hb))
  go_ret
  exact ⟨by first | rfl | (simp; done), below_step HB0.out HB.out⟩

set_option maxHeartbeats 4000000 in
set_option maxRecDepth 100000 in
theorem alone_out (c : Crt) (dg : Nat → Int) (A B : Option Addr) (a b : Nat) (w : World) (h : CrtVal w c (litC dg (.slice A c.secs.length a) (.slice B c.justs.length b)) A a B b) (hh : Short c) (hf : fewOk c = true) (ho : c.secs.length = 0 ∨ 16 < c.secs.length) :
    Calls Try.prog 4 #[.agg #[.int .u8 (dg 0), .int .u8 (dg 1), .int .u8 (dg 2), .int .u8 (dg 3), .int .u8 (dg 4), .int .u8 (dg 5), .int .u8 (dg 6), .int .u8 (dg 7), .int .u8 (dg 8), .int .u8 (dg 9), .int .u8 (dg 10), .int .u8 (dg 11), .int .u8 (dg 12), .int .u8 (dg 13), .int .u8 (dg 14), .int .u8 (dg 15), .int .u8 (dg 16), .int .u8 (dg 17), .int .u8 (dg 18), .int .u8 (dg 19), .int .u8 (dg 20), .int .u8 (dg 21), .int .u8 (dg 22), .int .u8 (dg 23), .int .u8 (dg 24), .int .u8 (dg 25), .int .u8 (dg 26), .int .u8 (dg 27), .int .u8 (dg 28), .int .u8 (dg 29), .int .u8 (dg 30), .int .u8 (dg 31), .slice A c.secs.length a, .slice B c.justs.length b]] w fun e w' => e = .returned (.bool true) ∧ Below w.heap.size w w' := by
  have HB := Aside0.mk (Below.refl (w.alloc (.cells (litC dg (.slice A c.secs.length a) (.slice B c.justs.length b)) 26)).heap.size (w.alloc (.cells (litC dg (.slice A c.secs.length a) (.slice B c.justs.length b)) 26)))
  have HB0 := Aside0.mk (below_alloc (Below.refl w.heap.size w) (.cells (litC dg (.slice A c.secs.length a) (.slice B c.justs.length b)) 26))
  have HX := Aside0.mk (box_block (litC dg (.slice A c.secs.length a) (.slice B c.justs.length b)) w)
  have HZ := Aside0.mk (size26 (cs := litC dg (.slice A c.secs.length a) (.slice B c.justs.length b)) rfl)
  have HV := Aside0.mk h
  have HH := Aside0.mk hh
  have HF := Aside0.mk hf
  have hcell32 : ∀ w', Below (w.alloc (.cells (litC dg (.slice A c.secs.length a) (.slice B c.justs.length b)) 26)).heap.size (w.alloc (.cells (litC dg (.slice A c.secs.length a) (.slice B c.justs.length b)) 26)) w' → w'.cell? ⟨w.heap.size, 32, none⟩ = some (.slice A c.secs.length a) := fun w' hb => by
    rw [hb.cell (p := ⟨w.heap.size, 32, none⟩) (by simp), World.cell?_alloc_at _ _ _ _ rfl]; rfl
  have H32 := Aside0.mk hcell32
  have hl := Kd.C_max h.hA
  rcases ho with ho | ho
  · have d0 : ((c.secs.length : Int) == 0) = true := beq_iff_eq.mpr (by omega)
    have d0b : (c.secs.length == 0) = true := beq_iff_eq.mpr ho
    clear h hh hf hcell32 ho hl
    go_enter Try.func4, Try.ntmps4
    go_wp2_with (first | ((with_reducible refine gate_callee (f := 8) rfl ?_); refine goesL_ (some 8) rfl rfl Try.func8 (by kernel_rfl) rfl #[] rfl (by (try simp only [List.map_toArray, List.map_cons, List.map_nil]); first | done | rfl) ?_; (with_reducible refine (awake_any _).mono ?_); rintro e w1 ⟨rfl, hb⟩; refine ⟨_, rfl, ?_⟩; have n_ := Aside0.mk (below_step HB.out hb); clear HB; have HB := n_; clear n_ hb) | ((with_reducible refine gate_dst (N := 11) rfl ?_); refine gate_guard (by rfl) ?_; refine wpList_load_row rfl 26 (.tmp 1) rfl w.heap.size rfl 26 (litC dg (.slice A c.secs.length a) (.slice B c.justs.length b)) (0, 0) _ (HX.out _ HB.out) Try.underlying26 rfl HZ.out ?_) | (go_at_call 9; (with_reducible refine (few_is c _ A B a b true _ (HV.out.below (below_step HB0.out HB.out)) HH.out HF.out).mono ?_); rintro e w2 ⟨rfl, hb⟩; have n_ := Aside0.mk (below_step HB.out hb); clear HB; have HB := n_; clear n_ hb; have q32 := H32.out _ HB.out) | (go_at_call 8; (with_reducible refine (awake_any _).mono ?_); rintro e w5 ⟨rfl, hb⟩; have n_ := Aside0.mk (below_step HB.out hb); clear HB; have HB := n_; clear n_ hb))
    go_ret
    exact ⟨by first | rfl | (simp; done), below_step HB0.out HB.out⟩
  · have d0 : ((c.secs.length : Int) == 0) = false := beq_eq_false_iff_ne.mpr (by omega)
    have d0b : (c.secs.length == 0) = false := beq_eq_false_iff_ne.mpr (by omega)
    have d1 : decide ((16 : Int) < (c.secs.length : Int)) = true := decide_eq_true (by omega)
    have d1b : decide (16 < c.secs.length) = true := decide_eq_true ho
    clear h hh hf hcell32 ho
    go_enter Try.func4, Try.ntmps4
    go_wp2_with (first | ((with_reducible refine gate_callee (f := 8) rfl ?_); refine goesL_ (some 8) rfl rfl Try.func8 (by kernel_rfl) rfl #[] rfl (by (try simp only [List.map_toArray, List.map_cons, List.map_nil]); first | done | rfl) ?_; (with_reducible refine (awake_any _).mono ?_); rintro e w1 ⟨rfl, hb⟩; refine ⟨_, rfl, ?_⟩; have n_ := Aside0.mk (below_step HB.out hb); clear HB; have HB := n_; clear n_ hb) | ((with_reducible refine gate_dst (N := 11) rfl ?_); refine gate_guard (by rfl) ?_; refine wpList_load_row rfl 26 (.tmp 1) rfl w.heap.size rfl 26 (litC dg (.slice A c.secs.length a) (.slice B c.justs.length b)) (0, 0) _ (HX.out _ HB.out) Try.underlying26 rfl HZ.out ?_) | (go_at_call 9; (with_reducible refine (few_is c _ A B a b true _ (HV.out.below (below_step HB0.out HB.out)) HH.out HF.out).mono ?_); rintro e w2 ⟨rfl, hb⟩; have n_ := Aside0.mk (below_step HB.out hb); clear HB; have HB := n_; clear n_ hb; have q32 := H32.out _ HB.out) | (go_at_call 8; (with_reducible refine (awake_any _).mono ?_); rintro e w5 ⟨rfl, hb⟩; have n_ := Aside0.mk (below_step HB.out hb); clear HB; have HB := n_; clear n_ hb))
    go_ret
    exact ⟨by first | rfl | (simp; done), below_step HB0.out HB.out⟩


set_option maxHeartbeats 8000000 in
set_option maxRecDepth 100000 in
theorem alone_main (c : Crt) (dg : Nat → Int) (A B : Option Addr) (a b : Nat) (w : World) (h : CrtVal w c (litC dg (.slice A c.secs.length a) (.slice B c.justs.length b)) A a B b) (hh : Short c) (hf : fewOk c = true) (h0 : c.secs.length ≠ 0) (h1 : c.secs.length ≤ 16) (n e : Int) (hc : chk ⟨c.dig, c.secs, []⟩ = (n, e)) :
    Calls Try.prog 4 #[.agg #[.int .u8 (dg 0), .int .u8 (dg 1), .int .u8 (dg 2), .int .u8 (dg 3), .int .u8 (dg 4), .int .u8 (dg 5), .int .u8 (dg 6), .int .u8 (dg 7), .int .u8 (dg 8), .int .u8 (dg 9), .int .u8 (dg 10), .int .u8 (dg 11), .int .u8 (dg 12), .int .u8 (dg 13), .int .u8 (dg 14), .int .u8 (dg 15), .int .u8 (dg 16), .int .u8 (dg 17), .int .u8 (dg 18), .int .u8 (dg 19), .int .u8 (dg 20), .int .u8 (dg 21), .int .u8 (dg 22), .int .u8 (dg 23), .int .u8 (dg 24), .int .u8 (dg 25), .int .u8 (dg 26), .int .u8 (dg 27), .int .u8 (dg 28), .int .u8 (dg 29), .int .u8 (dg 30), .int .u8 (dg 31), .slice A c.secs.length a, .slice B c.justs.length b]] w fun e w' => e = .returned (.bool true) ∧ Below w.heap.size w w' := by
  have HB := Aside0.mk (Below.refl (w.alloc (.cells (litC dg (.slice A c.secs.length a) (.slice B c.justs.length b)) 26)).heap.size (w.alloc (.cells (litC dg (.slice A c.secs.length a) (.slice B c.justs.length b)) 26)))
  have HB0 := Aside0.mk (below_alloc (Below.refl w.heap.size w) (.cells (litC dg (.slice A c.secs.length a) (.slice B c.justs.length b)) 26))
  have HX := Aside0.mk (box_block (litC dg (.slice A c.secs.length a) (.slice B c.justs.length b)) w)
  have HZ := Aside0.mk (size26 (cs := litC dg (.slice A c.secs.length a) (.slice B c.justs.length b)) rfl)
  have HV := Aside0.mk h
  have HH := Aside0.mk hh
  have HF := Aside0.mk hf
  have hcell32 : ∀ w', Below (w.alloc (.cells (litC dg (.slice A c.secs.length a) (.slice B c.justs.length b)) 26)).heap.size (w.alloc (.cells (litC dg (.slice A c.secs.length a) (.slice B c.justs.length b)) 26)) w' → w'.cell? ⟨w.heap.size, 32, none⟩ = some (.slice A c.secs.length a) := fun w' hb => by
    rw [hb.cell (p := ⟨w.heap.size, 32, none⟩) (by simp), World.cell?_alloc_at _ _ _ _ rfl]; rfl
  have H32 := Aside0.mk hcell32
  have HN := Aside0.mk h1
  have HC := Aside0.mk hc
  have hh2 : Short ⟨c.dig, c.secs, []⟩ := hh
  have HH2 := Aside0.mk hh2
  have hr := chk_secs c.dig c.secs h0 h1
  rw [hc] at hr
  have HR := Aside0.mk hr
  have d0 : ((c.secs.length : Int) == 0) = false := beq_eq_false_iff_ne.mpr (by omega)
  have d0b : (c.secs.length == 0) = false := beq_eq_false_iff_ne.mpr h0
  have d1 : decide ((16 : Int) < (c.secs.length : Int)) = false := decide_eq_false (by omega)
  have d1b : decide (16 < c.secs.length) = false := decide_eq_false (by omega)
  clear h hh hh2 hf hcell32 h0 h1 hc hr
  go_enter Try.func4, Try.ntmps4
  go_wp2_with (first | ((with_reducible refine gate_callee (f := 8) rfl ?_); refine goesL_ (some 8) rfl rfl Try.func8 (by kernel_rfl) rfl #[] rfl (by (try simp only [List.map_toArray, List.map_cons, List.map_nil]); first | done | rfl) ?_; (with_reducible refine (awake_any _).mono ?_); rintro e w1 ⟨rfl, hb⟩; refine ⟨_, rfl, ?_⟩; have n_ := Aside0.mk (below_step HB.out hb); clear HB; have HB := n_; clear n_ hb) | ((with_reducible refine gate_dst (N := 11) rfl ?_); refine gate_guard (by rfl) ?_; refine wpList_load_row rfl 26 (.tmp 1) rfl w.heap.size rfl 26 (litC dg (.slice A c.secs.length a) (.slice B c.justs.length b)) (0, 0) _ (HX.out _ HB.out) Try.underlying26 rfl HZ.out ?_) | (go_at_call 9; (with_reducible refine (few_is c _ A B a b true _ (HV.out.below (below_step HB0.out HB.out)) HH.out HF.out).mono ?_); rintro e w2 ⟨rfl, hb⟩; have n_ := Aside0.mk (below_step HB.out hb); clear HB; have HB := n_; clear n_ hb; have q32 := H32.out _ HB.out) | ((with_reducible refine gate_dst (N := 30) rfl ?_); refine wpList_load_sub rfl 22 (.tmp 29) rfl w.heap.size 0 rfl 26 (litC dg (.slice A c.secs.length a) (.slice B c.justs.length b)) (litD dg) (0, 0) _ (HX.out _ HB.out) (dig_sub dg _ _) Try.underlying22 rfl (size22 dg) ?_) | (go_at_call 10; (with_reducible refine (check_lit c.dig c.secs dg A a n e _ HV.out.ha (Kd.C_below HV.out.hA (below_step HB0.out HB.out)) HH2.out HC.out).mono ?_); rintro e' w3 ⟨rfl, hb⟩; have n_ := Aside0.mk (below_step HB.out hb); clear HB; have HB := n_; clear n_ hb; have q32 := H32.out _ HB.out))
  go_loopg [5] (c.secs.length + 1) (fun kq v5 w' => ∃ i : Int, v5 = .int .i64 i ∧ Aside0 (0 ≤ i ∧ i ≤ c.secs.length ∧ c.secs.length - i < kq ∧ badAt secOk (c.secs.drop i.toNat) i = badAt secOk c.secs 0) ∧ Aside0 (Below (w.alloc (.cells (litC dg (.slice A c.secs.length a) (.slice B c.justs.length b)) 26)).heap.size (w.alloc (.cells (litC dg (.slice A c.secs.length a) (.slice B c.justs.length b)) 26)) w'))
  case atStart => exact ⟨0, rfl, ⟨by omega, by omega, by omega, rfl⟩, HB⟩
  case round =>
    clear q32 HB
    obtain ⟨i, rfl, HI, HB⟩ := hrel
    have q32 := H32.out _ HB.out
    cases gk with
    | zero => exact absurd HI.out (by omega)
    | succ k2 =>
      obtain ⟨i0, i1, ik, hx⟩ := HI.out
      by_cases hi : i < c.secs.length
      · rw [drop_rdS c.secs i i0 hi, badAt] at hx
        obtain ⟨i022, hi022, hsz22⟩ := info38
        have hcut := cut_mid (P := Try.prog) 23 38 .i64 .i64 Try.underlying23 hi022 6 hsz22 A c.secs.length a i (i + 1) i0 (by omega) (by omega) HV.out.ha
        have hdr := Kd.C_mid (lo := i.toNat) (hi := (i + 1).toNat) (c := a) (Kd.C_below HV.out.hA (below_step HB0.out HB.out)) (by omega) (by omega) HV.out.ha
        rw [mid_one c.secs i i0 hi] at hdr
        obtain ⟨s, hs⟩ : ∃ s, s = rdS c.secs i := ⟨_, rfl⟩
        have hsm := HH.out s (by rw [hs]; exact rdS_mem c.secs i i0 hi)
        rw [← hs] at hdr hx
        obtain ⟨A22, hA22⟩ : ∃ A1, A1 = (if a = i.toNat then A else A.map (·.add (i.toNat * 6))) := ⟨_, rfl⟩
        obtain ⟨c22, hc22⟩ : ∃ c1, c1 = a - i.toNat := ⟨_, rfl⟩
        have hone : (i + 1).toNat - i.toNat = 1 := by omega
        rw [← hA22, ← hc22, hone] at hcut
        have hdr1 : Kd.C kSec wr A22 1 [s] := by rw [hA22]; exact hdr
        have HD1 := Aside0.mk hdr1
        have hge : 1 ≤ c22 := by have := HV.out.ha; omega
        have HY := Aside0.mk hge
        have hsh : Short ⟨c.dig, [s], []⟩ := fun s' hs' => by simp at hs'; subst hs'; exact hsm
        have HSH := Aside0.mk hsh
        have hw : wrap64 (i + 1) = i + 1 := by have := HN.out; unfold wrap64; omega
        have HW := Aside0.mk hw
        have c1d : decide (i < (c.secs.length : Int)) = true := decide_eq_true hi
        have p2 := eq_true hi
        have hc1 := chk_one c.dig s
        have HCUT := Aside0.mk hcut
        by_cases hz : secOk s = true
        · rw [if_pos hz] at hc1 hx
          have HC1 := Aside0.mk hc1
          have HX2 := Aside0.mk hx
          clear hx hz hc1 hw hsh hge hdr1 hdr hcut hone hc22 hA22 hs hsm hsz22 hi022 i0 i1 ik hi
          have hcut := HCUT.out
          rw [← HW.out] at hcut
          go_wp2_with (first | (go_at_call 10; (with_reducible refine (check_lit1 c.dig s A22 c22 0 0 _ HY.out HD1.out HSH.out HC1.out).mono ?_); rintro e' w6 ⟨rfl, hb⟩))
          go_roundg k2
          case measure => omega
          case rel => exact ⟨i + 1, (by rw [HW.out]), ⟨by have := HI.out; omega, by have := HI.out; have := of_eq_true p2; omega, by have := HI.out; omega, HX2.out⟩, ⟨below_step HB.out hb⟩⟩
        · rw [if_neg hz] at hc1 hx
          have hne : (n, e) = (i, 3) := by have := HR.out; rw [← hx, if_pos i0] at this; exact this
          have hn1 : n = i := (Prod.mk.inj hne).1
          have he1 : e = 3 := (Prod.mk.inj hne).2
          subst hn1
          subst he1
          have HC1 := Aside0.mk hc1
          have hii : (n == n) = true := beq_self_eq_true _
          clear hx hz hc1 hw hsh hge hdr1 hdr hcut hone hc22 hA22 hs hsm hsz22 hi022 i0 i1 ik hi hne
          have hcut := HCUT.out
          rw [← HW.out] at hcut
          go_wp2_with (first | (go_at_call 10; (with_reducible refine (check_lit1 c.dig s A22 c22 0 3 _ HY.out HD1.out HSH.out HC1.out).mono ?_); rintro e' w6 ⟨rfl, hb⟩))
          go_ret
          exact ⟨by first | rfl | (simp; done), below_step HB0.out (below_step HB.out hb)⟩
      · have ei : i = c.secs.length := by omega
        have hx0 : badAt secOk c.secs 0 = -1 := by
          rw [← hx, ei]; simp [badAt]
        have hne : (n, e) = (0, 0) := by have := HR.out; rw [hx0, if_neg (by omega)] at this; exact this
        have hn1 : n = 0 := (Prod.mk.inj hne).1
        have he1 : e = 0 := (Prod.mk.inj hne).2
        subst hn1
        subst he1
        have c1d : decide (i < (c.secs.length : Int)) = false := decide_eq_false hi
        clear hx ei hi i0 i1 ik hx0 HI hne
        go_wp2
        go_ret
        exact ⟨by first | rfl | (simp; done), below_step HB0.out HB.out⟩

theorem alone_law (c : Crt) (cs : Array Value) (A B : Option Addr) (a b : Nat) (w : World) (h : CrtVal w c cs A a B b) (hh : Short c) (hcs : cs = (c.dig.map (Value.int .u8) ++ [Value.slice A c.secs.length a, Value.slice B c.justs.length b]).toArray) (hd : c.dig.length = 32) :
    Calls Try.prog 4 #[.agg cs] w fun e w' => e = .returned (.bool true) ∧ Below w.heap.size w w' := by
  rw [lit_cells c.dig hd] at hcs
  subst hcs
  cases hf : fewOk c with
  | false => exact alone_many c (fun i => c.dig.getD i 0) A B a b w h hh hf
  | true =>
    by_cases h0 : c.secs.length = 0 ∨ 16 < c.secs.length
    · exact alone_out c (fun i => c.dig.getD i 0) A B a b w h hh hf h0
    · exact alone_main c (fun i => c.dig.getD i 0) A B a b w h hh hf (by omega) (by omega) _ _ rfl
end Go.Proofs.Ytbemdnjcnmponaa.Laws2
