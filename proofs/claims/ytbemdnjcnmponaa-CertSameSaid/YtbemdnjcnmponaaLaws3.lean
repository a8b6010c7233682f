/- Whether any certificates are alike is the reference's, and a copy is alike (CertSame): the walk of the law; for every two certificates. -/
import Derived.Test.YtbemdnjcnmponaaRefSame
import Derived.Test.YtbemdnjcnmponaaLaws2
namespace Go.Proofs.Ytbemdnjcnmponaa.Laws3
open Go.RowKit Go.Proofs.YtbemdnjcnmponaaW.PrintWords Go.Proofs.YtbemdnjcnmponaaW.PrintLast Go.Proofs.YtbemdnjcnmponaaW.PrintMore Go.Proofs.Ytbemdnjcnmponaa.PCertSame Go.Proofs.Ytbemdnjcnmponaa.Data Go.Proofs.Ytbemdnjcnmponaa.Plain Go.Proofs.Ytbemdnjcnmponaa.Check Go.Proofs.Ytbemdnjcnmponaa.Awake Go.Proofs.Ytbemdnjcnmponaa.Laws1 Go.Proofs.Ytbemdnjcnmponaa.Lit Go.Proofs.Ytbemdnjcnmponaa.SameP Go.Proofs.Ytbemdnjcnmponaa.Same Go.Proofs.Ytbemdnjcnmponaa.Copy Go.Proofs.Ytbemdnjcnmponaa.RefSame
set_option linter.unusedVariables false
set_option linter.unusedSimpArgs false
def cs.T3 : Bool × List (List Nat × List Nat) := (true, [([], []), ([], []), ([0, 1], [0, 1]), ([], []), ([], []), ([3, 4, 2], [3, 4]), ([2, 5], [2, 5]), ([6, 5], [6]), ([7], [7]), ([7], [7]), ([8, 9, 7, 7], [7, 8, 9]), ([7, 10], [7, 10]), ([11, 10], [11]), ([12], [12]), ([12], [12]), ([13, 14, 12, 12], [12, 13, 14]), ([12], [12]), ([12], [12]), ([16, 17, 15, 12], [12, 16, 17]), ([15, 18, 12], [12, 15, 18]), ([12, 19], [12, 19]), ([20, 18], [20]), ([21], [21]), ([22, 21, 21], [21, 22]), ([21], [21]), ([23, 24, 23, 21], [21, 23, 24]), ([21, 25], [21, 25]), ([26, 25, 0, 1, 2, 3, 4, 5, 6, 7, 8, 9, 10, 11, 12, 13, 14, 15, 16, 17, 18, 19, 20, 21, 22, 23, 24, 25, 26], [26])])
def cs.B3 : List Nat := [0, 0, 3, 0, 0, 31, 63, 127, 255, 255, 1023, 2047, 4095, 8191, 8191, 32767, 8191, 8191, 262143, 524287, 1048575, 2097151, 4194303, 8388607, 4194303, 33554431, 67108863, 134217727]
theorem cs.tab3 : rtab .any (opsOf Try.f6 3) = cs.T3 := by kernel_rfl
theorem cs.bits3 : waitsOk cs.T3.2 cs.B3 = true := by kernel_rfl

theorem few_parts {c : Crt} (h : fewOk c = true) : c.secs.length ≤ 40 ∧ c.justs.length ≤ 40 ∧ SmallS c.secs := by
  unfold fewOk at h
  simp only [Bool.and_eq_true, decide_eq_true_eq, List.all_eq_true] at h
  exact ⟨h.1.1, h.1.2, fun s hs => h.2 s hs⟩
noncomputable def alikeB (c c' : Crt) (dg dg' : Nat → Int) : Bool := eqB (dl dg) (dl dg') && eqB c.secs c'.secs && eqB c.justs c'.justs
theorem eqB_comm {α : Type} (x y : α) : eqB x y = eqB y x := eqB_congr ⟨Eq.symm, Eq.symm⟩
theorem alikeB_comm (c c' : Crt) (dg dg' : Nat → Int) : alikeB c c' dg dg' = alikeB c' c dg' dg := by
  unfold alikeB; rw [eqB_comm (dl dg), eqB_comm c.secs, eqB_comm c.justs]
theorem alikeB_self (c : Crt) (dg : Nat → Int) : alikeB c c dg dg = true := by
  unfold alikeB; rw [eqB_self, eqB_self, eqB_self]; rfl

theorem same_is (c c' : Crt) (dg dg' : Nat → Int) (A B A' B' : Option Addr) (a b a' b' : Nat) (r : Bool) (w : World) (h : CrtVal w c (litC dg (.slice A c.secs.length a) (.slice B c.justs.length b)) A a B b) (h' : CrtVal w c' (litC dg' (.slice A' c'.secs.length a') (.slice B' c'.justs.length b')) A' a' B' b') (hf : fewOk c = true) (hy : Byt dg) (hy' : Byt dg') (hr : alikeB c c' dg dg' = r) :
    Calls Try.prog 14 #[.agg (litC dg (.slice A c.secs.length a) (.slice B c.justs.length b)), .agg (litC dg' (.slice A' c'.secs.length a') (.slice B' c'.justs.length b'))] w fun e w' => e = .returned (.bool r) ∧ Below w.heap.size w w' := by
  rw [← hr]
  exact same_any c c' dg dg' A B A' B' a b a' b' w h h' (few_parts hf).1 (few_parts hf).2.1 (few_parts hf).2.2 hy hy'
theorem rsame_is (c c' : Crt) (dg dg' : Nat → Int) (A B A' B' : Option Addr) (a b a' b' : Nat) (r : Bool) (w : World) (h : CrtVal w c (litC dg (.slice A c.secs.length a) (.slice B c.justs.length b)) A a B b) (h' : CrtVal w c' (litC dg' (.slice A' c'.secs.length a') (.slice B' c'.justs.length b')) A' a' B' b') (hf : fewOk c = true) (hy : Byt dg) (hy' : Byt dg') (hr : alikeB c c' dg dg' = r) :
    Calls Try.prog 13 #[.agg (litC dg (.slice A c.secs.length a) (.slice B c.justs.length b)), .agg (litC dg' (.slice A' c'.secs.length a') (.slice B' c'.justs.length b'))] w fun e w' => e = .returned (.bool r) ∧ Below w.heap.size w w' := by
  rw [← hr]
  exact rsame_any c c' dg dg' A B A' B' a b a' b' w h h' (few_parts hf).1 (few_parts hf).2.1 (few_parts hf).2.2 hy hy'
/-- cert.Copy, its result as a call has it -/
theorem copy_is (c : Crt) (dg : Nat → Int) (A B : Option Addr) (a b : Nat) (w : World) (h : CrtVal w c (litC dg (.slice A c.secs.length a) (.slice B c.justs.length b)) A a B b) (hf : fewOk c = true) :
    Calls Try.prog 12 #[.agg (litC dg (.slice A c.secs.length a) (.slice B c.justs.length b))] w fun e w' => ∃ AS cS AJ cJ, e = .returned (.agg (litC dg (.slice AS c.secs.length cS) (.slice AJ c.justs.length cJ))) ∧ CrtVal w' c (litC dg (.slice AS c.secs.length cS) (.slice AJ c.justs.length cJ)) AS cS AJ cJ ∧
      Kd.R kSec 38 w' w.heap.size (fun _ => True) (.slice AS c.secs.length cS) c.secs ∧ Kd.R k40 40 w' w.heap.size (fun _ => True) (.slice AJ c.justs.length cJ) c.justs ∧ Below w.heap.size w w' := by
  refine (copy_any c dg A B a b w h (few_parts hf).1 (few_parts hf).2.1 (few_parts hf).2.2).mono ?_
  rintro e w' ⟨S, J, rfl, hS, hJ, hb⟩
  obtain ⟨AS, cS, rfl, l1, r1⟩ := Kd.R_reads hS
  obtain ⟨AJ, cJ, rfl, l2, r2⟩ := Kd.R_reads hJ
  exact ⟨AS, cS, AJ, cJ, rfl, ⟨rfl, rfl, rfl, l1, l2, r1, r2⟩, hS, hJ, hb⟩

set_option maxHeartbeats 4000000 in
set_option maxRecDepth 100000 in
theorem csame_a (c c' : Crt) (dg dg' : Nat → Int) (A B A' B' : Option Addr) (a b a' b' : Nat) (w : World) (h : CrtVal w c (litC dg (.slice A c.secs.length a) (.slice B c.justs.length b)) A a B b) (h' : CrtVal w c' (litC dg' (.slice A' c'.secs.length a') (.slice B' c'.justs.length b')) A' a' B' b') (hh : Short c) (hh' : Short c') (hf : fewOk c = false) :
    Calls Try.prog 6 #[.agg #[.int .u8 (dg 0), .int .u8 (dg 1), .int .u8 (dg 2), .int .u8 (dg 3), .int .u8 (dg 4), .int .u8 (dg 5), .int .u8 (dg 6), .int .u8 (dg 7), .int .u8 (dg 8), .int .u8 (dg 9), .int .u8 (dg 10), .int .u8 (dg 11), .int .u8 (dg 12), .int .u8 (dg 13), .int .u8 (dg 14), .int .u8 (dg 15), .int .u8 (dg 16), .int .u8 (dg 17), .int .u8 (dg 18), .int .u8 (dg 19), .int .u8 (dg 20), .int .u8 (dg 21), .int .u8 (dg 22), .int .u8 (dg 23), .int .u8 (dg 24), .int .u8 (dg 25), .int .u8 (dg 26), .int .u8 (dg 27), .int .u8 (dg 28), .int .u8 (dg 29), .int .u8 (dg 30), .int .u8 (dg 31), .slice A c.secs.length a, .slice B c.justs.length b], .agg #[.int .u8 (dg' 0), .int .u8 (dg' 1), .int .u8 (dg' 2), .int .u8 (dg' 3), .int .u8 (dg' 4), .int .u8 (dg' 5), .int .u8 (dg' 6), .int .u8 (dg' 7), .int .u8 (dg' 8), .int .u8 (dg' 9), .int .u8 (dg' 10), .int .u8 (dg' 11), .int .u8 (dg' 12), .int .u8 (dg' 13), .int .u8 (dg' 14), .int .u8 (dg' 15), .int .u8 (dg' 16), .int .u8 (dg' 17), .int .u8 (dg' 18), .int .u8 (dg' 19), .int .u8 (dg' 20), .int .u8 (dg' 21), .int .u8 (dg' 22), .int .u8 (dg' 23), .int .u8 (dg' 24), .int .u8 (dg' 25), .int .u8 (dg' 26), .int .u8 (dg' 27), .int .u8 (dg' 28), .int .u8 (dg' 29), .int .u8 (dg' 30), .int .u8 (dg' 31), .slice A' c'.secs.length a', .slice B' c'.justs.length b']] w fun e w' => e = .returned (.bool true) ∧ Below w.heap.size w w' := by
  have HF := Aside0.mk hf
  clear hf
  have HV := Aside0.mk h
  have HV' := Aside0.mk h'
  have HH := Aside0.mk hh
  have HH' := Aside0.mk hh'
  have HW2 := Aside0.mk (below_alloc (below_alloc (Below.refl w.heap.size w) (.cells (litC dg (.slice A c.secs.length a) (.slice B c.justs.length b)) 26)) (.cells (litC dg' (.slice A' c'.secs.length a') (.slice B' c'.justs.length b')) 26))
  have HB := Aside0.mk (Below.refl ((w.alloc (.cells (litC dg (.slice A c.secs.length a) (.slice B c.justs.length b)) 26)).alloc (.cells (litC dg' (.slice A' c'.secs.length a') (.slice B' c'.justs.length b')) 26)).heap.size ((w.alloc (.cells (litC dg (.slice A c.secs.length a) (.slice B c.justs.length b)) 26)).alloc (.cells (litC dg' (.slice A' c'.secs.length a') (.slice B' c'.justs.length b')) 26)))
  have hbox : ∀ w', Below ((w.alloc (.cells (litC dg (.slice A c.secs.length a) (.slice B c.justs.length b)) 26)).alloc (.cells (litC dg' (.slice A' c'.secs.length a') (.slice B' c'.justs.length b')) 26)).heap.size ((w.alloc (.cells (litC dg (.slice A c.secs.length a) (.slice B c.justs.length b)) 26)).alloc (.cells (litC dg' (.slice A' c'.secs.length a') (.slice B' c'.justs.length b')) 26)) w' → w'.heap[w.heap.size]? = some (.cells (litC dg (.slice A c.secs.length a) (.slice B c.justs.length b)) 26) := fun w' hb => by
    rw [hb.block w.heap.size (by simp; omega), heap_alloc2_old]
  have hbox' : ∀ w', Below ((w.alloc (.cells (litC dg (.slice A c.secs.length a) (.slice B c.justs.length b)) 26)).alloc (.cells (litC dg' (.slice A' c'.secs.length a') (.slice B' c'.justs.length b')) 26)).heap.size ((w.alloc (.cells (litC dg (.slice A c.secs.length a) (.slice B c.justs.length b)) 26)).alloc (.cells (litC dg' (.slice A' c'.secs.length a') (.slice B' c'.justs.length b')) 26)) w' → w'.heap[w.heap.size + 1]? = some (.cells (litC dg' (.slice A' c'.secs.length a') (.slice B' c'.justs.length b')) 26) := fun w' hb => by
    rw [hb.block (w.heap.size + 1) (by simp), heap_alloc2_new]
  have HX := Aside0.mk hbox
  have HX' := Aside0.mk hbox'
  have HZ := Aside0.mk (size26 (cs := (litC dg (.slice A c.secs.length a) (.slice B c.justs.length b))) rfl)
  have HZ' := Aside0.mk (size26 (cs := (litC dg' (.slice A' c'.secs.length a') (.slice B' c'.justs.length b'))) rfl)
  clear hbox hbox' h h' hh hh'
  go_enter Try.func6, Try.ntmps6
  go_wp2_with (first | ((with_reducible refine gate_callee (f := 8) rfl ?_); refine goesL_ (some 5) rfl rfl Try.func8 (by kernel_rfl) rfl #[] rfl (by (try simp only [List.map_toArray, List.map_cons, List.map_nil]); first | done | rfl) ?_; (with_reducible refine (awake_any _).mono ?_); rintro e w1 ⟨rfl, hb⟩; refine ⟨_, rfl, ?_⟩; have n_ := Aside0.mk (below_step HB.out hb); clear HB; have HB := n_; clear n_ hb) | ((with_reducible refine gate_dst (N := 8) rfl ?_); refine gate_guard (by rfl) ?_; refine wpList_load_row rfl 26 (.tmp 2) rfl w.heap.size rfl 26 (litC dg (.slice A c.secs.length a) (.slice B c.justs.length b)) (0, 0) _ (HX.out _ HB.out) Try.underlying26 rfl HZ.out ?_) | (go_at_call 9; (with_reducible refine (few_is c _ A B a b false _ (HV.out.below (below_step HW2.out HB.out)) HH.out HF.out).mono ?_); rintro e w2 ⟨rfl, hb⟩; have n_ := Aside0.mk (below_step HB.out hb); clear HB; have HB := n_; clear n_ hb) | (go_at_call 8; (with_reducible refine (awake_any _).mono ?_); rintro e w5 ⟨rfl, hb⟩; have n_ := Aside0.mk (below_step HB.out hb); clear HB; have HB := n_; clear n_ hb))
  go_ret
  exact ⟨by first | rfl | (simp; done), below_step HW2.out HB.out⟩

set_option maxHeartbeats 4000000 in
set_option maxRecDepth 100000 in
theorem csame_b (c c' : Crt) (dg dg' : Nat → Int) (A B A' B' : Option Addr) (a b a' b' : Nat) (w : World) (h : CrtVal w c (litC dg (.slice A c.secs.length a) (.slice B c.justs.length b)) A a B b) (h' : CrtVal w c' (litC dg' (.slice A' c'.secs.length a') (.slice B' c'.justs.length b')) A' a' B' b') (hh : Short c) (hh' : Short c') (hf : fewOk c = true) (hf' : fewOk c' = false) :
    Calls Try.prog 6 #[.agg #[.int .u8 (dg 0), .int .u8 (dg 1), .int .u8 (dg 2), .int .u8 (dg 3), .int .u8 (dg 4), .int .u8 (dg 5), .int .u8 (dg 6), .int .u8 (dg 7), .int .u8 (dg 8), .int .u8 (dg 9), .int .u8 (dg 10), .int .u8 (dg 11), .int .u8 (dg 12), .int .u8 (dg 13), .int .u8 (dg 14), .int .u8 (dg 15), .int .u8 (dg 16), .int .u8 (dg 17), .int .u8 (dg 18), .int .u8 (dg 19), .int .u8 (dg 20), .int .u8 (dg 21), .int .u8 (dg 22), .int .u8 (dg 23), .int .u8 (dg 24), .int .u8 (dg 25), .int .u8 (dg 26), .int .u8 (dg 27), .int .u8 (dg 28), .int .u8 (dg 29), .int .u8 (dg 30), .int .u8 (dg 31), .slice A c.secs.length a, .slice B c.justs.length b], .agg #[.int .u8 (dg' 0), .int .u8 (dg' 1), .int .u8 (dg' 2), .int .u8 (dg' 3), .int .u8 (dg' 4), .int .u8 (dg' 5), .int .u8 (dg' 6), .int .u8 (dg' 7), .int .u8 (dg' 8), .int .u8 (dg' 9), .int .u8 (dg' 10), .int .u8 (dg' 11), .int .u8 (dg' 12), .int .u8 (dg' 13), .int .u8 (dg' 14), .int .u8 (dg' 15), .int .u8 (dg' 16), .int .u8 (dg' 17), .int .u8 (dg' 18), .int .u8 (dg' 19), .int .u8 (dg' 20), .int .u8 (dg' 21), .int .u8 (dg' 22), .int .u8 (dg' 23), .int .u8 (dg' 24), .int .u8 (dg' 25), .int .u8 (dg' 26), .int .u8 (dg' 27), .int .u8 (dg' 28), .int .u8 (dg' 29), .int .u8 (dg' 30), .int .u8 (dg' 31), .slice A' c'.secs.length a', .slice B' c'.justs.length b']] w fun e w' => e = .returned (.bool true) ∧ Below w.heap.size w w' := by
  have HF := Aside0.mk hf
  have HF' := Aside0.mk hf'
  clear hf hf'
  have HV := Aside0.mk h
  have HV' := Aside0.mk h'
  have HH := Aside0.mk hh
  have HH' := Aside0.mk hh'
  have HW2 := Aside0.mk (below_alloc (below_alloc (Below.refl w.heap.size w) (.cells (litC dg (.slice A c.secs.length a) (.slice B c.justs.length b)) 26)) (.cells (litC dg' (.slice A' c'.secs.length a') (.slice B' c'.justs.length b')) 26))
  have HB := Aside0.mk (Below.refl ((w.alloc (.cells (litC dg (.slice A c.secs.length a) (.slice B c.justs.length b)) 26)).alloc (.cells (litC dg' (.slice A' c'.secs.length a') (.slice B' c'.justs.length b')) 26)).heap.size ((w.alloc (.cells (litC dg (.slice A c.secs.length a) (.slice B c.justs.length b)) 26)).alloc (.cells (litC dg' (.slice A' c'.secs.length a') (.slice B' c'.justs.length b')) 26)))
  have hbox : ∀ w', Below ((w.alloc (.cells (litC dg (.slice A c.secs.length a) (.slice B c.justs.length b)) 26)).alloc (.cells (litC dg' (.slice A' c'.secs.length a') (.slice B' c'.justs.length b')) 26)).heap.size ((w.alloc (.cells (litC dg (.slice A c.secs.length a) (.slice B c.justs.length b)) 26)).alloc (.cells (litC dg' (.slice A' c'.secs.length a') (.slice B' c'.justs.length b')) 26)) w' → w'.heap[w.heap.size]? = some (.cells (litC dg (.slice A c.secs.length a) (.slice B c.justs.length b)) 26) := fun w' hb => by
    rw [hb.block w.heap.size (by simp; omega), heap_alloc2_old]
  have hbox' : ∀ w', Below ((w.alloc (.cells (litC dg (.slice A c.secs.length a) (.slice B c.justs.length b)) 26)).alloc (.cells (litC dg' (.slice A' c'.secs.length a') (.slice B' c'.justs.length b')) 26)).heap.size ((w.alloc (.cells (litC dg (.slice A c.secs.length a) (.slice B c.justs.length b)) 26)).alloc (.cells (litC dg' (.slice A' c'.secs.length a') (.slice B' c'.justs.length b')) 26)) w' → w'.heap[w.heap.size + 1]? = some (.cells (litC dg' (.slice A' c'.secs.length a') (.slice B' c'.justs.length b')) 26) := fun w' hb => by
    rw [hb.block (w.heap.size + 1) (by simp), heap_alloc2_new]
  have HX := Aside0.mk hbox
  have HX' := Aside0.mk hbox'
  have HZ := Aside0.mk (size26 (cs := (litC dg (.slice A c.secs.length a) (.slice B c.justs.length b))) rfl)
  have HZ' := Aside0.mk (size26 (cs := (litC dg' (.slice A' c'.secs.length a') (.slice B' c'.justs.length b'))) rfl)
  clear hbox hbox' h h' hh hh'
  go_enter Try.func6, Try.ntmps6
  go_wp2_with (first | ((with_reducible refine gate_callee (f := 8) rfl ?_); refine goesL_ (some 5) rfl rfl Try.func8 (by kernel_rfl) rfl #[] rfl (by (try simp only [List.map_toArray, List.map_cons, List.map_nil]); first | done | rfl) ?_; (with_reducible refine (awake_any _).mono ?_); rintro e w1 ⟨rfl, hb⟩; refine ⟨_, rfl, ?_⟩; have n_ := Aside0.mk (below_step HB.out hb); clear HB; have HB := n_; clear n_ hb) | ((with_reducible refine gate_dst (N := 8) rfl ?_); refine gate_guard (by rfl) ?_; refine wpList_load_row rfl 26 (.tmp 2) rfl w.heap.size rfl 26 (litC dg (.slice A c.secs.length a) (.slice B c.justs.length b)) (0, 0) _ (HX.out _ HB.out) Try.underlying26 rfl HZ.out ?_) | (go_at_call 9; (with_reducible refine (few_is c _ A B a b true _ (HV.out.below (below_step HW2.out HB.out)) HH.out HF.out).mono ?_); rintro e w2 ⟨rfl, hb⟩; have n_ := Aside0.mk (below_step HB.out hb); clear HB; have HB := n_; clear n_ hb) | ((with_reducible refine gate_dst (N := 13) rfl ?_); refine gate_guard (by rfl) ?_; refine wpList_load_row rfl 26 (.tmp 3) rfl (w.heap.size + 1) rfl 26 (litC dg' (.slice A' c'.secs.length a') (.slice B' c'.justs.length b')) (0, 0) _ (HX'.out _ HB.out) Try.underlying26 rfl HZ'.out ?_) | (go_at_call 9; (with_reducible refine (few_is c' _ A' B' a' b' false _ (HV'.out.below (below_step HW2.out HB.out)) HH'.out HF'.out).mono ?_); rintro e w3 ⟨rfl, hb⟩; have n_ := Aside0.mk (below_step HB.out hb); clear HB; have HB := n_; clear n_ hb) | (go_at_call 8; (with_reducible refine (awake_any _).mono ?_); rintro e w5 ⟨rfl, hb⟩; have n_ := Aside0.mk (below_step HB.out hb); clear HB; have HB := n_; clear n_ hb))
  go_ret
  exact ⟨by first | rfl | (simp; done), below_step HW2.out HB.out⟩

set_option maxHeartbeats 8000000 in
set_option maxRecDepth 100000 in
theorem csame_true (c c' : Crt) (dg dg' : Nat → Int) (A B A' B' : Option Addr) (a b a' b' : Nat) (w : World) (h : CrtVal w c (litC dg (.slice A c.secs.length a) (.slice B c.justs.length b)) A a B b) (h' : CrtVal w c' (litC dg' (.slice A' c'.secs.length a') (.slice B' c'.justs.length b')) A' a' B' b') (hh : Short c) (hh' : Short c') (hf : fewOk c = true) (hf' : fewOk c' = true) (hy : Byt dg) (hy' : Byt dg') (hr : alikeB c c' dg dg' = true) :
    Calls Try.prog 6 #[.agg #[.int .u8 (dg 0), .int .u8 (dg 1), .int .u8 (dg 2), .int .u8 (dg 3), .int .u8 (dg 4), .int .u8 (dg 5), .int .u8 (dg 6), .int .u8 (dg 7), .int .u8 (dg 8), .int .u8 (dg 9), .int .u8 (dg 10), .int .u8 (dg 11), .int .u8 (dg 12), .int .u8 (dg 13), .int .u8 (dg 14), .int .u8 (dg 15), .int .u8 (dg 16), .int .u8 (dg 17), .int .u8 (dg 18), .int .u8 (dg 19), .int .u8 (dg 20), .int .u8 (dg 21), .int .u8 (dg 22), .int .u8 (dg 23), .int .u8 (dg 24), .int .u8 (dg 25), .int .u8 (dg 26), .int .u8 (dg 27), .int .u8 (dg 28), .int .u8 (dg 29), .int .u8 (dg 30), .int .u8 (dg 31), .slice A c.secs.length a, .slice B c.justs.length b], .agg #[.int .u8 (dg' 0), .int .u8 (dg' 1), .int .u8 (dg' 2), .int .u8 (dg' 3), .int .u8 (dg' 4), .int .u8 (dg' 5), .int .u8 (dg' 6), .int .u8 (dg' 7), .int .u8 (dg' 8), .int .u8 (dg' 9), .int .u8 (dg' 10), .int .u8 (dg' 11), .int .u8 (dg' 12), .int .u8 (dg' 13), .int .u8 (dg' 14), .int .u8 (dg' 15), .int .u8 (dg' 16), .int .u8 (dg' 17), .int .u8 (dg' 18), .int .u8 (dg' 19), .int .u8 (dg' 20), .int .u8 (dg' 21), .int .u8 (dg' 22), .int .u8 (dg' 23), .int .u8 (dg' 24), .int .u8 (dg' 25), .int .u8 (dg' 26), .int .u8 (dg' 27), .int .u8 (dg' 28), .int .u8 (dg' 29), .int .u8 (dg' 30), .int .u8 (dg' 31), .slice A' c'.secs.length a', .slice B' c'.justs.length b']] w fun e w' => e = .returned (.bool true) ∧ Below w.heap.size w w' := by
  have HF := Aside0.mk hf
  have HF' := Aside0.mk hf'
  have HY := Aside0.mk hy
  have HY' := Aside0.mk hy'
  have HR := Aside0.mk hr
  have HR' := Aside0.mk ((alikeB_comm c' c dg' dg).trans hr)
  clear hf hf' hy hy' hr
  have HV := Aside0.mk h
  have HV' := Aside0.mk h'
  have HH := Aside0.mk hh
  have HH' := Aside0.mk hh'
  have HW2 := Aside0.mk (below_alloc (below_alloc (Below.refl w.heap.size w) (.cells (litC dg (.slice A c.secs.length a) (.slice B c.justs.length b)) 26)) (.cells (litC dg' (.slice A' c'.secs.length a') (.slice B' c'.justs.length b')) 26))
  have HB := Aside0.mk (Below.refl ((w.alloc (.cells (litC dg (.slice A c.secs.length a) (.slice B c.justs.length b)) 26)).alloc (.cells (litC dg' (.slice A' c'.secs.length a') (.slice B' c'.justs.length b')) 26)).heap.size ((w.alloc (.cells (litC dg (.slice A c.secs.length a) (.slice B c.justs.length b)) 26)).alloc (.cells (litC dg' (.slice A' c'.secs.length a') (.slice B' c'.justs.length b')) 26)))
  have hbox : ∀ w', Below ((w.alloc (.cells (litC dg (.slice A c.secs.length a) (.slice B c.justs.length b)) 26)).alloc (.cells (litC dg' (.slice A' c'.secs.length a') (.slice B' c'.justs.length b')) 26)).heap.size ((w.alloc (.cells (litC dg (.slice A c.secs.length a) (.slice B c.justs.length b)) 26)).alloc (.cells (litC dg' (.slice A' c'.secs.length a') (.slice B' c'.justs.length b')) 26)) w' → w'.heap[w.heap.size]? = some (.cells (litC dg (.slice A c.secs.length a) (.slice B c.justs.length b)) 26) := fun w' hb => by
    rw [hb.block w.heap.size (by simp; omega), heap_alloc2_old]
  have hbox' : ∀ w', Below ((w.alloc (.cells (litC dg (.slice A c.secs.length a) (.slice B c.justs.length b)) 26)).alloc (.cells (litC dg' (.slice A' c'.secs.length a') (.slice B' c'.justs.length b')) 26)).heap.size ((w.alloc (.cells (litC dg (.slice A c.secs.length a) (.slice B c.justs.length b)) 26)).alloc (.cells (litC dg' (.slice A' c'.secs.length a') (.slice B' c'.justs.length b')) 26)) w' → w'.heap[w.heap.size + 1]? = some (.cells (litC dg' (.slice A' c'.secs.length a') (.slice B' c'.justs.length b')) 26) := fun w' hb => by
    rw [hb.block (w.heap.size + 1) (by simp), heap_alloc2_new]
  have HX := Aside0.mk hbox
  have HX' := Aside0.mk hbox'
  have HZ := Aside0.mk (size26 (cs := (litC dg (.slice A c.secs.length a) (.slice B c.justs.length b))) rfl)
  have HZ' := Aside0.mk (size26 (cs := (litC dg' (.slice A' c'.secs.length a') (.slice B' c'.justs.length b'))) rfl)
  clear hbox hbox' h h' hh hh'
  go_enter Try.func6, Try.ntmps6
  go_wp2_with (first | ((with_reducible refine gate_callee (f := 8) rfl ?_); refine goesL_ (some 5) rfl rfl Try.func8 (by kernel_rfl) rfl #[] rfl (by (try simp only [List.map_toArray, List.map_cons, List.map_nil]); first | done | rfl) ?_; (with_reducible refine (awake_any _).mono ?_); rintro e w1 ⟨rfl, hb⟩; refine ⟨_, rfl, ?_⟩; have n_ := Aside0.mk (below_step HB.out hb); clear HB; have HB := n_; clear n_ hb) | ((with_reducible refine gate_dst (N := 8) rfl ?_); refine gate_guard (by rfl) ?_; refine wpList_load_row rfl 26 (.tmp 2) rfl w.heap.size rfl 26 (litC dg (.slice A c.secs.length a) (.slice B c.justs.length b)) (0, 0) _ (HX.out _ HB.out) Try.underlying26 rfl HZ.out ?_) | (go_at_call 9; (with_reducible refine (few_is c _ A B a b true _ (HV.out.below (below_step HW2.out HB.out)) HH.out HF.out).mono ?_); rintro e w2 ⟨rfl, hb⟩; have n_ := Aside0.mk (below_step HB.out hb); clear HB; have HB := n_; clear n_ hb) | ((with_reducible refine gate_dst (N := 13) rfl ?_); refine gate_guard (by rfl) ?_; refine wpList_load_row rfl 26 (.tmp 3) rfl (w.heap.size + 1) rfl 26 (litC dg' (.slice A' c'.secs.length a') (.slice B' c'.justs.length b')) (0, 0) _ (HX'.out _ HB.out) Try.underlying26 rfl HZ'.out ?_) | (go_at_call 9; (with_reducible refine (few_is c' _ A' B' a' b' true _ (HV'.out.below (below_step HW2.out HB.out)) HH'.out HF'.out).mono ?_); rintro e w3 ⟨rfl, hb⟩; have n_ := Aside0.mk (below_step HB.out hb); clear HB; have HB := n_; clear n_ hb))
  refine start_any (n := 28) (S := fun w' => Below ((w.alloc (.cells (litC dg (.slice A c.secs.length a) (.slice B c.justs.length b)) 26)).alloc (.cells (litC dg' (.slice A' c'.secs.length a') (.slice B' c'.justs.length b')) 26)).heap.size ((w.alloc (.cells (litC dg (.slice A c.secs.length a) (.slice B c.justs.length b)) 26)).alloc (.cells (litC dg' (.slice A' c'.secs.length a') (.slice B' c'.justs.length b')) 26)) w') (ds := []) #[false, false, false, false, false, false, false, false, false, false, false, false, false, false, false, false, false, false, false, false, false, false, false, false, false, false, false, false] (by kernel_rfl) rfl rfl (below_drew1 HB.out) (fun wd hHeld => ?_); refine with_tabW cs.tab3 cs.bits3 (fun HT_ HW_ => ?_)
  clear HB
  have HB := Aside0.mk hHeld
  refine take_ (i := 0) (N := some 18) (v := ?_) (a' := ?_) #[true, false, false, false, false, false, false, false, false, false, false, false, false, false, false, false, false, false, false, false, false, false, false, false, false, false, false, false] rfl rfl (take_ofW HT_.out HW_.out (by kernel_rfl)) (fun _ _ _ h => h) (Or.inl ⟨by rfl, ?_⟩) hHeld ?_ ?_
  rotate_left
  · intro w' hw'
    refine Eq.trans (exec_load 26 (.tmp 2) rfl w.heap.size 0 rfl _ (run_loadVar_row w' w.heap.size 26 26 (litC dg (.slice A c.secs.length a) (.slice B c.justs.length b)) (0, 0) _ (HX.out w' hw') Try.underlying26 rfl HZ.out)) ?_
    with_reducible rfl
  rotate_left
  · simp only [Act.put, List.setIfInBounds_toArray, List.set_cons_zero, List.set_cons_succ, i64_w, i32_w]
    rfl
  refine take_ (i := 1) (N := some 19) (v := ?_) (a' := ?_) #[true, true, false, false, false, false, false, false, false, false, false, false, false, false, false, false, false, false, false, false, false, false, false, false, false, false, false, false] rfl rfl (take_ofW HT_.out HW_.out (by kernel_rfl)) (fun _ _ _ h => h) (Or.inl ⟨by rfl, ?_⟩) hHeld ?_ ?_
  rotate_left
  · intro w' hw'
    refine Eq.trans (exec_load 26 (.tmp 3) rfl (w.heap.size + 1) 0 rfl _ (run_loadVar_row w' (w.heap.size + 1) 26 26 (litC dg' (.slice A' c'.secs.length a') (.slice B' c'.justs.length b')) (0, 0) _ (HX'.out w' hw') Try.underlying26 rfl HZ'.out)) ?_
    with_reducible rfl
  rotate_left
  · simp only [Act.put, List.setIfInBounds_toArray, List.set_cons_zero, List.set_cons_succ, i64_w, i32_w]
    rfl
  refine take_ (i := 3) (N := some 21) (v := ?_) (a' := ?_) #[true, true, false, true, false, false, false, false, false, false, false, false, false, false, false, false, false, false, false, false, false, false, false, false, false, false, false, false] rfl rfl (take_ofW HT_.out HW_.out (by kernel_rfl)) (fun _ _ _ h => h) (Or.inl ⟨by rfl, ?_⟩) hHeld ?_ ?_
  rotate_left
  · intro w' hw'
    refine Eq.trans (exec_load 26 (.tmp 2) rfl w.heap.size 0 rfl _ (run_loadVar_row w' w.heap.size 26 26 (litC dg (.slice A c.secs.length a) (.slice B c.justs.length b)) (0, 0) _ (HX.out w' hw') Try.underlying26 rfl HZ.out)) ?_
    with_reducible rfl
  rotate_left
  · simp only [Act.put, List.setIfInBounds_toArray, List.set_cons_zero, List.set_cons_succ, i64_w, i32_w]
    rfl
  refine take_ (i := 4) (N := some 22) (v := ?_) (a' := ?_) #[true, true, false, true, true, false, false, false, false, false, false, false, false, false, false, false, false, false, false, false, false, false, false, false, false, false, false, false] rfl rfl (take_ofW HT_.out HW_.out (by kernel_rfl)) (fun _ _ _ h => h) (Or.inl ⟨by rfl, ?_⟩) hHeld ?_ ?_
  rotate_left
  · intro w' hw'
    refine Eq.trans (exec_load 26 (.tmp 3) rfl (w.heap.size + 1) 0 rfl _ (run_loadVar_row w' (w.heap.size + 1) 26 26 (litC dg' (.slice A' c'.secs.length a') (.slice B' c'.justs.length b')) (0, 0) _ (HX'.out w' hw') Try.underlying26 rfl HZ'.out)) ?_
    with_reducible rfl
  rotate_left
  · simp only [Act.put, List.setIfInBounds_toArray, List.set_cons_zero, List.set_cons_succ, i64_w, i32_w]
    rfl
  refine one_ (i := 2) (N := some 20) #[true, true, true, true, true, false, false, false, false, false, false, false, false, false, false, false, false, false, false, false, false, false, false, false, false, false, false, false] rfl rfl (one_of HT_.out (by kernel_rfl)) (by decide) (fun K hK => ?_)
  refine goes_ Try.func14 (by kernel_rfl) rfl #[.agg (litC dg (.slice A c.secs.length a) (.slice B c.justs.length b)), .agg (litC dg' (.slice A' c'.secs.length a') (.slice B' c'.justs.length b'))] (by rfl) rfl rfl (by (try simp only [List.map_toArray, List.map_cons, List.map_nil]); first | done | rfl) ?_
  with_reducible refine (same_is c c' dg dg' A B A' B' a b a' b' true _ (HV.out.below (below_step HW2.out HB.out)) (HV'.out.below (below_step HW2.out HB.out)) HF.out HY.out HY'.out HR.out).mono ?_
  rintro e x2 ⟨rfl, hb⟩
  refine ⟨_, rfl, ?_⟩
  have n_ := Aside0.mk (below_step HB.out hb)
  clear HB
  have HB := n_
  clear n_ hb
  refine hK.out _ _ HB.out (fun hHeld => ?_)
  clear hK K
  refine norm_ (a' := ?_) ?_ ?_
  rotate_left
  · show Act.put _ (some 20) _ = _
    simp only [Act.put, List.setIfInBounds_toArray, List.set_cons_zero, List.set_cons_succ, i64_w, i32_w]
    rfl
  refine one_ (i := 5) (N := some 23) #[true, true, true, true, true, true, false, false, false, false, false, false, false, false, false, false, false, false, false, false, false, false, false, false, false, false, false, false] rfl rfl (one_of HT_.out (by kernel_rfl)) (by decide) (fun K hK => ?_)
  refine goes_ Try.func13 (by kernel_rfl) rfl #[.agg (litC dg (.slice A c.secs.length a) (.slice B c.justs.length b)), .agg (litC dg' (.slice A' c'.secs.length a') (.slice B' c'.justs.length b'))] (by rfl) rfl rfl (by (try simp only [List.map_toArray, List.map_cons, List.map_nil]); first | done | rfl) ?_
  with_reducible refine (rsame_is c c' dg dg' A B A' B' a b a' b' true _ (HV.out.below (below_step HW2.out HB.out)) (HV'.out.below (below_step HW2.out HB.out)) HF.out HY.out HY'.out HR.out).mono ?_
  rintro e x5 ⟨rfl, hb⟩
  refine ⟨_, rfl, ?_⟩
  have n_ := Aside0.mk (below_step HB.out hb)
  clear HB
  have HB := n_
  clear n_ hb
  refine hK.out _ _ HB.out (fun hHeld => ?_)
  clear hK K
  refine norm_ (a' := ?_) ?_ ?_
  rotate_left
  · show Act.put _ (some 23) _ = _
    simp only [Act.put, List.setIfInBounds_toArray, List.set_cons_zero, List.set_cons_succ, i64_w, i32_w]
    rfl
  refine pure_ (i := 6) (N := some 24) (v := ?_) (a' := ?_) #[true, true, true, true, true, true, true, false, false, false, false, false, false, false, false, false, false, false, false, false, false, false, false, false, false, false, false, false] rfl rfl (any_of HT_.out (by kernel_rfl)) (fun _ _ _ h => h) (Or.inl ⟨by rfl, ?_⟩) ?_ ?_
  rotate_left
  · intro w'
    go_simp
    with_reducible rfl
  rotate_left
  · simp only [Act.put, List.setIfInBounds_toArray, List.set_cons_zero, List.set_cons_succ, i64_w, i32_w]
    rfl
  refine pure_ (i := 7) (N := some 25) (v := ?_) (a' := ?_) #[true, true, true, true, true, true, true, true, false, false, false, false, false, false, false, false, false, false, false, false, false, false, false, false, false, false, false, false] rfl rfl (any_of HT_.out (by kernel_rfl)) (fun _ _ _ h => h) (Or.inl ⟨by rfl, ?_⟩) ?_ ?_
  rotate_left
  · intro w'
    go_simp
    with_reducible rfl
  rotate_left
  · simp only [Act.put, List.setIfInBounds_toArray, List.set_cons_zero, List.set_cons_succ, i64_w, i32_w]
    rfl
  refine take_ (i := 8) (N := some 26) (v := ?_) (a' := ?_) #[true, true, true, true, true, true, true, true, true, false, false, false, false, false, false, false, false, false, false, false, false, false, false, false, false, false, false, false] rfl rfl (take_ofW HT_.out HW_.out (by kernel_rfl)) (fun _ _ _ h => h) (Or.inl ⟨by rfl, ?_⟩) hHeld ?_ ?_
  rotate_left
  · intro w' hw'
    refine Eq.trans (exec_load 26 (.tmp 2) rfl w.heap.size 0 rfl _ (run_loadVar_row w' w.heap.size 26 26 (litC dg (.slice A c.secs.length a) (.slice B c.justs.length b)) (0, 0) _ (HX.out w' hw') Try.underlying26 rfl HZ.out)) ?_
    with_reducible rfl
  rotate_left
  · simp only [Act.put, List.setIfInBounds_toArray, List.set_cons_zero, List.set_cons_succ, i64_w, i32_w]
    rfl
  refine take_ (i := 9) (N := some 27) (v := ?_) (a' := ?_) #[true, true, true, true, true, true, true, true, true, true, false, false, false, false, false, false, false, false, false, false, false, false, false, false, false, false, false, false] rfl rfl (take_ofW HT_.out HW_.out (by kernel_rfl)) (fun _ _ _ h => h) (Or.inl ⟨by rfl, ?_⟩) hHeld ?_ ?_
  rotate_left
  · intro w' hw'
    refine Eq.trans (exec_load 26 (.tmp 2) rfl w.heap.size 0 rfl _ (run_loadVar_row w' w.heap.size 26 26 (litC dg (.slice A c.secs.length a) (.slice B c.justs.length b)) (0, 0) _ (HX.out w' hw') Try.underlying26 rfl HZ.out)) ?_
    with_reducible rfl
  rotate_left
  · simp only [Act.put, List.setIfInBounds_toArray, List.set_cons_zero, List.set_cons_succ, i64_w, i32_w]
    rfl
  refine one_ (i := 10) (N := some 28) #[true, true, true, true, true, true, true, true, true, true, true, false, false, false, false, false, false, false, false, false, false, false, false, false, false, false, false, false] rfl rfl (one_of HT_.out (by kernel_rfl)) (by decide) (fun K hK => ?_)
  refine goes_ Try.func14 (by kernel_rfl) rfl #[.agg (litC dg (.slice A c.secs.length a) (.slice B c.justs.length b)), .agg (litC dg (.slice A c.secs.length a) (.slice B c.justs.length b))] (by rfl) rfl rfl (by (try simp only [List.map_toArray, List.map_cons, List.map_nil]); first | done | rfl) ?_
  with_reducible refine (same_is c c dg dg A B A B a b a b true _ (HV.out.below (below_step HW2.out HB.out)) (HV.out.below (below_step HW2.out HB.out)) HF.out HY.out HY.out (alikeB_self c dg)).mono ?_
  rintro e x10 ⟨rfl, hb⟩
  refine ⟨_, rfl, ?_⟩
  have n_ := Aside0.mk (below_step HB.out hb)
  clear HB
  have HB := n_
  clear n_ hb
  refine hK.out _ _ HB.out (fun hHeld => ?_)
  clear hK K
  refine norm_ (a' := ?_) ?_ ?_
  rotate_left
  · show Act.put _ (some 28) _ = _
    simp only [Act.put, List.setIfInBounds_toArray, List.set_cons_zero, List.set_cons_succ, i64_w, i32_w]
    rfl
  refine pure_ (i := 11) (N := some 29) (v := ?_) (a' := ?_) #[true, true, true, true, true, true, true, true, true, true, true, true, false, false, false, false, false, false, false, false, false, false, false, false, false, false, false, false] rfl rfl (any_of HT_.out (by kernel_rfl)) (fun _ _ _ h => h) (Or.inl ⟨by rfl, ?_⟩) ?_ ?_
  rotate_left
  · intro w'
    go_simp
    with_reducible rfl
  rotate_left
  · simp only [Act.put, List.setIfInBounds_toArray, List.set_cons_zero, List.set_cons_succ, i64_w, i32_w]
    rfl
  refine pure_ (i := 12) (N := some 30) (v := ?_) (a' := ?_) #[true, true, true, true, true, true, true, true, true, true, true, true, true, false, false, false, false, false, false, false, false, false, false, false, false, false, false, false] rfl rfl (any_of HT_.out (by kernel_rfl)) (fun _ _ _ h => h) (Or.inl ⟨by rfl, ?_⟩) ?_ ?_
  rotate_left
  · intro w'
    go_simp
    with_reducible rfl
  rotate_left
  · simp only [Act.put, List.setIfInBounds_toArray, List.set_cons_zero, List.set_cons_succ, i64_w, i32_w]
    rfl
  refine take_ (i := 13) (N := some 31) (v := ?_) (a' := ?_) #[true, true, true, true, true, true, true, true, true, true, true, true, true, true, false, false, false, false, false, false, false, false, false, false, false, false, false, false] rfl rfl (take_ofW HT_.out HW_.out (by kernel_rfl)) (fun _ _ _ h => h) (Or.inl ⟨by rfl, ?_⟩) hHeld ?_ ?_
  rotate_left
  · intro w' hw'
    refine Eq.trans (exec_load 26 (.tmp 3) rfl (w.heap.size + 1) 0 rfl _ (run_loadVar_row w' (w.heap.size + 1) 26 26 (litC dg' (.slice A' c'.secs.length a') (.slice B' c'.justs.length b')) (0, 0) _ (HX'.out w' hw') Try.underlying26 rfl HZ'.out)) ?_
    with_reducible rfl
  rotate_left
  · simp only [Act.put, List.setIfInBounds_toArray, List.set_cons_zero, List.set_cons_succ, i64_w, i32_w]
    rfl
  refine take_ (i := 14) (N := some 32) (v := ?_) (a' := ?_) #[true, true, true, true, true, true, true, true, true, true, true, true, true, true, true, false, false, false, false, false, false, false, false, false, false, false, false, false] rfl rfl (take_ofW HT_.out HW_.out (by kernel_rfl)) (fun _ _ _ h => h) (Or.inl ⟨by rfl, ?_⟩) hHeld ?_ ?_
  rotate_left
  · intro w' hw'
    refine Eq.trans (exec_load 26 (.tmp 2) rfl w.heap.size 0 rfl _ (run_loadVar_row w' w.heap.size 26 26 (litC dg (.slice A c.secs.length a) (.slice B c.justs.length b)) (0, 0) _ (HX.out w' hw') Try.underlying26 rfl HZ.out)) ?_
    with_reducible rfl
  rotate_left
  · simp only [Act.put, List.setIfInBounds_toArray, List.set_cons_zero, List.set_cons_succ, i64_w, i32_w]
    rfl
  refine take_ (i := 16) (N := some 34) (v := ?_) (a' := ?_) #[true, true, true, true, true, true, true, true, true, true, true, true, true, true, true, false, true, false, false, false, false, false, false, false, false, false, false, false] rfl rfl (take_ofW HT_.out HW_.out (by kernel_rfl)) (fun _ _ _ h => h) (Or.inl ⟨by rfl, ?_⟩) hHeld ?_ ?_
  rotate_left
  · intro w' hw'
    refine Eq.trans (exec_load 26 (.tmp 2) rfl w.heap.size 0 rfl _ (run_loadVar_row w' w.heap.size 26 26 (litC dg (.slice A c.secs.length a) (.slice B c.justs.length b)) (0, 0) _ (HX.out w' hw') Try.underlying26 rfl HZ.out)) ?_
    with_reducible rfl
  rotate_left
  · simp only [Act.put, List.setIfInBounds_toArray, List.set_cons_zero, List.set_cons_succ, i64_w, i32_w]
    rfl
  refine take_ (i := 17) (N := some 35) (v := ?_) (a' := ?_) #[true, true, true, true, true, true, true, true, true, true, true, true, true, true, true, false, true, true, false, false, false, false, false, false, false, false, false, false] rfl rfl (take_ofW HT_.out HW_.out (by kernel_rfl)) (fun _ _ _ h => h) (Or.inl ⟨by rfl, ?_⟩) hHeld ?_ ?_
  rotate_left
  · intro w' hw'
    refine Eq.trans (exec_load 26 (.tmp 3) rfl (w.heap.size + 1) 0 rfl _ (run_loadVar_row w' (w.heap.size + 1) 26 26 (litC dg' (.slice A' c'.secs.length a') (.slice B' c'.justs.length b')) (0, 0) _ (HX'.out w' hw') Try.underlying26 rfl HZ'.out)) ?_
    with_reducible rfl
  rotate_left
  · simp only [Act.put, List.setIfInBounds_toArray, List.set_cons_zero, List.set_cons_succ, i64_w, i32_w]
    rfl
  refine one_ (i := 15) (N := some 33) #[true, true, true, true, true, true, true, true, true, true, true, true, true, true, true, true, true, true, false, false, false, false, false, false, false, false, false, false] rfl rfl (one_of HT_.out (by kernel_rfl)) (by decide) (fun K hK => ?_)
  refine goes_ Try.func14 (by kernel_rfl) rfl #[.agg (litC dg' (.slice A' c'.secs.length a') (.slice B' c'.justs.length b')), .agg (litC dg (.slice A c.secs.length a) (.slice B c.justs.length b))] (by rfl) rfl rfl (by (try simp only [List.map_toArray, List.map_cons, List.map_nil]); first | done | rfl) ?_
  with_reducible refine (same_is c' c dg' dg A' B' A B a' b' a b true _ (HV'.out.below (below_step HW2.out HB.out)) (HV.out.below (below_step HW2.out HB.out)) HF'.out HY'.out HY.out HR'.out).mono ?_
  rintro e x15 ⟨rfl, hb⟩
  refine ⟨_, rfl, ?_⟩
  have n_ := Aside0.mk (below_step HB.out hb)
  clear HB
  have HB := n_
  clear n_ hb
  refine hK.out _ _ HB.out (fun hHeld => ?_)
  clear hK K
  refine norm_ (a' := ?_) ?_ ?_
  rotate_left
  · show Act.put _ (some 33) _ = _
    simp only [Act.put, List.setIfInBounds_toArray, List.set_cons_zero, List.set_cons_succ, i64_w, i32_w]
    rfl
  refine one_ (i := 18) (N := some 36) #[true, true, true, true, true, true, true, true, true, true, true, true, true, true, true, true, true, true, true, false, false, false, false, false, false, false, false, false] rfl rfl (one_of HT_.out (by kernel_rfl)) (by decide) (fun K hK => ?_)
  refine goes_ Try.func13 (by kernel_rfl) rfl #[.agg (litC dg (.slice A c.secs.length a) (.slice B c.justs.length b)), .agg (litC dg' (.slice A' c'.secs.length a') (.slice B' c'.justs.length b'))] (by rfl) rfl rfl (by (try simp only [List.map_toArray, List.map_cons, List.map_nil]); first | done | rfl) ?_
  with_reducible refine (rsame_is c c' dg dg' A B A' B' a b a' b' true _ (HV.out.below (below_step HW2.out HB.out)) (HV'.out.below (below_step HW2.out HB.out)) HF.out HY.out HY'.out HR.out).mono ?_
  rintro e x18 ⟨rfl, hb⟩
  refine ⟨_, rfl, ?_⟩
  have n_ := Aside0.mk (below_step HB.out hb)
  clear HB
  have HB := n_
  clear n_ hb
  refine hK.out _ _ HB.out (fun hHeld => ?_)
  clear hK K
  refine norm_ (a' := ?_) ?_ ?_
  rotate_left
  · show Act.put _ (some 36) _ = _
    simp only [Act.put, List.setIfInBounds_toArray, List.set_cons_zero, List.set_cons_succ, i64_w, i32_w]
    rfl
  refine pure_ (i := 19) (N := some 37) (v := ?_) (a' := ?_) #[true, true, true, true, true, true, true, true, true, true, true, true, true, true, true, true, true, true, true, true, false, false, false, false, false, false, false, false] rfl rfl (any_of HT_.out (by kernel_rfl)) (fun _ _ _ h => h) (Or.inl ⟨by rfl, ?_⟩) ?_ ?_
  rotate_left
  · intro w'
    go_simp
    with_reducible rfl
  rotate_left
  · simp only [Act.put, List.setIfInBounds_toArray, List.set_cons_zero, List.set_cons_succ, i64_w, i32_w]
    rfl
  refine pure_ (i := 20) (N := some 38) (v := ?_) (a' := ?_) #[true, true, true, true, true, true, true, true, true, true, true, true, true, true, true, true, true, true, true, true, true, false, false, false, false, false, false, false] rfl rfl (any_of HT_.out (by kernel_rfl)) (fun _ _ _ h => h) (Or.inl ⟨by rfl, ?_⟩) ?_ ?_
  rotate_left
  · intro w'
    go_simp
    with_reducible rfl
  rotate_left
  · simp only [Act.put, List.setIfInBounds_toArray, List.set_cons_zero, List.set_cons_succ, i64_w, i32_w]
    rfl
  refine pure_ (i := 21) (N := some 39) (v := ?_) (a' := ?_) #[true, true, true, true, true, true, true, true, true, true, true, true, true, true, true, true, true, true, true, true, true, true, false, false, false, false, false, false] rfl rfl (any_of HT_.out (by kernel_rfl)) (fun _ _ _ h => h) (Or.inl ⟨by rfl, ?_⟩) ?_ ?_
  rotate_left
  · intro w'
    go_simp
    with_reducible rfl
  rotate_left
  · simp only [Act.put, List.setIfInBounds_toArray, List.set_cons_zero, List.set_cons_succ, i64_w, i32_w]
    rfl
  refine take_ (i := 22) (N := some 40) (v := ?_) (a' := ?_) #[true, true, true, true, true, true, true, true, true, true, true, true, true, true, true, true, true, true, true, true, true, true, true, false, false, false, false, false] rfl rfl (take_ofW HT_.out HW_.out (by kernel_rfl)) (fun _ _ _ h => h) (Or.inl ⟨by rfl, ?_⟩) hHeld ?_ ?_
  rotate_left
  · intro w' hw'
    refine Eq.trans (exec_load 26 (.tmp 2) rfl w.heap.size 0 rfl _ (run_loadVar_row w' w.heap.size 26 26 (litC dg (.slice A c.secs.length a) (.slice B c.justs.length b)) (0, 0) _ (HX.out w' hw') Try.underlying26 rfl HZ.out)) ?_
    with_reducible rfl
  rotate_left
  · simp only [Act.put, List.setIfInBounds_toArray, List.set_cons_zero, List.set_cons_succ, i64_w, i32_w]
    rfl
  refine take_ (i := 24) (N := some 42) (v := ?_) (a' := ?_) #[true, true, true, true, true, true, true, true, true, true, true, true, true, true, true, true, true, true, true, true, true, true, true, false, true, false, false, false] rfl rfl (take_ofW HT_.out HW_.out (by kernel_rfl)) (fun _ _ _ h => h) (Or.inl ⟨by rfl, ?_⟩) hHeld ?_ ?_
  rotate_left
  · intro w' hw'
    refine Eq.trans (exec_load 26 (.tmp 2) rfl w.heap.size 0 rfl _ (run_loadVar_row w' w.heap.size 26 26 (litC dg (.slice A c.secs.length a) (.slice B c.justs.length b)) (0, 0) _ (HX.out w' hw') Try.underlying26 rfl HZ.out)) ?_
    with_reducible rfl
  rotate_left
  · simp only [Act.put, List.setIfInBounds_toArray, List.set_cons_zero, List.set_cons_succ, i64_w, i32_w]
    rfl
  refine one_ (i := 23) (N := some 41) #[true, true, true, true, true, true, true, true, true, true, true, true, true, true, true, true, true, true, true, true, true, true, true, true, true, false, false, false] rfl rfl (one_of HT_.out (by kernel_rfl)) (by decide) (fun K hK => ?_)
  refine goes_ Try.func12 (by kernel_rfl) rfl #[.agg (litC dg (.slice A c.secs.length a) (.slice B c.justs.length b))] (by rfl) rfl rfl (by (try simp only [List.map_toArray, List.map_cons, List.map_nil]); first | done | rfl) ?_
  with_reducible refine (copy_is c dg A B a b _ (HV.out.below (below_step HW2.out HB.out)) HF.out).mono ?_
  rintro e x23 ⟨AS, cS, AJ, cJ, rfl, hcv, _, _, hb⟩
  refine ⟨_, rfl, ?_⟩
  have HCV := Aside0.mk hcv
  have n_ := Aside0.mk (below_step HB.out hb)
  clear HB
  have HB := n_
  clear n_ hb
  clear hcv
  refine hK.out _ _ HB.out (fun hHeld => ?_)
  clear hK K
  refine norm_ (a' := ?_) ?_ ?_
  rotate_left
  · show Act.put _ (some 41) _ = _
    simp only [Act.put, List.setIfInBounds_toArray, List.set_cons_zero, List.set_cons_succ, i64_w, i32_w]
    rfl
  refine one_ (i := 25) (N := some 43) #[true, true, true, true, true, true, true, true, true, true, true, true, true, true, true, true, true, true, true, true, true, true, true, true, true, true, false, false] rfl rfl (one_of HT_.out (by kernel_rfl)) (by decide) (fun K hK => ?_)
  refine goes_ Try.func13 (by kernel_rfl) rfl #[.agg (litC dg (.slice AS c.secs.length cS) (.slice AJ c.justs.length cJ)), .agg (litC dg (.slice A c.secs.length a) (.slice B c.justs.length b))] (by rfl) rfl rfl (by (try simp only [List.map_toArray, List.map_cons, List.map_nil]); first | done | rfl) ?_
  with_reducible refine (rsame_is c c dg dg AS AJ A B cS cJ a b true _ HCV.out (HV.out.below (below_step HW2.out HB.out)) HF.out HY.out HY.out (alikeB_self c dg)).mono ?_
  rintro e x25 ⟨rfl, hb⟩
  refine ⟨_, rfl, ?_⟩
  have n_ := Aside0.mk (below_step HB.out hb)
  clear HB
  have HB := n_
  clear n_ hb
  refine hK.out _ _ HB.out (fun hHeld => ?_)
  clear hK K
  refine norm_ (a' := ?_) ?_ ?_
  rotate_left
  · show Act.put _ (some 43) _ = _
    simp only [Act.put, List.setIfInBounds_toArray, List.set_cons_zero, List.set_cons_succ, i64_w, i32_w]
    rfl
  refine pure_ (i := 26) (N := some 44) (v := ?_) (a' := ?_) #[true, true, true, true, true, true, true, true, true, true, true, true, true, true, true, true, true, true, true, true, true, true, true, true, true, true, true, false] rfl rfl (any_of HT_.out (by kernel_rfl)) (fun _ _ _ h => h) (Or.inl ⟨by rfl, ?_⟩) ?_ ?_
  rotate_left
  · intro w'
    go_simp
    with_reducible rfl
  rotate_left
  · simp only [Act.put, List.setIfInBounds_toArray, List.set_cons_zero, List.set_cons_succ, i64_w, i32_w]
    rfl
  refine pure_ (i := 27) (N := some 4) (v := ?_) (a' := ?_) #[true, true, true, true, true, true, true, true, true, true, true, true, true, true, true, true, true, true, true, true, true, true, true, true, true, true, true, true] rfl rfl (any_of HT_.out (by kernel_rfl)) (fun _ _ _ h => h) (Or.inl ⟨by rfl, ?_⟩) ?_ ?_
  rotate_left
  · intro w'
    go_simp
    with_reducible rfl
  rotate_left
  · simp only [Act.put, List.setIfInBounds_toArray, List.set_cons_zero, List.set_cons_succ, i64_w, i32_w]
    rfl
  refine done_ (done_of HT_.out (by kernel_rfl)) ?_
  try go_wp2
  go_ret
  exact ⟨by first | rfl | (simp; done), below_step HW2.out HB.out⟩

set_option maxHeartbeats 8000000 in
set_option maxRecDepth 100000 in
theorem csame_false (c c' : Crt) (dg dg' : Nat → Int) (A B A' B' : Option Addr) (a b a' b' : Nat) (w : World) (h : CrtVal w c (litC dg (.slice A c.secs.length a) (.slice B c.justs.length b)) A a B b) (h' : CrtVal w c' (litC dg' (.slice A' c'.secs.length a') (.slice B' c'.justs.length b')) A' a' B' b') (hh : Short c) (hh' : Short c') (hf : fewOk c = true) (hf' : fewOk c' = true) (hy : Byt dg) (hy' : Byt dg') (hr : alikeB c c' dg dg' = false) :
    Calls Try.prog 6 #[.agg #[.int .u8 (dg 0), .int .u8 (dg 1), .int .u8 (dg 2), .int .u8 (dg 3), .int .u8 (dg 4), .int .u8 (dg 5), .int .u8 (dg 6), .int .u8 (dg 7), .int .u8 (dg 8), .int .u8 (dg 9), .int .u8 (dg 10), .int .u8 (dg 11), .int .u8 (dg 12), .int .u8 (dg 13), .int .u8 (dg 14), .int .u8 (dg 15), .int .u8 (dg 16), .int .u8 (dg 17), .int .u8 (dg 18), .int .u8 (dg 19), .int .u8 (dg 20), .int .u8 (dg 21), .int .u8 (dg 22), .int .u8 (dg 23), .int .u8 (dg 24), .int .u8 (dg 25), .int .u8 (dg 26), .int .u8 (dg 27), .int .u8 (dg 28), .int .u8 (dg 29), .int .u8 (dg 30), .int .u8 (dg 31), .slice A c.secs.length a, .slice B c.justs.length b], .agg #[.int .u8 (dg' 0), .int .u8 (dg' 1), .int .u8 (dg' 2), .int .u8 (dg' 3), .int .u8 (dg' 4), .int .u8 (dg' 5), .int .u8 (dg' 6), .int .u8 (dg' 7), .int .u8 (dg' 8), .int .u8 (dg' 9), .int .u8 (dg' 10), .int .u8 (dg' 11), .int .u8 (dg' 12), .int .u8 (dg' 13), .int .u8 (dg' 14), .int .u8 (dg' 15), .int .u8 (dg' 16), .int .u8 (dg' 17), .int .u8 (dg' 18), .int .u8 (dg' 19), .int .u8 (dg' 20), .int .u8 (dg' 21), .int .u8 (dg' 22), .int .u8 (dg' 23), .int .u8 (dg' 24), .int .u8 (dg' 25), .int .u8 (dg' 26), .int .u8 (dg' 27), .int .u8 (dg' 28), .int .u8 (dg' 29), .int .u8 (dg' 30), .int .u8 (dg' 31), .slice A' c'.secs.length a', .slice B' c'.justs.length b']] w fun e w' => e = .returned (.bool true) ∧ Below w.heap.size w w' := by
  have HF := Aside0.mk hf
  have HF' := Aside0.mk hf'
  have HY := Aside0.mk hy
  have HY' := Aside0.mk hy'
  have HR := Aside0.mk hr
  have HR' := Aside0.mk ((alikeB_comm c' c dg' dg).trans hr)
  clear hf hf' hy hy' hr
  have HV := Aside0.mk h
  have HV' := Aside0.mk h'
  have HH := Aside0.mk hh
  have HH' := Aside0.mk hh'
  have HW2 := Aside0.mk (below_alloc (below_alloc (Below.refl w.heap.size w) (.cells (litC dg (.slice A c.secs.length a) (.slice B c.justs.length b)) 26)) (.cells (litC dg' (.slice A' c'.secs.length a') (.slice B' c'.justs.length b')) 26))
  have HB := Aside0.mk (Below.refl ((w.alloc (.cells (litC dg (.slice A c.secs.length a) (.slice B c.justs.length b)) 26)).alloc (.cells (litC dg' (.slice A' c'.secs.length a') (.slice B' c'.justs.length b')) 26)).heap.size ((w.alloc (.cells (litC dg (.slice A c.secs.length a) (.slice B c.justs.length b)) 26)).alloc (.cells (litC dg' (.slice A' c'.secs.length a') (.slice B' c'.justs.length b')) 26)))
  have hbox : ∀ w', Below ((w.alloc (.cells (litC dg (.slice A c.secs.length a) (.slice B c.justs.length b)) 26)).alloc (.cells (litC dg' (.slice A' c'.secs.length a') (.slice B' c'.justs.length b')) 26)).heap.size ((w.alloc (.cells (litC dg (.slice A c.secs.length a) (.slice B c.justs.length b)) 26)).alloc (.cells (litC dg' (.slice A' c'.secs.length a') (.slice B' c'.justs.length b')) 26)) w' → w'.heap[w.heap.size]? = some (.cells (litC dg (.slice A c.secs.length a) (.slice B c.justs.length b)) 26) := fun w' hb => by
    rw [hb.block w.heap.size (by simp; omega), heap_alloc2_old]
  have hbox' : ∀ w', Below ((w.alloc (.cells (litC dg (.slice A c.secs.length a) (.slice B c.justs.length b)) 26)).alloc (.cells (litC dg' (.slice A' c'.secs.length a') (.slice B' c'.justs.length b')) 26)).heap.size ((w.alloc (.cells (litC dg (.slice A c.secs.length a) (.slice B c.justs.length b)) 26)).alloc (.cells (litC dg' (.slice A' c'.secs.length a') (.slice B' c'.justs.length b')) 26)) w' → w'.heap[w.heap.size + 1]? = some (.cells (litC dg' (.slice A' c'.secs.length a') (.slice B' c'.justs.length b')) 26) := fun w' hb => by
    rw [hb.block (w.heap.size + 1) (by simp), heap_alloc2_new]
  have HX := Aside0.mk hbox
  have HX' := Aside0.mk hbox'
  have HZ := Aside0.mk (size26 (cs := (litC dg (.slice A c.secs.length a) (.slice B c.justs.length b))) rfl)
  have HZ' := Aside0.mk (size26 (cs := (litC dg' (.slice A' c'.secs.length a') (.slice B' c'.justs.length b'))) rfl)
  clear hbox hbox' h h' hh hh'
  go_enter Try.func6, Try.ntmps6
  go_wp2_with (first | ((with_reducible refine gate_callee (f := 8) rfl ?_); refine goesL_ (some 5) rfl rfl Try.func8 (by kernel_rfl) rfl #[] rfl (by (try simp only [List.map_toArray, List.map_cons, List.map_nil]); first | done | rfl) ?_; (with_reducible refine (awake_any _).mono ?_); rintro e w1 ⟨rfl, hb⟩; refine ⟨_, rfl, ?_⟩; have n_ := Aside0.mk (below_step HB.out hb); clear HB; have HB := n_; clear n_ hb) | ((with_reducible refine gate_dst (N := 8) rfl ?_); refine gate_guard (by rfl) ?_; refine wpList_load_row rfl 26 (.tmp 2) rfl w.heap.size rfl 26 (litC dg (.slice A c.secs.length a) (.slice B c.justs.length b)) (0, 0) _ (HX.out _ HB.out) Try.underlying26 rfl HZ.out ?_) | (go_at_call 9; (with_reducible refine (few_is c _ A B a b true _ (HV.out.below (below_step HW2.out HB.out)) HH.out HF.out).mono ?_); rintro e w2 ⟨rfl, hb⟩; have n_ := Aside0.mk (below_step HB.out hb); clear HB; have HB := n_; clear n_ hb) | ((with_reducible refine gate_dst (N := 13) rfl ?_); refine gate_guard (by rfl) ?_; refine wpList_load_row rfl 26 (.tmp 3) rfl (w.heap.size + 1) rfl 26 (litC dg' (.slice A' c'.secs.length a') (.slice B' c'.justs.length b')) (0, 0) _ (HX'.out _ HB.out) Try.underlying26 rfl HZ'.out ?_) | (go_at_call 9; (with_reducible refine (few_is c' _ A' B' a' b' true _ (HV'.out.below (below_step HW2.out HB.out)) HH'.out HF'.out).mono ?_); rintro e w3 ⟨rfl, hb⟩; have n_ := Aside0.mk (below_step HB.out hb); clear HB; have HB := n_; clear n_ hb))
  refine start_any (n := 28) (S := fun w' => Below ((w.alloc (.cells (litC dg (.slice A c.secs.length a) (.slice B c.justs.length b)) 26)).alloc (.cells (litC dg' (.slice A' c'.secs.length a') (.slice B' c'.justs.length b')) 26)).heap.size ((w.alloc (.cells (litC dg (.slice A c.secs.length a) (.slice B c.justs.length b)) 26)).alloc (.cells (litC dg' (.slice A' c'.secs.length a') (.slice B' c'.justs.length b')) 26)) w') (ds := []) #[false, false, false, false, false, false, false, false, false, false, false, false, false, false, false, false, false, false, false, false, false, false, false, false, false, false, false, false] (by kernel_rfl) rfl rfl (below_drew1 HB.out) (fun wd hHeld => ?_); refine with_tabW cs.tab3 cs.bits3 (fun HT_ HW_ => ?_)
  clear HB
  have HB := Aside0.mk hHeld
  refine take_ (i := 0) (N := some 18) (v := ?_) (a' := ?_) #[true, false, false, false, false, false, false, false, false, false, false, false, false, false, false, false, false, false, false, false, false, false, false, false, false, false, false, false] rfl rfl (take_ofW HT_.out HW_.out (by kernel_rfl)) (fun _ _ _ h => h) (Or.inl ⟨by rfl, ?_⟩) hHeld ?_ ?_
  rotate_left
  · intro w' hw'
    refine Eq.trans (exec_load 26 (.tmp 2) rfl w.heap.size 0 rfl _ (run_loadVar_row w' w.heap.size 26 26 (litC dg (.slice A c.secs.length a) (.slice B c.justs.length b)) (0, 0) _ (HX.out w' hw') Try.underlying26 rfl HZ.out)) ?_
    with_reducible rfl
  rotate_left
  · simp only [Act.put, List.setIfInBounds_toArray, List.set_cons_zero, List.set_cons_succ, i64_w, i32_w]
    rfl
  refine take_ (i := 1) (N := some 19) (v := ?_) (a' := ?_) #[true, true, false, false, false, false, false, false, false, false, false, false, false, false, false, false, false, false, false, false, false, false, false, false, false, false, false, false] rfl rfl (take_ofW HT_.out HW_.out (by kernel_rfl)) (fun _ _ _ h => h) (Or.inl ⟨by rfl, ?_⟩) hHeld ?_ ?_
  rotate_left
  · intro w' hw'
    refine Eq.trans (exec_load 26 (.tmp 3) rfl (w.heap.size + 1) 0 rfl _ (run_loadVar_row w' (w.heap.size + 1) 26 26 (litC dg' (.slice A' c'.secs.length a') (.slice B' c'.justs.length b')) (0, 0) _ (HX'.out w' hw') Try.underlying26 rfl HZ'.out)) ?_
    with_reducible rfl
  rotate_left
  · simp only [Act.put, List.setIfInBounds_toArray, List.set_cons_zero, List.set_cons_succ, i64_w, i32_w]
    rfl
  refine take_ (i := 3) (N := some 21) (v := ?_) (a' := ?_) #[true, true, false, true, false, false, false, false, false, false, false, false, false, false, false, false, false, false, false, false, false, false, false, false, false, false, false, false] rfl rfl (take_ofW HT_.out HW_.out (by kernel_rfl)) (fun _ _ _ h => h) (Or.inl ⟨by rfl, ?_⟩) hHeld ?_ ?_
  rotate_left
  · intro w' hw'
    refine Eq.trans (exec_load 26 (.tmp 2) rfl w.heap.size 0 rfl _ (run_loadVar_row w' w.heap.size 26 26 (litC dg (.slice A c.secs.length a) (.slice B c.justs.length b)) (0, 0) _ (HX.out w' hw') Try.underlying26 rfl HZ.out)) ?_
    with_reducible rfl
  rotate_left
  · simp only [Act.put, List.setIfInBounds_toArray, List.set_cons_zero, List.set_cons_succ, i64_w, i32_w]
    rfl
  refine take_ (i := 4) (N := some 22) (v := ?_) (a' := ?_) #[true, true, false, true, true, false, false, false, false, false, false, false, false, false, false, false, false, false, false, false, false, false, false, false, false, false, false, false] rfl rfl (take_ofW HT_.out HW_.out (by kernel_rfl)) (fun _ _ _ h => h) (Or.inl ⟨by rfl, ?_⟩) hHeld ?_ ?_
  rotate_left
  · intro w' hw'
    refine Eq.trans (exec_load 26 (.tmp 3) rfl (w.heap.size + 1) 0 rfl _ (run_loadVar_row w' (w.heap.size + 1) 26 26 (litC dg' (.slice A' c'.secs.length a') (.slice B' c'.justs.length b')) (0, 0) _ (HX'.out w' hw') Try.underlying26 rfl HZ'.out)) ?_
    with_reducible rfl
  rotate_left
  · simp only [Act.put, List.setIfInBounds_toArray, List.set_cons_zero, List.set_cons_succ, i64_w, i32_w]
    rfl
  refine one_ (i := 2) (N := some 20) #[true, true, true, true, true, false, false, false, false, false, false, false, false, false, false, false, false, false, false, false, false, false, false, false, false, false, false, false] rfl rfl (one_of HT_.out (by kernel_rfl)) (by decide) (fun K hK => ?_)
  refine goes_ Try.func14 (by kernel_rfl) rfl #[.agg (litC dg (.slice A c.secs.length a) (.slice B c.justs.length b)), .agg (litC dg' (.slice A' c'.secs.length a') (.slice B' c'.justs.length b'))] (by rfl) rfl rfl (by (try simp only [List.map_toArray, List.map_cons, List.map_nil]); first | done | rfl) ?_
  with_reducible refine (same_is c c' dg dg' A B A' B' a b a' b' false _ (HV.out.below (below_step HW2.out HB.out)) (HV'.out.below (below_step HW2.out HB.out)) HF.out HY.out HY'.out HR.out).mono ?_
  rintro e x2 ⟨rfl, hb⟩
  refine ⟨_, rfl, ?_⟩
  have n_ := Aside0.mk (below_step HB.out hb)
  clear HB
  have HB := n_
  clear n_ hb
  refine hK.out _ _ HB.out (fun hHeld => ?_)
  clear hK K
  refine norm_ (a' := ?_) ?_ ?_
  rotate_left
  · show Act.put _ (some 20) _ = _
    simp only [Act.put, List.setIfInBounds_toArray, List.set_cons_zero, List.set_cons_succ, i64_w, i32_w]
    rfl
  refine one_ (i := 5) (N := some 23) #[true, true, true, true, true, true, false, false, false, false, false, false, false, false, false, false, false, false, false, false, false, false, false, false, false, false, false, false] rfl rfl (one_of HT_.out (by kernel_rfl)) (by decide) (fun K hK => ?_)
  refine goes_ Try.func13 (by kernel_rfl) rfl #[.agg (litC dg (.slice A c.secs.length a) (.slice B c.justs.length b)), .agg (litC dg' (.slice A' c'.secs.length a') (.slice B' c'.justs.length b'))] (by rfl) rfl rfl (by (try simp only [List.map_toArray, List.map_cons, List.map_nil]); first | done | rfl) ?_
  with_reducible refine (rsame_is c c' dg dg' A B A' B' a b a' b' false _ (HV.out.below (below_step HW2.out HB.out)) (HV'.out.below (below_step HW2.out HB.out)) HF.out HY.out HY'.out HR.out).mono ?_
  rintro e x5 ⟨rfl, hb⟩
  refine ⟨_, rfl, ?_⟩
  have n_ := Aside0.mk (below_step HB.out hb)
  clear HB
  have HB := n_
  clear n_ hb
  refine hK.out _ _ HB.out (fun hHeld => ?_)
  clear hK K
  refine norm_ (a' := ?_) ?_ ?_
  rotate_left
  · show Act.put _ (some 23) _ = _
    simp only [Act.put, List.setIfInBounds_toArray, List.set_cons_zero, List.set_cons_succ, i64_w, i32_w]
    rfl
  refine pure_ (i := 6) (N := some 24) (v := ?_) (a' := ?_) #[true, true, true, true, true, true, true, false, false, false, false, false, false, false, false, false, false, false, false, false, false, false, false, false, false, false, false, false] rfl rfl (any_of HT_.out (by kernel_rfl)) (fun _ _ _ h => h) (Or.inl ⟨by rfl, ?_⟩) ?_ ?_
  rotate_left
  · intro w'
    go_simp
    with_reducible rfl
  rotate_left
  · simp only [Act.put, List.setIfInBounds_toArray, List.set_cons_zero, List.set_cons_succ, i64_w, i32_w]
    rfl
  refine pure_ (i := 7) (N := some 25) (v := ?_) (a' := ?_) #[true, true, true, true, true, true, true, true, false, false, false, false, false, false, false, false, false, false, false, false, false, false, false, false, false, false, false, false] rfl rfl (any_of HT_.out (by kernel_rfl)) (fun _ _ _ h => h) (Or.inl ⟨by rfl, ?_⟩) ?_ ?_
  rotate_left
  · intro w'
    go_simp
    with_reducible rfl
  rotate_left
  · simp only [Act.put, List.setIfInBounds_toArray, List.set_cons_zero, List.set_cons_succ, i64_w, i32_w]
    rfl
  refine take_ (i := 8) (N := some 26) (v := ?_) (a' := ?_) #[true, true, true, true, true, true, true, true, true, false, false, false, false, false, false, false, false, false, false, false, false, false, false, false, false, false, false, false] rfl rfl (take_ofW HT_.out HW_.out (by kernel_rfl)) (fun _ _ _ h => h) (Or.inl ⟨by rfl, ?_⟩) hHeld ?_ ?_
  rotate_left
  · intro w' hw'
    refine Eq.trans (exec_load 26 (.tmp 2) rfl w.heap.size 0 rfl _ (run_loadVar_row w' w.heap.size 26 26 (litC dg (.slice A c.secs.length a) (.slice B c.justs.length b)) (0, 0) _ (HX.out w' hw') Try.underlying26 rfl HZ.out)) ?_
    with_reducible rfl
  rotate_left
  · simp only [Act.put, List.setIfInBounds_toArray, List.set_cons_zero, List.set_cons_succ, i64_w, i32_w]
    rfl
  refine take_ (i := 9) (N := some 27) (v := ?_) (a' := ?_) #[true, true, true, true, true, true, true, true, true, true, false, false, false, false, false, false, false, false, false, false, false, false, false, false, false, false, false, false] rfl rfl (take_ofW HT_.out HW_.out (by kernel_rfl)) (fun _ _ _ h => h) (Or.inl ⟨by rfl, ?_⟩) hHeld ?_ ?_
  rotate_left
  · intro w' hw'
    refine Eq.trans (exec_load 26 (.tmp 2) rfl w.heap.size 0 rfl _ (run_loadVar_row w' w.heap.size 26 26 (litC dg (.slice A c.secs.length a) (.slice B c.justs.length b)) (0, 0) _ (HX.out w' hw') Try.underlying26 rfl HZ.out)) ?_
    with_reducible rfl
  rotate_left
  · simp only [Act.put, List.setIfInBounds_toArray, List.set_cons_zero, List.set_cons_succ, i64_w, i32_w]
    rfl
  refine one_ (i := 10) (N := some 28) #[true, true, true, true, true, true, true, true, true, true, true, false, false, false, false, false, false, false, false, false, false, false, false, false, false, false, false, false] rfl rfl (one_of HT_.out (by kernel_rfl)) (by decide) (fun K hK => ?_)
  refine goes_ Try.func14 (by kernel_rfl) rfl #[.agg (litC dg (.slice A c.secs.length a) (.slice B c.justs.length b)), .agg (litC dg (.slice A c.secs.length a) (.slice B c.justs.length b))] (by rfl) rfl rfl (by (try simp only [List.map_toArray, List.map_cons, List.map_nil]); first | done | rfl) ?_
  with_reducible refine (same_is c c dg dg A B A B a b a b true _ (HV.out.below (below_step HW2.out HB.out)) (HV.out.below (below_step HW2.out HB.out)) HF.out HY.out HY.out (alikeB_self c dg)).mono ?_
  rintro e x10 ⟨rfl, hb⟩
  refine ⟨_, rfl, ?_⟩
  have n_ := Aside0.mk (below_step HB.out hb)
  clear HB
  have HB := n_
  clear n_ hb
  refine hK.out _ _ HB.out (fun hHeld => ?_)
  clear hK K
  refine norm_ (a' := ?_) ?_ ?_
  rotate_left
  · show Act.put _ (some 28) _ = _
    simp only [Act.put, List.setIfInBounds_toArray, List.set_cons_zero, List.set_cons_succ, i64_w, i32_w]
    rfl
  refine pure_ (i := 11) (N := some 29) (v := ?_) (a' := ?_) #[true, true, true, true, true, true, true, true, true, true, true, true, false, false, false, false, false, false, false, false, false, false, false, false, false, false, false, false] rfl rfl (any_of HT_.out (by kernel_rfl)) (fun _ _ _ h => h) (Or.inl ⟨by rfl, ?_⟩) ?_ ?_
  rotate_left
  · intro w'
    go_simp
    with_reducible rfl
  rotate_left
  · simp only [Act.put, List.setIfInBounds_toArray, List.set_cons_zero, List.set_cons_succ, i64_w, i32_w]
    rfl
  refine pure_ (i := 12) (N := some 30) (v := ?_) (a' := ?_) #[true, true, true, true, true, true, true, true, true, true, true, true, true, false, false, false, false, false, false, false, false, false, false, false, false, false, false, false] rfl rfl (any_of HT_.out (by kernel_rfl)) (fun _ _ _ h => h) (Or.inl ⟨by rfl, ?_⟩) ?_ ?_
  rotate_left
  · intro w'
    go_simp
    with_reducible rfl
  rotate_left
  · simp only [Act.put, List.setIfInBounds_toArray, List.set_cons_zero, List.set_cons_succ, i64_w, i32_w]
    rfl
  refine take_ (i := 13) (N := some 31) (v := ?_) (a' := ?_) #[true, true, true, true, true, true, true, true, true, true, true, true, true, true, false, false, false, false, false, false, false, false, false, false, false, false, false, false] rfl rfl (take_ofW HT_.out HW_.out (by kernel_rfl)) (fun _ _ _ h => h) (Or.inl ⟨by rfl, ?_⟩) hHeld ?_ ?_
  rotate_left
  · intro w' hw'
    refine Eq.trans (exec_load 26 (.tmp 3) rfl (w.heap.size + 1) 0 rfl _ (run_loadVar_row w' (w.heap.size + 1) 26 26 (litC dg' (.slice A' c'.secs.length a') (.slice B' c'.justs.length b')) (0, 0) _ (HX'.out w' hw') Try.underlying26 rfl HZ'.out)) ?_
    with_reducible rfl
  rotate_left
  · simp only [Act.put, List.setIfInBounds_toArray, List.set_cons_zero, List.set_cons_succ, i64_w, i32_w]
    rfl
  refine take_ (i := 14) (N := some 32) (v := ?_) (a' := ?_) #[true, true, true, true, true, true, true, true, true, true, true, true, true, true, true, false, false, false, false, false, false, false, false, false, false, false, false, false] rfl rfl (take_ofW HT_.out HW_.out (by kernel_rfl)) (fun _ _ _ h => h) (Or.inl ⟨by rfl, ?_⟩) hHeld ?_ ?_
  rotate_left
  · intro w' hw'
    refine Eq.trans (exec_load 26 (.tmp 2) rfl w.heap.size 0 rfl _ (run_loadVar_row w' w.heap.size 26 26 (litC dg (.slice A c.secs.length a) (.slice B c.justs.length b)) (0, 0) _ (HX.out w' hw') Try.underlying26 rfl HZ.out)) ?_
    with_reducible rfl
  rotate_left
  · simp only [Act.put, List.setIfInBounds_toArray, List.set_cons_zero, List.set_cons_succ, i64_w, i32_w]
    rfl
  refine take_ (i := 16) (N := some 34) (v := ?_) (a' := ?_) #[true, true, true, true, true, true, true, true, true, true, true, true, true, true, true, false, true, false, false, false, false, false, false, false, false, false, false, false] rfl rfl (take_ofW HT_.out HW_.out (by kernel_rfl)) (fun _ _ _ h => h) (Or.inl ⟨by rfl, ?_⟩) hHeld ?_ ?_
  rotate_left
  · intro w' hw'
    refine Eq.trans (exec_load 26 (.tmp 2) rfl w.heap.size 0 rfl _ (run_loadVar_row w' w.heap.size 26 26 (litC dg (.slice A c.secs.length a) (.slice B c.justs.length b)) (0, 0) _ (HX.out w' hw') Try.underlying26 rfl HZ.out)) ?_
    with_reducible rfl
  rotate_left
  · simp only [Act.put, List.setIfInBounds_toArray, List.set_cons_zero, List.set_cons_succ, i64_w, i32_w]
    rfl
  refine take_ (i := 17) (N := some 35) (v := ?_) (a' := ?_) #[true, true, true, true, true, true, true, true, true, true, true, true, true, true, true, false, true, true, false, false, false, false, false, false, false, false, false, false] rfl rfl (take_ofW HT_.out HW_.out (by kernel_rfl)) (fun _ _ _ h => h) (Or.inl ⟨by rfl, ?_⟩) hHeld ?_ ?_
  rotate_left
  · intro w' hw'
    refine Eq.trans (exec_load 26 (.tmp 3) rfl (w.heap.size + 1) 0 rfl _ (run_loadVar_row w' (w.heap.size + 1) 26 26 (litC dg' (.slice A' c'.secs.length a') (.slice B' c'.justs.length b')) (0, 0) _ (HX'.out w' hw') Try.underlying26 rfl HZ'.out)) ?_
    with_reducible rfl
  rotate_left
  · simp only [Act.put, List.setIfInBounds_toArray, List.set_cons_zero, List.set_cons_succ, i64_w, i32_w]
    rfl
  refine one_ (i := 15) (N := some 33) #[true, true, true, true, true, true, true, true, true, true, true, true, true, true, true, true, true, true, false, false, false, false, false, false, false, false, false, false] rfl rfl (one_of HT_.out (by kernel_rfl)) (by decide) (fun K hK => ?_)
  refine goes_ Try.func14 (by kernel_rfl) rfl #[.agg (litC dg' (.slice A' c'.secs.length a') (.slice B' c'.justs.length b')), .agg (litC dg (.slice A c.secs.length a) (.slice B c.justs.length b))] (by rfl) rfl rfl (by (try simp only [List.map_toArray, List.map_cons, List.map_nil]); first | done | rfl) ?_
  with_reducible refine (same_is c' c dg' dg A' B' A B a' b' a b false _ (HV'.out.below (below_step HW2.out HB.out)) (HV.out.below (below_step HW2.out HB.out)) HF'.out HY'.out HY.out HR'.out).mono ?_
  rintro e x15 ⟨rfl, hb⟩
  refine ⟨_, rfl, ?_⟩
  have n_ := Aside0.mk (below_step HB.out hb)
  clear HB
  have HB := n_
  clear n_ hb
  refine hK.out _ _ HB.out (fun hHeld => ?_)
  clear hK K
  refine norm_ (a' := ?_) ?_ ?_
  rotate_left
  · show Act.put _ (some 33) _ = _
    simp only [Act.put, List.setIfInBounds_toArray, List.set_cons_zero, List.set_cons_succ, i64_w, i32_w]
    rfl
  refine one_ (i := 18) (N := some 36) #[true, true, true, true, true, true, true, true, true, true, true, true, true, true, true, true, true, true, true, false, false, false, false, false, false, false, false, false] rfl rfl (one_of HT_.out (by kernel_rfl)) (by decide) (fun K hK => ?_)
  refine goes_ Try.func13 (by kernel_rfl) rfl #[.agg (litC dg (.slice A c.secs.length a) (.slice B c.justs.length b)), .agg (litC dg' (.slice A' c'.secs.length a') (.slice B' c'.justs.length b'))] (by rfl) rfl rfl (by (try simp only [List.map_toArray, List.map_cons, List.map_nil]); first | done | rfl) ?_
  with_reducible refine (rsame_is c c' dg dg' A B A' B' a b a' b' false _ (HV.out.below (below_step HW2.out HB.out)) (HV'.out.below (below_step HW2.out HB.out)) HF.out HY.out HY'.out HR.out).mono ?_
  rintro e x18 ⟨rfl, hb⟩
  refine ⟨_, rfl, ?_⟩
  have n_ := Aside0.mk (below_step HB.out hb)
  clear HB
  have HB := n_
  clear n_ hb
  refine hK.out _ _ HB.out (fun hHeld => ?_)
  clear hK K
  refine norm_ (a' := ?_) ?_ ?_
  rotate_left
  · show Act.put _ (some 36) _ = _
    simp only [Act.put, List.setIfInBounds_toArray, List.set_cons_zero, List.set_cons_succ, i64_w, i32_w]
    rfl
  refine pure_ (i := 19) (N := some 37) (v := ?_) (a' := ?_) #[true, true, true, true, true, true, true, true, true, true, true, true, true, true, true, true, true, true, true, true, false, false, false, false, false, false, false, false] rfl rfl (any_of HT_.out (by kernel_rfl)) (fun _ _ _ h => h) (Or.inl ⟨by rfl, ?_⟩) ?_ ?_
  rotate_left
  · intro w'
    go_simp
    with_reducible rfl
  rotate_left
  · simp only [Act.put, List.setIfInBounds_toArray, List.set_cons_zero, List.set_cons_succ, i64_w, i32_w]
    rfl
  refine pure_ (i := 20) (N := some 38) (v := ?_) (a' := ?_) #[true, true, true, true, true, true, true, true, true, true, true, true, true, true, true, true, true, true, true, true, true, false, false, false, false, false, false, false] rfl rfl (any_of HT_.out (by kernel_rfl)) (fun _ _ _ h => h) (Or.inl ⟨by rfl, ?_⟩) ?_ ?_
  rotate_left
  · intro w'
    go_simp
    with_reducible rfl
  rotate_left
  · simp only [Act.put, List.setIfInBounds_toArray, List.set_cons_zero, List.set_cons_succ, i64_w, i32_w]
    rfl
  refine pure_ (i := 21) (N := some 39) (v := ?_) (a' := ?_) #[true, true, true, true, true, true, true, true, true, true, true, true, true, true, true, true, true, true, true, true, true, true, false, false, false, false, false, false] rfl rfl (any_of HT_.out (by kernel_rfl)) (fun _ _ _ h => h) (Or.inl ⟨by rfl, ?_⟩) ?_ ?_
  rotate_left
  · intro w'
    go_simp
    with_reducible rfl
  rotate_left
  · simp only [Act.put, List.setIfInBounds_toArray, List.set_cons_zero, List.set_cons_succ, i64_w, i32_w]
    rfl
  refine take_ (i := 22) (N := some 40) (v := ?_) (a' := ?_) #[true, true, true, true, true, true, true, true, true, true, true, true, true, true, true, true, true, true, true, true, true, true, true, false, false, false, false, false] rfl rfl (take_ofW HT_.out HW_.out (by kernel_rfl)) (fun _ _ _ h => h) (Or.inl ⟨by rfl, ?_⟩) hHeld ?_ ?_
  rotate_left
  · intro w' hw'
    refine Eq.trans (exec_load 26 (.tmp 2) rfl w.heap.size 0 rfl _ (run_loadVar_row w' w.heap.size 26 26 (litC dg (.slice A c.secs.length a) (.slice B c.justs.length b)) (0, 0) _ (HX.out w' hw') Try.underlying26 rfl HZ.out)) ?_
    with_reducible rfl
  rotate_left
  · simp only [Act.put, List.setIfInBounds_toArray, List.set_cons_zero, List.set_cons_succ, i64_w, i32_w]
    rfl
  refine take_ (i := 24) (N := some 42) (v := ?_) (a' := ?_) #[true, true, true, true, true, true, true, true, true, true, true, true, true, true, true, true, true, true, true, true, true, true, true, false, true, false, false, false] rfl rfl (take_ofW HT_.out HW_.out (by kernel_rfl)) (fun _ _ _ h => h) (Or.inl ⟨by rfl, ?_⟩) hHeld ?_ ?_
  rotate_left
  · intro w' hw'
    refine Eq.trans (exec_load 26 (.tmp 2) rfl w.heap.size 0 rfl _ (run_loadVar_row w' w.heap.size 26 26 (litC dg (.slice A c.secs.length a) (.slice B c.justs.length b)) (0, 0) _ (HX.out w' hw') Try.underlying26 rfl HZ.out)) ?_
    with_reducible rfl
  rotate_left
  · simp only [Act.put, List.setIfInBounds_toArray, List.set_cons_zero, List.set_cons_succ, i64_w, i32_w]
    rfl
  refine one_ (i := 23) (N := some 41) #[true, true, true, true, true, true, true, true, true, true, true, true, true, true, true, true, true, true, true, true, true, true, true, true, true, false, false, false] rfl rfl (one_of HT_.out (by kernel_rfl)) (by decide) (fun K hK => ?_)
  refine goes_ Try.func12 (by kernel_rfl) rfl #[.agg (litC dg (.slice A c.secs.length a) (.slice B c.justs.length b))] (by rfl) rfl rfl (by (try simp only [List.map_toArray, List.map_cons, List.map_nil]); first | done | rfl) ?_
  with_reducible refine (copy_is c dg A B a b _ (HV.out.below (below_step HW2.out HB.out)) HF.out).mono ?_
  rintro e x23 ⟨AS, cS, AJ, cJ, rfl, hcv, _, _, hb⟩
  refine ⟨_, rfl, ?_⟩
  have HCV := Aside0.mk hcv
  have n_ := Aside0.mk (below_step HB.out hb)
  clear HB
  have HB := n_
  clear n_ hb
  clear hcv
  refine hK.out _ _ HB.out (fun hHeld => ?_)
  clear hK K
  refine norm_ (a' := ?_) ?_ ?_
  rotate_left
  · show Act.put _ (some 41) _ = _
    simp only [Act.put, List.setIfInBounds_toArray, List.set_cons_zero, List.set_cons_succ, i64_w, i32_w]
    rfl
  refine one_ (i := 25) (N := some 43) #[true, true, true, true, true, true, true, true, true, true, true, true, true, true, true, true, true, true, true, true, true, true, true, true, true, true, false, false] rfl rfl (one_of HT_.out (by kernel_rfl)) (by decide) (fun K hK => ?_)
  refine goes_ Try.func13 (by kernel_rfl) rfl #[.agg (litC dg (.slice AS c.secs.length cS) (.slice AJ c.justs.length cJ)), .agg (litC dg (.slice A c.secs.length a) (.slice B c.justs.length b))] (by rfl) rfl rfl (by (try simp only [List.map_toArray, List.map_cons, List.map_nil]); first | done | rfl) ?_
  with_reducible refine (rsame_is c c dg dg AS AJ A B cS cJ a b true _ HCV.out (HV.out.below (below_step HW2.out HB.out)) HF.out HY.out HY.out (alikeB_self c dg)).mono ?_
  rintro e x25 ⟨rfl, hb⟩
  refine ⟨_, rfl, ?_⟩
  have n_ := Aside0.mk (below_step HB.out hb)
  clear HB
  have HB := n_
  clear n_ hb
  refine hK.out _ _ HB.out (fun hHeld => ?_)
  clear hK K
  refine norm_ (a' := ?_) ?_ ?_
  rotate_left
  · show Act.put _ (some 43) _ = _
    simp only [Act.put, List.setIfInBounds_toArray, List.set_cons_zero, List.set_cons_succ, i64_w, i32_w]
    rfl
  refine pure_ (i := 26) (N := some 44) (v := ?_) (a' := ?_) #[true, true, true, true, true, true, true, true, true, true, true, true, true, true, true, true, true, true, true, true, true, true, true, true, true, true, true, false] rfl rfl (any_of HT_.out (by kernel_rfl)) (fun _ _ _ h => h) (Or.inl ⟨by rfl, ?_⟩) ?_ ?_
  rotate_left
  · intro w'
    go_simp
    with_reducible rfl
  rotate_left
  · simp only [Act.put, List.setIfInBounds_toArray, List.set_cons_zero, List.set_cons_succ, i64_w, i32_w]
    rfl
  refine pure_ (i := 27) (N := some 4) (v := ?_) (a' := ?_) #[true, true, true, true, true, true, true, true, true, true, true, true, true, true, true, true, true, true, true, true, true, true, true, true, true, true, true, true] rfl rfl (any_of HT_.out (by kernel_rfl)) (fun _ _ _ h => h) (Or.inl ⟨by rfl, ?_⟩) ?_ ?_
  rotate_left
  · intro w'
    go_simp
    with_reducible rfl
  rotate_left
  · simp only [Act.put, List.setIfInBounds_toArray, List.set_cons_zero, List.set_cons_succ, i64_w, i32_w]
    rfl
  refine done_ (done_of HT_.out (by kernel_rfl)) ?_
  try go_wp2
  go_ret
  exact ⟨by first | rfl | (simp; done), below_step HW2.out HB.out⟩

theorem byt_of {c : Crt} (hg : c.Good) : Byt (fun i => c.dig.getD i 0) := by
  intro i
  by_cases hi : i < c.dig.length
  · have : c.dig.getD i 0 = c.dig[i] := by simp [hi]
    show 0 ≤ c.dig.getD i 0 ∧ c.dig.getD i 0 < 256
    rw [this]
    exact hg.dig _ (List.getElem_mem hi)
  · have : c.dig.getD i 0 = 0 := by rw [List.getD_eq_getElem?_getD, List.getElem?_eq_none (by omega)]; rfl
    show 0 ≤ c.dig.getD i 0 ∧ c.dig.getD i 0 < 256
    rw [this]; omega

theorem csame_law (c c' : Crt) (cs cs' : Array Value) (A B A' B' : Option Addr) (a b a' b' : Nat) (w : World) (h : CrtVal w c cs A a B b) (h' : CrtVal w c' cs' A' a' B' b') (hh : Short c) (hh' : Short c') (hg : c.Good) (hg' : c'.Good)
    (hcs : cs = (c.dig.map (Value.int .u8) ++ [Value.slice A c.secs.length a, Value.slice B c.justs.length b]).toArray) (hd : c.dig.length = 32) (hcs' : cs' = (c'.dig.map (Value.int .u8) ++ [Value.slice A' c'.secs.length a', Value.slice B' c'.justs.length b']).toArray) (hd' : c'.dig.length = 32) :
    Calls Try.prog 6 #[.agg cs, .agg cs'] w fun e w' => e = .returned (.bool true) ∧ Below w.heap.size w w' := by
  rw [lit_cells c.dig hd] at hcs
  rw [lit_cells c'.dig hd'] at hcs'
  rw [hcs] at h ⊢
  rw [hcs'] at h' ⊢
  cases hf : fewOk c with
  | false => exact csame_a c c' (fun i => c.dig.getD i 0) (fun i => c'.dig.getD i 0) A B A' B' a b a' b' w h h' hh hh' hf
  | true =>
    cases hf' : fewOk c' with
    | false => exact csame_b c c' (fun i => c.dig.getD i 0) (fun i => c'.dig.getD i 0) A B A' B' a b a' b' w h h' hh hh' hf hf'
    | true =>
      cases hr : alikeB c c' (fun i => c.dig.getD i 0) (fun i => c'.dig.getD i 0) with
      | true => exact csame_true c c' (fun i => c.dig.getD i 0) (fun i => c'.dig.getD i 0) A B A' B' a b a' b' w h h' hh hh' hf hf' (byt_of hg) (byt_of hg') hr
      | false => exact csame_false c c' (fun i => c.dig.getD i 0) (fun i => c'.dig.getD i 0) A B A' B' a b a' b' w h h' hh hh' hf hf' (byt_of hg) (byt_of hg') hr
end Go.Proofs.Ytbemdnjcnmponaa.Laws3
