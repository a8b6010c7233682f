/- A copy is new memory (CertCopies): the walk of the law; for every certificate. -/
import Derived.Test.YtbemdnjcnmponaaCopiesP
namespace Go.Proofs.Ytbemdnjcnmponaa.Copies
open Go.RowKit Go.Proofs.YtbemdnjcnmponaaW.PrintWords Go.Proofs.YtbemdnjcnmponaaW.PrintLast Go.Proofs.YtbemdnjcnmponaaW.PrintMore Go.Proofs.Ytbemdnjcnmponaa.PCertSame Go.Proofs.Ytbemdnjcnmponaa.Data Go.Proofs.Ytbemdnjcnmponaa.Plain Go.Proofs.Ytbemdnjcnmponaa.Check Go.Proofs.Ytbemdnjcnmponaa.Awake Go.Proofs.Ytbemdnjcnmponaa.Laws1 Go.Proofs.Ytbemdnjcnmponaa.Lit Go.Proofs.Ytbemdnjcnmponaa.SameP Go.Proofs.Ytbemdnjcnmponaa.Same Go.Proofs.Ytbemdnjcnmponaa.Copy Go.Proofs.Ytbemdnjcnmponaa.RefSame Go.Proofs.Ytbemdnjcnmponaa.CopiesP
set_option linter.unusedVariables false
set_option linter.unusedSimpArgs false
def cq.T3 : Bool × List (List Nat × List Nat) := (true, [([], []), ([0], [0]), ([], []), ([2, 1], [2]), ([], []), ([], []), ([4, 1, 3, 0, 1, 4, 5], [1, 4]), ([5, 3, 6, 0, 1, 2, 3, 4, 5, 6], [3, 5])])
def cq.B3 : List Nat := [0, 1, 0, 7, 0, 0, 63, 127]
theorem cq.tab3 : rtab .any (opsOf Try.f5 3) = cq.T3 := by kernel_rfl
theorem cq.bits3 : waitsOk cq.T3.2 cq.B3 = true := by kernel_rfl

theorem rsame_self (c : Crt) (dg : Nat → Int) (A B A' B' : Option Addr) (a b a' b' : Nat) (w : World) (h : CrtVal w c (litC dg (.slice A c.secs.length a) (.slice B c.justs.length b)) A a B b) (h' : CrtVal w c (litC dg (.slice A' c.secs.length a') (.slice B' c.justs.length b')) A' a' B' b') (hf : fewOk c = true) (hy : Byt dg) :
    Calls Try.prog 13 #[.agg (litC dg (.slice A c.secs.length a) (.slice B c.justs.length b)), .agg (litC dg (.slice A' c.secs.length a') (.slice B' c.justs.length b'))] w fun e w' => e = .returned (.bool true) ∧ Below w.heap.size w w' := by
  have := rsame_any c c dg dg A B A' B' a b a' b' w h h' (few_parts hf).1 (few_parts hf).2.1 (few_parts hf).2.2 hy hy
  rw [eqB_self, eqB_self, eqB_self] at this
  exact this

set_option maxHeartbeats 4000000 in
set_option maxRecDepth 100000 in
theorem copies_many (c : Crt) (dg : Nat → Int) (A B : Option Addr) (a b : Nat) (w : World) (h : CrtVal w c (litC dg (.slice A c.secs.length a) (.slice B c.justs.length b)) A a B b) (hh : Short c) (hf : fewOk c = false) :
    Calls Try.prog 5 #[.agg #[.int .u8 (dg 0), .int .u8 (dg 1), .int .u8 (dg 2), .int .u8 (dg 3), .int .u8 (dg 4), .int .u8 (dg 5), .int .u8 (dg 6), .int .u8 (dg 7), .int .u8 (dg 8), .int .u8 (dg 9), .int .u8 (dg 10), .int .u8 (dg 11), .int .u8 (dg 12), .int .u8 (dg 13), .int .u8 (dg 14), .int .u8 (dg 15), .int .u8 (dg 16), .int .u8 (dg 17), .int .u8 (dg 18), .int .u8 (dg 19), .int .u8 (dg 20), .int .u8 (dg 21), .int .u8 (dg 22), .int .u8 (dg 23), .int .u8 (dg 24), .int .u8 (dg 25), .int .u8 (dg 26), .int .u8 (dg 27), .int .u8 (dg 28), .int .u8 (dg 29), .int .u8 (dg 30), .int .u8 (dg 31), .slice A c.secs.length a, .slice B c.justs.length b]] w fun e w' => e = .returned (.bool true) ∧ Below w.heap.size w w' := by
  have HF := Aside0.mk hf
  clear hf
  have HV := Aside0.mk h
  have HH := Aside0.mk hh
  have HW2 := Aside0.mk (below_alloc (Below.refl w.heap.size w) (.cells (litC dg (.slice A c.secs.length a) (.slice B c.justs.length b)) 26))
  have HB := Aside0.mk (Below.refl (w.alloc (.cells (litC dg (.slice A c.secs.length a) (.slice B c.justs.length b)) 26)).heap.size (w.alloc (.cells (litC dg (.slice A c.secs.length a) (.slice B c.justs.length b)) 26)))
  have HX := Aside0.mk (box_block (litC dg (.slice A c.secs.length a) (.slice B c.justs.length b)) w)
  have HZ := Aside0.mk (size26 (cs := (litC dg (.slice A c.secs.length a) (.slice B c.justs.length b))) rfl)
  clear h hh
  go_enter Try.func5, Try.ntmps5
  go_wp2_with (first | ((with_reducible refine gate_callee (f := 8) rfl ?_); refine goesL_ (some 9) rfl rfl Try.func8 (by kernel_rfl) rfl #[] rfl (by (try simp only [List.map_toArray, List.map_cons, List.map_nil]); first | done | rfl) ?_; (with_reducible refine (awake_any _).mono ?_); rintro e w1 ⟨rfl, hb⟩; refine ⟨_, rfl, ?_⟩; have n_ := Aside0.mk (below_step HB.out hb); clear HB; have HB := n_; clear n_ hb) | ((with_reducible refine gate_dst (N := 12) rfl ?_); refine gate_guard (by rfl) ?_; refine wpList_load_row rfl 26 (.tmp 1) rfl w.heap.size rfl 26 (litC dg (.slice A c.secs.length a) (.slice B c.justs.length b)) (0, 0) _ (HX.out _ HB.out) Try.underlying26 rfl HZ.out ?_) | (go_at_call 9; (with_reducible refine (few_is c _ A B a b false _ (HV.out.below (below_step HW2.out HB.out)) HH.out HF.out).mono ?_); rintro e w2 ⟨rfl, hb⟩; have n_ := Aside0.mk (below_step HB.out hb); clear HB; have HB := n_; clear n_ hb) | (go_at_call 8; (with_reducible refine (awake_any _).mono ?_); rintro e w5 ⟨rfl, hb⟩; have n_ := Aside0.mk (below_step HB.out hb); clear HB; have HB := n_; clear n_ hb))
  go_ret
  exact ⟨by first | rfl | (simp; done), below_step HW2.out HB.out⟩

set_option maxHeartbeats 16000000 in
set_option maxRecDepth 100000 in
theorem copies_few (c : Crt) (dg : Nat → Int) (A B : Option Addr) (a b : Nat) (w : World) (h : CrtVal w c (litC dg (.slice A c.secs.length a) (.slice B c.justs.length b)) A a B b) (hh : Short c) (hf : fewOk c = true) (hy : Byt dg) :
    Calls Try.prog 5 #[.agg #[.int .u8 (dg 0), .int .u8 (dg 1), .int .u8 (dg 2), .int .u8 (dg 3), .int .u8 (dg 4), .int .u8 (dg 5), .int .u8 (dg 6), .int .u8 (dg 7), .int .u8 (dg 8), .int .u8 (dg 9), .int .u8 (dg 10), .int .u8 (dg 11), .int .u8 (dg 12), .int .u8 (dg 13), .int .u8 (dg 14), .int .u8 (dg 15), .int .u8 (dg 16), .int .u8 (dg 17), .int .u8 (dg 18), .int .u8 (dg 19), .int .u8 (dg 20), .int .u8 (dg 21), .int .u8 (dg 22), .int .u8 (dg 23), .int .u8 (dg 24), .int .u8 (dg 25), .int .u8 (dg 26), .int .u8 (dg 27), .int .u8 (dg 28), .int .u8 (dg 29), .int .u8 (dg 30), .int .u8 (dg 31), .slice A c.secs.length a, .slice B c.justs.length b]] w fun e w' => e = .returned (.bool true) ∧ Below w.heap.size w w' := by
  have HF := Aside0.mk hf
  have HY := Aside0.mk hy
  have H40 := Aside0.mk (few_parts hf)
  clear hf hy
  have HV := Aside0.mk h
  have HH := Aside0.mk hh
  have HW2 := Aside0.mk (below_alloc (Below.refl w.heap.size w) (.cells (litC dg (.slice A c.secs.length a) (.slice B c.justs.length b)) 26))
  have HB := Aside0.mk (Below.refl (w.alloc (.cells (litC dg (.slice A c.secs.length a) (.slice B c.justs.length b)) 26)).heap.size (w.alloc (.cells (litC dg (.slice A c.secs.length a) (.slice B c.justs.length b)) 26)))
  have HX := Aside0.mk (box_block (litC dg (.slice A c.secs.length a) (.slice B c.justs.length b)) w)
  have HZ := Aside0.mk (size26 (cs := (litC dg (.slice A c.secs.length a) (.slice B c.justs.length b))) rfl)
  clear h hh
  go_enter Try.func5, Try.ntmps5
  go_wp2_with (first | ((with_reducible refine gate_callee (f := 8) rfl ?_); refine goesL_ (some 9) rfl rfl Try.func8 (by kernel_rfl) rfl #[] rfl (by (try simp only [List.map_toArray, List.map_cons, List.map_nil]); first | done | rfl) ?_; (with_reducible refine (awake_any _).mono ?_); rintro e w1 ⟨rfl, hb⟩; refine ⟨_, rfl, ?_⟩; have n_ := Aside0.mk (below_step HB.out hb); clear HB; have HB := n_; clear n_ hb) | ((with_reducible refine gate_dst (N := 12) rfl ?_); refine gate_guard (by rfl) ?_; refine wpList_load_row rfl 26 (.tmp 1) rfl w.heap.size rfl 26 (litC dg (.slice A c.secs.length a) (.slice B c.justs.length b)) (0, 0) _ (HX.out _ HB.out) Try.underlying26 rfl HZ.out ?_) | (go_at_call 9; (with_reducible refine (few_is c _ A B a b true _ (HV.out.below (below_step HW2.out HB.out)) HH.out HF.out).mono ?_); rintro e w2 ⟨rfl, hb⟩; have n_ := Aside0.mk (below_step HB.out hb); clear HB; have HB := n_; clear n_ hb))
  refine start_any (n := 8) (S := fun w' => Below (w.alloc (.cells (litC dg (.slice A c.secs.length a) (.slice B c.justs.length b)) 26)).heap.size (w.alloc (.cells (litC dg (.slice A c.secs.length a) (.slice B c.justs.length b)) 26)) w') (ds := []) #[false, false, false, false, false, false, false, false] (by kernel_rfl) rfl rfl (below_drew1 HB.out) (fun wd hHeld => ?_); refine with_tabW cq.tab3 cq.bits3 (fun HT_ HW_ => ?_)
  have HP := Aside0.mk (Pst.start (w2 := (w.alloc (.cells (litC dg (.slice A c.secs.length a) (.slice B c.justs.length b)) 26))) c hHeld)
  clear HB
  refine take_ (i := 0) (N := some 17) (v := ?_) (a' := ?_) #[true, false, false, false, false, false, false, false] rfl rfl (take_ofW HT_.out HW_.out (by kernel_rfl)) (fun _ _ _ h => h) (Or.inl ⟨by rfl, ?_⟩) hHeld ?_ ?_
  rotate_left
  · intro w' hw'
    refine Eq.trans (exec_load 26 (.tmp 1) rfl w.heap.size 0 rfl _ (run_loadVar_row w' w.heap.size 26 26 (litC dg (.slice A c.secs.length a) (.slice B c.justs.length b)) (0, 0) _ (HX.out w' hw') Try.underlying26 rfl HZ.out)) ?_
    with_reducible rfl
  rotate_left
  · simp only [Act.put, List.setIfInBounds_toArray, List.set_cons_zero, List.set_cons_succ, i64_w, i32_w]
    rfl
  refine take_ (i := 2) (N := some 19) (v := ?_) (a' := ?_) #[true, false, true, false, false, false, false, false] rfl rfl (take_ofW HT_.out HW_.out (by kernel_rfl)) (fun _ _ _ h => h) (Or.inl ⟨by rfl, ?_⟩) hHeld ?_ ?_
  rotate_left
  · intro w' hw'
    refine Eq.trans (exec_load 26 (.tmp 1) rfl w.heap.size 0 rfl _ (run_loadVar_row w' w.heap.size 26 26 (litC dg (.slice A c.secs.length a) (.slice B c.justs.length b)) (0, 0) _ (HX.out w' hw') Try.underlying26 rfl HZ.out)) ?_
    with_reducible rfl
  rotate_left
  · simp only [Act.put, List.setIfInBounds_toArray, List.set_cons_zero, List.set_cons_succ, i64_w, i32_w]
    rfl
  refine join_ (σ := (Option Addr × Nat) × (Option Addr × Nat) × (Option Addr × Nat) × (Option Addr × Nat) × Nat × Nat × Nat × Nat) 2 #[true, true, true, true, true, true, false, false] (fun s => [(18, .agg (litC dg (.slice s.1.1 c.secs.length s.1.2) (.slice s.2.1.1 c.justs.length s.2.1.2))), (20, .agg (litC dg (.slice s.2.2.1.1 c.secs.length s.2.2.1.2) (.slice s.2.2.2.1.1 c.justs.length s.2.2.2.1.2))), (3, .pointer (some ⟨s.2.2.2.2.1, 0, none⟩)), (4, .pointer (some ⟨s.2.2.2.2.2.1, 0, none⟩))]) (fun s w' => Aside0 (Pst (w.alloc (.cells (litC dg (.slice A c.secs.length a) (.slice B c.justs.length b)) 26)) c [s.2.2.2.2.1, s.2.2.2.2.2.1] (some (.slice s.1.1 c.secs.length s.1.2, .slice s.2.1.1 c.justs.length s.2.1.2, s.2.2.2.2.2.2.1, s.2.2.2.2.2.2.2)) (some (.slice s.2.2.1.1 c.secs.length s.2.2.1.2, .slice s.2.2.2.1.1 c.justs.length s.2.2.2.1.2)) w')) (fun s wj HF => ?_) (fun hcont => ?_)
  rotate_left
  · refine three_ (i := 1) (j := 4) (k := 5) (Ni := some 18) (Nj := some 3) (Nk := some 4) #[true, true, true, false, false, false, false, false] #[true, false, true, false, true, false, false, false] #[true, false, true, false, false, true, false, false] rfl rfl rfl rfl rfl rfl (three_of HT_.out (by kernel_rfl)) (by decide) (by decide) (by decide) (fun K hK => ?_) (fun K hK => ?_) (fun K hK => ?_)
    · refine goes_ Try.func12 (by kernel_rfl) rfl #[.agg (litC dg (.slice A c.secs.length a) (.slice B c.justs.length b))] (by rfl) rfl rfl (by (try simp only [List.map_toArray, List.map_cons, List.map_nil]); first | done | rfl) ?_
      with_reducible refine (copy_is c dg A B a b _ (HV.out.below (below_step HW2.out HP.out.hb)) HF.out).mono ?_
      rintro e x1 ⟨AS, cS, AJ, cJ, rfl, hs, hj, hb⟩
      refine ⟨_, rfl, ?_⟩
      have n_ := Aside0.mk (HP.out.call1 hb hs hj)
      clear HP hs hj hb
      have HP := n_
      clear n_
      refine hK.out _ _ HP.out.hb (fun hHeld => ?_)
      clear hK K
      refine norm_ (a' := ?_) ?_ ?_
      rotate_left
      · show Act.put _ (some 18) _ = _
        simp only [Act.put, List.setIfInBounds_toArray, List.set_cons_zero, List.set_cons_succ, i64_w, i32_w]
        rfl
      refine three_ (i := 3) (j := 4) (k := 5) (Ni := some 20) (Nj := some 3) (Nk := some 4) #[true, true, true, true, false, false, false, false] #[true, true, true, false, true, false, false, false] #[true, true, true, false, false, true, false, false] rfl rfl rfl rfl rfl rfl (three_of HT_.out (by kernel_rfl)) (by decide) (by decide) (by decide) (fun K hK => ?_) (fun K hK => ?_) (fun K hK => ?_)
      · refine goes_ Try.func12 (by kernel_rfl) rfl #[.agg (litC dg (.slice A c.secs.length a) (.slice B c.justs.length b))] (by rfl) rfl rfl (by (try simp only [List.map_toArray, List.map_cons, List.map_nil]); first | done | rfl) ?_
        with_reducible refine (copy_is c dg A B a b _ (HV.out.below (below_step HW2.out HP.out.hb)) HF.out).mono ?_
        rintro e x3 ⟨AS1, cS1, AJ1, cJ1, rfl, hs, hj, hb⟩
        refine ⟨_, rfl, ?_⟩
        have n_ := Aside0.mk (HP.out.call2 hb hs hj)
        clear HP hs hj hb
        have HP := n_
        clear n_
        refine hK.out _ _ HP.out.hb (fun hHeld => ?_)
        clear hK K
        refine norm_ (a' := ?_) ?_ ?_
        rotate_left
        · show Act.put _ (some 20) _ = _
          simp only [Act.put, List.setIfInBounds_toArray, List.set_cons_zero, List.set_cons_succ, i64_w, i32_w]
          rfl
        refine two_ (i := 4) (j := 5) (Ni := some 3) (Nj := some 4) #[true, true, true, true, true, false, false, false] #[true, true, true, true, false, true, false, false] rfl rfl rfl rfl (two_of HT_.out (by kernel_rfl)) (by decide) (by decide) (fun K hK => ?_) (fun K hK => ?_)
        · have hal := HP.out.alloc
          refine value_ (w1 := ?_) (v := ?_) (by rfl) rfl ?_ ?_
          rotate_left 2
          · go_simp
            constructor
            · rfl
            · rfl
          have n_ := Aside0.mk hal
          clear HP hal
          have HP := n_
          clear n_
          refine hK.out _ _ HP.out.hb (fun hHeld => ?_)
          clear hK K
          refine norm_ (a' := ?_) ?_ ?_
          rotate_left
          · show Act.put _ (some 3) _ = _
            simp only [Act.put, List.setIfInBounds_toArray, List.set_cons_zero, List.set_cons_succ, i64_w, i32_w]
            rfl
          refine one_ (i := 5) (N := some 4) #[true, true, true, true, true, true, false, false] rfl rfl (one_of HT_.out (by kernel_rfl)) (by decide) (fun K hK => ?_)
          have hal := HP.out.alloc
          refine value_ (w1 := ?_) (v := ?_) (by rfl) rfl ?_ ?_
          rotate_left 2
          · go_simp
            constructor
            · rfl
            · rfl
          have n_ := Aside0.mk hal
          clear HP hal
          have HP := n_
          clear n_
          refine hK.out _ _ HP.out.hb (fun hHeld => ?_)
          clear hK K
          refine norm_ (a' := ?_) ?_ ?_
          rotate_left
          · show Act.put _ (some 4) _ = _
            simp only [Act.put, List.setIfInBounds_toArray, List.set_cons_zero, List.set_cons_succ, i64_w, i32_w]
            rfl
          exact hcont ((AS, cS), (AJ, cJ), (AS1, cS1), (AJ1, cJ1), _, _, _, _) _ ⟨HP.out.swap.re (by simp)⟩
        · have hal := HP.out.alloc
          refine value_ (w1 := ?_) (v := ?_) (by rfl) rfl ?_ ?_
          rotate_left 2
          · go_simp
            constructor
            · rfl
            · rfl
          have n_ := Aside0.mk hal
          clear HP hal
          have HP := n_
          clear n_
          refine hK.out _ _ HP.out.hb (fun hHeld => ?_)
          clear hK K
          refine norm_ (a' := ?_) ?_ ?_
          rotate_left
          · show Act.put _ (some 4) _ = _
            simp only [Act.put, List.setIfInBounds_toArray, List.set_cons_zero, List.set_cons_succ, i64_w, i32_w]
            rfl
          refine one_ (i := 4) (N := some 3) #[true, true, true, true, true, true, false, false] rfl rfl (one_of HT_.out (by kernel_rfl)) (by decide) (fun K hK => ?_)
          have hal := HP.out.alloc
          refine value_ (w1 := ?_) (v := ?_) (by rfl) rfl ?_ ?_
          rotate_left 2
          · go_simp
            constructor
            · rfl
            · rfl
          have n_ := Aside0.mk hal
          clear HP hal
          have HP := n_
          clear n_
          refine hK.out _ _ HP.out.hb (fun hHeld => ?_)
          clear hK K
          refine norm_ (a' := ?_) ?_ ?_
          rotate_left
          · show Act.put _ (some 3) _ = _
            simp only [Act.put, List.setIfInBounds_toArray, List.set_cons_zero, List.set_cons_succ, i64_w, i32_w]
            rfl
          exact hcont ((AS, cS), (AJ, cJ), (AS1, cS1), (AJ1, cJ1), _, _, _, _) _ ⟨HP.out.re (by simp)⟩
      · have hal := HP.out.alloc
        refine value_ (w1 := ?_) (v := ?_) (by rfl) rfl ?_ ?_
        rotate_left 2
        · go_simp
          constructor
          · rfl
          · rfl
        have n_ := Aside0.mk hal
        clear HP hal
        have HP := n_
        clear n_
        refine hK.out _ _ HP.out.hb (fun hHeld => ?_)
        clear hK K
        refine norm_ (a' := ?_) ?_ ?_
        rotate_left
        · show Act.put _ (some 3) _ = _
          simp only [Act.put, List.setIfInBounds_toArray, List.set_cons_zero, List.set_cons_succ, i64_w, i32_w]
          rfl
        refine two_ (i := 3) (j := 5) (Ni := some 20) (Nj := some 4) #[true, true, true, true, true, false, false, false] #[true, true, true, false, true, true, false, false] rfl rfl rfl rfl (two_of HT_.out (by kernel_rfl)) (by decide) (by decide) (fun K hK => ?_) (fun K hK => ?_)
        · refine goes_ Try.func12 (by kernel_rfl) rfl #[.agg (litC dg (.slice A c.secs.length a) (.slice B c.justs.length b))] (by rfl) rfl rfl (by (try simp only [List.map_toArray, List.map_cons, List.map_nil]); first | done | rfl) ?_
          with_reducible refine (copy_is c dg A B a b _ (HV.out.below (below_step HW2.out HP.out.hb)) HF.out).mono ?_
          rintro e x3 ⟨AS1, cS1, AJ1, cJ1, rfl, hs, hj, hb⟩
          refine ⟨_, rfl, ?_⟩
          have n_ := Aside0.mk (HP.out.call2 hb hs hj)
          clear HP hs hj hb
          have HP := n_
          clear n_
          refine hK.out _ _ HP.out.hb (fun hHeld => ?_)
          clear hK K
          refine norm_ (a' := ?_) ?_ ?_
          rotate_left
          · show Act.put _ (some 20) _ = _
            simp only [Act.put, List.setIfInBounds_toArray, List.set_cons_zero, List.set_cons_succ, i64_w, i32_w]
            rfl
          refine one_ (i := 5) (N := some 4) #[true, true, true, true, true, true, false, false] rfl rfl (one_of HT_.out (by kernel_rfl)) (by decide) (fun K hK => ?_)
          have hal := HP.out.alloc
          refine value_ (w1 := ?_) (v := ?_) (by rfl) rfl ?_ ?_
          rotate_left 2
          · go_simp
            constructor
            · rfl
            · rfl
          have n_ := Aside0.mk hal
          clear HP hal
          have HP := n_
          clear n_
          refine hK.out _ _ HP.out.hb (fun hHeld => ?_)
          clear hK K
          refine norm_ (a' := ?_) ?_ ?_
          rotate_left
          · show Act.put _ (some 4) _ = _
            simp only [Act.put, List.setIfInBounds_toArray, List.set_cons_zero, List.set_cons_succ, i64_w, i32_w]
            rfl
          exact hcont ((AS, cS), (AJ, cJ), (AS1, cS1), (AJ1, cJ1), _, _, _, _) _ ⟨HP.out.swap.re (by simp)⟩
        · have hal := HP.out.alloc
          refine value_ (w1 := ?_) (v := ?_) (by rfl) rfl ?_ ?_
          rotate_left 2
          · go_simp
            constructor
            · rfl
            · rfl
          have n_ := Aside0.mk hal
          clear HP hal
          have HP := n_
          clear n_
          refine hK.out _ _ HP.out.hb (fun hHeld => ?_)
          clear hK K
          refine norm_ (a' := ?_) ?_ ?_
          rotate_left
          · show Act.put _ (some 4) _ = _
            simp only [Act.put, List.setIfInBounds_toArray, List.set_cons_zero, List.set_cons_succ, i64_w, i32_w]
            rfl
          refine one_ (i := 3) (N := some 20) #[true, true, true, true, true, true, false, false] rfl rfl (one_of HT_.out (by kernel_rfl)) (by decide) (fun K hK => ?_)
          refine goes_ Try.func12 (by kernel_rfl) rfl #[.agg (litC dg (.slice A c.secs.length a) (.slice B c.justs.length b))] (by rfl) rfl rfl (by (try simp only [List.map_toArray, List.map_cons, List.map_nil]); first | done | rfl) ?_
          with_reducible refine (copy_is c dg A B a b _ (HV.out.below (below_step HW2.out HP.out.hb)) HF.out).mono ?_
          rintro e x3 ⟨AS1, cS1, AJ1, cJ1, rfl, hs, hj, hb⟩
          refine ⟨_, rfl, ?_⟩
          have n_ := Aside0.mk (HP.out.call2 hb hs hj)
          clear HP hs hj hb
          have HP := n_
          clear n_
          refine hK.out _ _ HP.out.hb (fun hHeld => ?_)
          clear hK K
          refine norm_ (a' := ?_) ?_ ?_
          rotate_left
          · show Act.put _ (some 20) _ = _
            simp only [Act.put, List.setIfInBounds_toArray, List.set_cons_zero, List.set_cons_succ, i64_w, i32_w]
            rfl
          exact hcont ((AS, cS), (AJ, cJ), (AS1, cS1), (AJ1, cJ1), _, _, _, _) _ ⟨HP.out.swap.re (by simp)⟩
      · have hal := HP.out.alloc
        refine value_ (w1 := ?_) (v := ?_) (by rfl) rfl ?_ ?_
        rotate_left 2
        · go_simp
          constructor
          · rfl
          · rfl
        have n_ := Aside0.mk hal
        clear HP hal
        have HP := n_
        clear n_
        refine hK.out _ _ HP.out.hb (fun hHeld => ?_)
        clear hK K
        refine norm_ (a' := ?_) ?_ ?_
        rotate_left
        · show Act.put _ (some 4) _ = _
          simp only [Act.put, List.setIfInBounds_toArray, List.set_cons_zero, List.set_cons_succ, i64_w, i32_w]
          rfl
        refine two_ (i := 3) (j := 4) (Ni := some 20) (Nj := some 3) #[true, true, true, true, false, true, false, false] #[true, true, true, false, true, true, false, false] rfl rfl rfl rfl (two_of HT_.out (by kernel_rfl)) (by decide) (by decide) (fun K hK => ?_) (fun K hK => ?_)
        · refine goes_ Try.func12 (by kernel_rfl) rfl #[.agg (litC dg (.slice A c.secs.length a) (.slice B c.justs.length b))] (by rfl) rfl rfl (by (try simp only [List.map_toArray, List.map_cons, List.map_nil]); first | done | rfl) ?_
          with_reducible refine (copy_is c dg A B a b _ (HV.out.below (below_step HW2.out HP.out.hb)) HF.out).mono ?_
          rintro e x3 ⟨AS1, cS1, AJ1, cJ1, rfl, hs, hj, hb⟩
          refine ⟨_, rfl, ?_⟩
          have n_ := Aside0.mk (HP.out.call2 hb hs hj)
          clear HP hs hj hb
          have HP := n_
          clear n_
          refine hK.out _ _ HP.out.hb (fun hHeld => ?_)
          clear hK K
          refine norm_ (a' := ?_) ?_ ?_
          rotate_left
          · show Act.put _ (some 20) _ = _
            simp only [Act.put, List.setIfInBounds_toArray, List.set_cons_zero, List.set_cons_succ, i64_w, i32_w]
            rfl
          refine one_ (i := 4) (N := some 3) #[true, true, true, true, true, true, false, false] rfl rfl (one_of HT_.out (by kernel_rfl)) (by decide) (fun K hK => ?_)
          have hal := HP.out.alloc
          refine value_ (w1 := ?_) (v := ?_) (by rfl) rfl ?_ ?_
          rotate_left 2
          · go_simp
            constructor
            · rfl
            · rfl
          have n_ := Aside0.mk hal
          clear HP hal
          have HP := n_
          clear n_
          refine hK.out _ _ HP.out.hb (fun hHeld => ?_)
          clear hK K
          refine norm_ (a' := ?_) ?_ ?_
          rotate_left
          · show Act.put _ (some 3) _ = _
            simp only [Act.put, List.setIfInBounds_toArray, List.set_cons_zero, List.set_cons_succ, i64_w, i32_w]
            rfl
          exact hcont ((AS, cS), (AJ, cJ), (AS1, cS1), (AJ1, cJ1), _, _, _, _) _ ⟨HP.out.re (by simp)⟩
        · have hal := HP.out.alloc
          refine value_ (w1 := ?_) (v := ?_) (by rfl) rfl ?_ ?_
          rotate_left 2
          · go_simp
            constructor
            · rfl
            · rfl
          have n_ := Aside0.mk hal
          clear HP hal
          have HP := n_
          clear n_
          refine hK.out _ _ HP.out.hb (fun hHeld => ?_)
          clear hK K
          refine norm_ (a' := ?_) ?_ ?_
          rotate_left
          · show Act.put _ (some 3) _ = _
            simp only [Act.put, List.setIfInBounds_toArray, List.set_cons_zero, List.set_cons_succ, i64_w, i32_w]
            rfl
          refine one_ (i := 3) (N := some 20) #[true, true, true, true, true, true, false, false] rfl rfl (one_of HT_.out (by kernel_rfl)) (by decide) (fun K hK => ?_)
          refine goes_ Try.func12 (by kernel_rfl) rfl #[.agg (litC dg (.slice A c.secs.length a) (.slice B c.justs.length b))] (by rfl) rfl rfl (by (try simp only [List.map_toArray, List.map_cons, List.map_nil]); first | done | rfl) ?_
          with_reducible refine (copy_is c dg A B a b _ (HV.out.below (below_step HW2.out HP.out.hb)) HF.out).mono ?_
          rintro e x3 ⟨AS1, cS1, AJ1, cJ1, rfl, hs, hj, hb⟩
          refine ⟨_, rfl, ?_⟩
          have n_ := Aside0.mk (HP.out.call2 hb hs hj)
          clear HP hs hj hb
          have HP := n_
          clear n_
          refine hK.out _ _ HP.out.hb (fun hHeld => ?_)
          clear hK K
          refine norm_ (a' := ?_) ?_ ?_
          rotate_left
          · show Act.put _ (some 20) _ = _
            simp only [Act.put, List.setIfInBounds_toArray, List.set_cons_zero, List.set_cons_succ, i64_w, i32_w]
            rfl
          exact hcont ((AS, cS), (AJ, cJ), (AS1, cS1), (AJ1, cJ1), _, _, _, _) _ ⟨HP.out.re (by simp)⟩
    · have hal := HP.out.alloc
      refine value_ (w1 := ?_) (v := ?_) (by rfl) rfl ?_ ?_
      rotate_left 2
      · go_simp
        constructor
        · rfl
        · rfl
      have n_ := Aside0.mk hal
      clear HP hal
      have HP := n_
      clear n_
      refine hK.out _ _ HP.out.hb (fun hHeld => ?_)
      clear hK K
      refine norm_ (a' := ?_) ?_ ?_
      rotate_left
      · show Act.put _ (some 3) _ = _
        simp only [Act.put, List.setIfInBounds_toArray, List.set_cons_zero, List.set_cons_succ, i64_w, i32_w]
        rfl
      refine two_ (i := 1) (j := 5) (Ni := some 18) (Nj := some 4) #[true, true, true, false, true, false, false, false] #[true, false, true, false, true, true, false, false] rfl rfl rfl rfl (two_of HT_.out (by kernel_rfl)) (by decide) (by decide) (fun K hK => ?_) (fun K hK => ?_)
      · refine goes_ Try.func12 (by kernel_rfl) rfl #[.agg (litC dg (.slice A c.secs.length a) (.slice B c.justs.length b))] (by rfl) rfl rfl (by (try simp only [List.map_toArray, List.map_cons, List.map_nil]); first | done | rfl) ?_
        with_reducible refine (copy_is c dg A B a b _ (HV.out.below (below_step HW2.out HP.out.hb)) HF.out).mono ?_
        rintro e x1 ⟨AS, cS, AJ, cJ, rfl, hs, hj, hb⟩
        refine ⟨_, rfl, ?_⟩
        have n_ := Aside0.mk (HP.out.call1 hb hs hj)
        clear HP hs hj hb
        have HP := n_
        clear n_
        refine hK.out _ _ HP.out.hb (fun hHeld => ?_)
        clear hK K
        refine norm_ (a' := ?_) ?_ ?_
        rotate_left
        · show Act.put _ (some 18) _ = _
          simp only [Act.put, List.setIfInBounds_toArray, List.set_cons_zero, List.set_cons_succ, i64_w, i32_w]
          rfl
        refine two_ (i := 3) (j := 5) (Ni := some 20) (Nj := some 4) #[true, true, true, true, true, false, false, false] #[true, true, true, false, true, true, false, false] rfl rfl rfl rfl (two_of HT_.out (by kernel_rfl)) (by decide) (by decide) (fun K hK => ?_) (fun K hK => ?_)
        · refine goes_ Try.func12 (by kernel_rfl) rfl #[.agg (litC dg (.slice A c.secs.length a) (.slice B c.justs.length b))] (by rfl) rfl rfl (by (try simp only [List.map_toArray, List.map_cons, List.map_nil]); first | done | rfl) ?_
          with_reducible refine (copy_is c dg A B a b _ (HV.out.below (below_step HW2.out HP.out.hb)) HF.out).mono ?_
          rintro e x3 ⟨AS1, cS1, AJ1, cJ1, rfl, hs, hj, hb⟩
          refine ⟨_, rfl, ?_⟩
          have n_ := Aside0.mk (HP.out.call2 hb hs hj)
          clear HP hs hj hb
          have HP := n_
          clear n_
          refine hK.out _ _ HP.out.hb (fun hHeld => ?_)
          clear hK K
          refine norm_ (a' := ?_) ?_ ?_
          rotate_left
          · show Act.put _ (some 20) _ = _
            simp only [Act.put, List.setIfInBounds_toArray, List.set_cons_zero, List.set_cons_succ, i64_w, i32_w]
            rfl
          refine one_ (i := 5) (N := some 4) #[true, true, true, true, true, true, false, false] rfl rfl (one_of HT_.out (by kernel_rfl)) (by decide) (fun K hK => ?_)
          have hal := HP.out.alloc
          refine value_ (w1 := ?_) (v := ?_) (by rfl) rfl ?_ ?_
          rotate_left 2
          · go_simp
            constructor
            · rfl
            · rfl
          have n_ := Aside0.mk hal
          clear HP hal
          have HP := n_
          clear n_
          refine hK.out _ _ HP.out.hb (fun hHeld => ?_)
          clear hK K
          refine norm_ (a' := ?_) ?_ ?_
          rotate_left
          · show Act.put _ (some 4) _ = _
            simp only [Act.put, List.setIfInBounds_toArray, List.set_cons_zero, List.set_cons_succ, i64_w, i32_w]
            rfl
          exact hcont ((AS, cS), (AJ, cJ), (AS1, cS1), (AJ1, cJ1), _, _, _, _) _ ⟨HP.out.swap.re (by simp)⟩
        · have hal := HP.out.alloc
          refine value_ (w1 := ?_) (v := ?_) (by rfl) rfl ?_ ?_
          rotate_left 2
          · go_simp
            constructor
            · rfl
            · rfl
          have n_ := Aside0.mk hal
          clear HP hal
          have HP := n_
          clear n_
          refine hK.out _ _ HP.out.hb (fun hHeld => ?_)
          clear hK K
          refine norm_ (a' := ?_) ?_ ?_
          rotate_left
          · show Act.put _ (some 4) _ = _
            simp only [Act.put, List.setIfInBounds_toArray, List.set_cons_zero, List.set_cons_succ, i64_w, i32_w]
            rfl
          refine one_ (i := 3) (N := some 20) #[true, true, true, true, true, true, false, false] rfl rfl (one_of HT_.out (by kernel_rfl)) (by decide) (fun K hK => ?_)
          refine goes_ Try.func12 (by kernel_rfl) rfl #[.agg (litC dg (.slice A c.secs.length a) (.slice B c.justs.length b))] (by rfl) rfl rfl (by (try simp only [List.map_toArray, List.map_cons, List.map_nil]); first | done | rfl) ?_
          with_reducible refine (copy_is c dg A B a b _ (HV.out.below (below_step HW2.out HP.out.hb)) HF.out).mono ?_
          rintro e x3 ⟨AS1, cS1, AJ1, cJ1, rfl, hs, hj, hb⟩
          refine ⟨_, rfl, ?_⟩
          have n_ := Aside0.mk (HP.out.call2 hb hs hj)
          clear HP hs hj hb
          have HP := n_
          clear n_
          refine hK.out _ _ HP.out.hb (fun hHeld => ?_)
          clear hK K
          refine norm_ (a' := ?_) ?_ ?_
          rotate_left
          · show Act.put _ (some 20) _ = _
            simp only [Act.put, List.setIfInBounds_toArray, List.set_cons_zero, List.set_cons_succ, i64_w, i32_w]
            rfl
          exact hcont ((AS, cS), (AJ, cJ), (AS1, cS1), (AJ1, cJ1), _, _, _, _) _ ⟨HP.out.swap.re (by simp)⟩
      · have hal := HP.out.alloc
        refine value_ (w1 := ?_) (v := ?_) (by rfl) rfl ?_ ?_
        rotate_left 2
        · go_simp
          constructor
          · rfl
          · rfl
        have n_ := Aside0.mk hal
        clear HP hal
        have HP := n_
        clear n_
        refine hK.out _ _ HP.out.hb (fun hHeld => ?_)
        clear hK K
        refine norm_ (a' := ?_) ?_ ?_
        rotate_left
        · show Act.put _ (some 4) _ = _
          simp only [Act.put, List.setIfInBounds_toArray, List.set_cons_zero, List.set_cons_succ, i64_w, i32_w]
          rfl
        refine one_ (i := 1) (N := some 18) #[true, true, true, false, true, true, false, false] rfl rfl (one_of HT_.out (by kernel_rfl)) (by decide) (fun K hK => ?_)
        refine goes_ Try.func12 (by kernel_rfl) rfl #[.agg (litC dg (.slice A c.secs.length a) (.slice B c.justs.length b))] (by rfl) rfl rfl (by (try simp only [List.map_toArray, List.map_cons, List.map_nil]); first | done | rfl) ?_
        with_reducible refine (copy_is c dg A B a b _ (HV.out.below (below_step HW2.out HP.out.hb)) HF.out).mono ?_
        rintro e x1 ⟨AS, cS, AJ, cJ, rfl, hs, hj, hb⟩
        refine ⟨_, rfl, ?_⟩
        have n_ := Aside0.mk (HP.out.call1 hb hs hj)
        clear HP hs hj hb
        have HP := n_
        clear n_
        refine hK.out _ _ HP.out.hb (fun hHeld => ?_)
        clear hK K
        refine norm_ (a' := ?_) ?_ ?_
        rotate_left
        · show Act.put _ (some 18) _ = _
          simp only [Act.put, List.setIfInBounds_toArray, List.set_cons_zero, List.set_cons_succ, i64_w, i32_w]
          rfl
        refine one_ (i := 3) (N := some 20) #[true, true, true, true, true, true, false, false] rfl rfl (one_of HT_.out (by kernel_rfl)) (by decide) (fun K hK => ?_)
        refine goes_ Try.func12 (by kernel_rfl) rfl #[.agg (litC dg (.slice A c.secs.length a) (.slice B c.justs.length b))] (by rfl) rfl rfl (by (try simp only [List.map_toArray, List.map_cons, List.map_nil]); first | done | rfl) ?_
        with_reducible refine (copy_is c dg A B a b _ (HV.out.below (below_step HW2.out HP.out.hb)) HF.out).mono ?_
        rintro e x3 ⟨AS1, cS1, AJ1, cJ1, rfl, hs, hj, hb⟩
        refine ⟨_, rfl, ?_⟩
        have n_ := Aside0.mk (HP.out.call2 hb hs hj)
        clear HP hs hj hb
        have HP := n_
        clear n_
        refine hK.out _ _ HP.out.hb (fun hHeld => ?_)
        clear hK K
        refine norm_ (a' := ?_) ?_ ?_
        rotate_left
        · show Act.put _ (some 20) _ = _
          simp only [Act.put, List.setIfInBounds_toArray, List.set_cons_zero, List.set_cons_succ, i64_w, i32_w]
          rfl
        exact hcont ((AS, cS), (AJ, cJ), (AS1, cS1), (AJ1, cJ1), _, _, _, _) _ ⟨HP.out.swap.re (by simp)⟩
    · have hal := HP.out.alloc
      refine value_ (w1 := ?_) (v := ?_) (by rfl) rfl ?_ ?_
      rotate_left 2
      · go_simp
        constructor
        · rfl
        · rfl
      have n_ := Aside0.mk hal
      clear HP hal
      have HP := n_
      clear n_
      refine hK.out _ _ HP.out.hb (fun hHeld => ?_)
      clear hK K
      refine norm_ (a' := ?_) ?_ ?_
      rotate_left
      · show Act.put _ (some 4) _ = _
        simp only [Act.put, List.setIfInBounds_toArray, List.set_cons_zero, List.set_cons_succ, i64_w, i32_w]
        rfl
      refine two_ (i := 1) (j := 4) (Ni := some 18) (Nj := some 3) #[true, true, true, false, false, true, false, false] #[true, false, true, false, true, true, false, false] rfl rfl rfl rfl (two_of HT_.out (by kernel_rfl)) (by decide) (by decide) (fun K hK => ?_) (fun K hK => ?_)
      · refine goes_ Try.func12 (by kernel_rfl) rfl #[.agg (litC dg (.slice A c.secs.length a) (.slice B c.justs.length b))] (by rfl) rfl rfl (by (try simp only [List.map_toArray, List.map_cons, List.map_nil]); first | done | rfl) ?_
        with_reducible refine (copy_is c dg A B a b _ (HV.out.below (below_step HW2.out HP.out.hb)) HF.out).mono ?_
        rintro e x1 ⟨AS, cS, AJ, cJ, rfl, hs, hj, hb⟩
        refine ⟨_, rfl, ?_⟩
        have n_ := Aside0.mk (HP.out.call1 hb hs hj)
        clear HP hs hj hb
        have HP := n_
        clear n_
        refine hK.out _ _ HP.out.hb (fun hHeld => ?_)
        clear hK K
        refine norm_ (a' := ?_) ?_ ?_
        rotate_left
        · show Act.put _ (some 18) _ = _
          simp only [Act.put, List.setIfInBounds_toArray, List.set_cons_zero, List.set_cons_succ, i64_w, i32_w]
          rfl
        refine two_ (i := 3) (j := 4) (Ni := some 20) (Nj := some 3) #[true, true, true, true, false, true, false, false] #[true, true, true, false, true, true, false, false] rfl rfl rfl rfl (two_of HT_.out (by kernel_rfl)) (by decide) (by decide) (fun K hK => ?_) (fun K hK => ?_)
        · refine goes_ Try.func12 (by kernel_rfl) rfl #[.agg (litC dg (.slice A c.secs.length a) (.slice B c.justs.length b))] (by rfl) rfl rfl (by (try simp only [List.map_toArray, List.map_cons, List.map_nil]); first | done | rfl) ?_
          with_reducible refine (copy_is c dg A B a b _ (HV.out.below (below_step HW2.out HP.out.hb)) HF.out).mono ?_
          rintro e x3 ⟨AS1, cS1, AJ1, cJ1, rfl, hs, hj, hb⟩
          refine ⟨_, rfl, ?_⟩
          have n_ := Aside0.mk (HP.out.call2 hb hs hj)
          clear HP hs hj hb
          have HP := n_
          clear n_
          refine hK.out _ _ HP.out.hb (fun hHeld => ?_)
          clear hK K
          refine norm_ (a' := ?_) ?_ ?_
          rotate_left
          · show Act.put _ (some 20) _ = _
            simp only [Act.put, List.setIfInBounds_toArray, List.set_cons_zero, List.set_cons_succ, i64_w, i32_w]
            rfl
          refine one_ (i := 4) (N := some 3) #[true, true, true, true, true, true, false, false] rfl rfl (one_of HT_.out (by kernel_rfl)) (by decide) (fun K hK => ?_)
          have hal := HP.out.alloc
          refine value_ (w1 := ?_) (v := ?_) (by rfl) rfl ?_ ?_
          rotate_left 2
          · go_simp
            constructor
            · rfl
            · rfl
          have n_ := Aside0.mk hal
          clear HP hal
          have HP := n_
          clear n_
          refine hK.out _ _ HP.out.hb (fun hHeld => ?_)
          clear hK K
          refine norm_ (a' := ?_) ?_ ?_
          rotate_left
          · show Act.put _ (some 3) _ = _
            simp only [Act.put, List.setIfInBounds_toArray, List.set_cons_zero, List.set_cons_succ, i64_w, i32_w]
            rfl
          exact hcont ((AS, cS), (AJ, cJ), (AS1, cS1), (AJ1, cJ1), _, _, _, _) _ ⟨HP.out.re (by simp)⟩
        · have hal := HP.out.alloc
          refine value_ (w1 := ?_) (v := ?_) (by rfl) rfl ?_ ?_
          rotate_left 2
          · go_simp
            constructor
            · rfl
            · rfl
          have n_ := Aside0.mk hal
          clear HP hal
          have HP := n_
          clear n_
          refine hK.out _ _ HP.out.hb (fun hHeld => ?_)
          clear hK K
          refine norm_ (a' := ?_) ?_ ?_
          rotate_left
          · show Act.put _ (some 3) _ = _
            simp only [Act.put, List.setIfInBounds_toArray, List.set_cons_zero, List.set_cons_succ, i64_w, i32_w]
            rfl
          refine one_ (i := 3) (N := some 20) #[true, true, true, true, true, true, false, false] rfl rfl (one_of HT_.out (by kernel_rfl)) (by decide) (fun K hK => ?_)
          refine goes_ Try.func12 (by kernel_rfl) rfl #[.agg (litC dg (.slice A c.secs.length a) (.slice B c.justs.length b))] (by rfl) rfl rfl (by (try simp only [List.map_toArray, List.map_cons, List.map_nil]); first | done | rfl) ?_
          with_reducible refine (copy_is c dg A B a b _ (HV.out.below (below_step HW2.out HP.out.hb)) HF.out).mono ?_
          rintro e x3 ⟨AS1, cS1, AJ1, cJ1, rfl, hs, hj, hb⟩
          refine ⟨_, rfl, ?_⟩
          have n_ := Aside0.mk (HP.out.call2 hb hs hj)
          clear HP hs hj hb
          have HP := n_
          clear n_
          refine hK.out _ _ HP.out.hb (fun hHeld => ?_)
          clear hK K
          refine norm_ (a' := ?_) ?_ ?_
          rotate_left
          · show Act.put _ (some 20) _ = _
            simp only [Act.put, List.setIfInBounds_toArray, List.set_cons_zero, List.set_cons_succ, i64_w, i32_w]
            rfl
          exact hcont ((AS, cS), (AJ, cJ), (AS1, cS1), (AJ1, cJ1), _, _, _, _) _ ⟨HP.out.re (by simp)⟩
      · have hal := HP.out.alloc
        refine value_ (w1 := ?_) (v := ?_) (by rfl) rfl ?_ ?_
        rotate_left 2
        · go_simp
          constructor
          · rfl
          · rfl
        have n_ := Aside0.mk hal
        clear HP hal
        have HP := n_
        clear n_
        refine hK.out _ _ HP.out.hb (fun hHeld => ?_)
        clear hK K
        refine norm_ (a' := ?_) ?_ ?_
        rotate_left
        · show Act.put _ (some 3) _ = _
          simp only [Act.put, List.setIfInBounds_toArray, List.set_cons_zero, List.set_cons_succ, i64_w, i32_w]
          rfl
        refine one_ (i := 1) (N := some 18) #[true, true, true, false, true, true, false, false] rfl rfl (one_of HT_.out (by kernel_rfl)) (by decide) (fun K hK => ?_)
        refine goes_ Try.func12 (by kernel_rfl) rfl #[.agg (litC dg (.slice A c.secs.length a) (.slice B c.justs.length b))] (by rfl) rfl rfl (by (try simp only [List.map_toArray, List.map_cons, List.map_nil]); first | done | rfl) ?_
        with_reducible refine (copy_is c dg A B a b _ (HV.out.below (below_step HW2.out HP.out.hb)) HF.out).mono ?_
        rintro e x1 ⟨AS, cS, AJ, cJ, rfl, hs, hj, hb⟩
        refine ⟨_, rfl, ?_⟩
        have n_ := Aside0.mk (HP.out.call1 hb hs hj)
        clear HP hs hj hb
        have HP := n_
        clear n_
        refine hK.out _ _ HP.out.hb (fun hHeld => ?_)
        clear hK K
        refine norm_ (a' := ?_) ?_ ?_
        rotate_left
        · show Act.put _ (some 18) _ = _
          simp only [Act.put, List.setIfInBounds_toArray, List.set_cons_zero, List.set_cons_succ, i64_w, i32_w]
          rfl
        refine one_ (i := 3) (N := some 20) #[true, true, true, true, true, true, false, false] rfl rfl (one_of HT_.out (by kernel_rfl)) (by decide) (fun K hK => ?_)
        refine goes_ Try.func12 (by kernel_rfl) rfl #[.agg (litC dg (.slice A c.secs.length a) (.slice B c.justs.length b))] (by rfl) rfl rfl (by (try simp only [List.map_toArray, List.map_cons, List.map_nil]); first | done | rfl) ?_
        with_reducible refine (copy_is c dg A B a b _ (HV.out.below (below_step HW2.out HP.out.hb)) HF.out).mono ?_
        rintro e x3 ⟨AS1, cS1, AJ1, cJ1, rfl, hs, hj, hb⟩
        refine ⟨_, rfl, ?_⟩
        have n_ := Aside0.mk (HP.out.call2 hb hs hj)
        clear HP hs hj hb
        have HP := n_
        clear n_
        refine hK.out _ _ HP.out.hb (fun hHeld => ?_)
        clear hK K
        refine norm_ (a' := ?_) ?_ ?_
        rotate_left
        · show Act.put _ (some 20) _ = _
          simp only [Act.put, List.setIfInBounds_toArray, List.set_cons_zero, List.set_cons_succ, i64_w, i32_w]
          rfl
        exact hcont ((AS, cS), (AJ, cJ), (AS1, cS1), (AJ1, cJ1), _, _, _, _) _ ⟨HP.out.re (by simp)⟩
  obtain ⟨⟨AS, cS⟩, ⟨AJ, cJ⟩, ⟨AS1, cS1⟩, ⟨AJ1, cJ1⟩, gb, gc, lo, hi⟩ := s
  clear HP hHeld
  have HP : Aside0 (Pst (w.alloc (.cells (litC dg (.slice A c.secs.length a) (.slice B c.justs.length b)) 26)) c [gb, gc] (some (.slice AS c.secs.length cS, .slice AJ c.justs.length cJ, lo, hi)) (some (.slice AS1 c.secs.length cS1, .slice AJ1 c.justs.length cJ1)) wj) := HF
  clear HF
  refine norm_ (a' := ?_) ?_ ?_
  rotate_left
  · simp only [putAll, Act.put, List.setIfInBounds_toArray, List.set_cons_zero, List.set_cons_succ, i64_w, i32_w]
    rfl
  refine one_ (i := 6) (N := none) #[true, true, true, true, true, true, true, false] rfl rfl (one_of HT_.out (by kernel_rfl)) (by decide) (fun K hK => ?_)
  rw [if_pos (by rfl)]
  have HD := Aside0.mk (HP.out.done (dg := dg))
  have HQ := Aside0.mk (HP.out.row (litC dg (.slice AS c.secs.length cS) (.slice AJ c.justs.length cJ)))
  refine wp_store_row 26 (.tmp 3) (.tmp 18) rfl gb (litC dg (.slice AS c.secs.length cS) (.slice AJ c.justs.length cJ)) rfl rfl 26 zC (HP.out.box gb (by simp)).1 (by kernel_rfl) rfl (lit_one dg AS AJ _ _ cS cJ) ?_
  refine hK.out _ _ HQ.out.hb (fun hHeld => ?_)
  clear hK K
  refine norm_ (a' := ?_) ?_ ?_
  rotate_left
  · show Act.put _ (none) _ = _
    simp only [Act.put, List.setIfInBounds_toArray, List.set_cons_zero, List.set_cons_succ, i64_w, i32_w]
    rfl
  refine one_ (i := 7) (N := none) #[true, true, true, true, true, true, true, true] rfl rfl (one_of HT_.out (by kernel_rfl)) (by decide) (fun K hK => ?_)
  rw [if_pos (by rfl)]
  refine wp_store_row 26 (.tmp 4) (.tmp 20) rfl gc (litC dg (.slice AS1 c.secs.length cS1) (.slice AJ1 c.justs.length cJ1)) rfl rfl 26 zC (HQ.out.box gc (by simp)).1 (by kernel_rfl) rfl (lit_one dg AS1 AJ1 _ _ cS1 cJ1) ?_
  refine hK.out _ _ HD.out.hb (fun hHeld => ?_)
  clear hK K
  refine norm_ (a' := ?_) ?_ ?_
  rotate_left
  · show Act.put _ (none) _ = _
    simp only [Act.put, List.setIfInBounds_toArray, List.set_cons_zero, List.set_cons_succ, i64_w, i32_w]
    rfl
  refine done_ (done_of HT_.out (by kernel_rfl)) ?_
  generalize hW0 : (wj.setRow gb (litC dg (.slice AS c.secs.length cS) (.slice AJ c.justs.length cJ))).setRow gc (litC dg (.slice AS1 c.secs.length cS1) (.slice AJ1 c.justs.length cJ1)) = W0 at HD ⊢
  clear hW0 HP HQ
  have HS32 := Aside0.mk (show IsSl W0 ⟨gb, 32, none⟩ AS c.secs.length cS from ⟨rfl, _, 26, HD.out.xb, rfl⟩)
  have HS33 := Aside0.mk (show IsSl W0 ⟨gb, 33, none⟩ AJ c.justs.length cJ from ⟨rfl, _, 26, HD.out.xb, rfl⟩)
  have HC := Aside0.mk (Ch.start HD.out.hb HD.out.hlo (hi := hi))
  have HZC := Aside0.mk (size26 (cs := (litC dg (.slice AS1 c.secs.length cS1) (.slice AJ1 c.justs.length cJ1))) rfl)
  have zb := (HC.out.sl HS32.out).1
  go_wp2
  go_loopg [5] (c.secs.length + 1) (fun kq v5 w' => ∃ i : Int, v5 = .int .i64 i ∧ Aside0 (0 ≤ i ∧ i ≤ c.secs.length ∧ c.secs.length - i < kq) ∧ Aside0 (Ch (w.alloc (.cells (litC dg (.slice A c.secs.length a) (.slice B c.justs.length b)) 26)) W0 lo hi w'))
  case atStart => exact ⟨0, rfl, ⟨by omega, by omega, by omega⟩, HC⟩
  case round =>
    clear HC zb
    obtain ⟨i, rfl, HI, HC⟩ := hrel
    cases gk with
    | zero => exact absurd HI.out (by omega)
    | succ k2 =>
      obtain ⟨i0, i1, ik⟩ := HI.out
      have zb := (HC.out.sl HS32.out).1
      by_cases hi' : i < c.secs.length
      · obtain ⟨ad, Ah, ch, Al, cl, ead, nI, sH, sL, rH, rL⟩ := sec_at HD.out.bs i i0 hi'
        cases ead
        have h100 := (few_parts HF.out).2.2 _ (rdS_mem c.secs i i0 hi')
        obtain ⟨s, hs⟩ : ∃ s, s = rdS c.secs i := ⟨_, rfl⟩
        rw [← hs] at sH sL rH rL h100
        have H100 := Aside0.mk h100
        have HNI := Aside0.mk nI
        have HSH := Aside0.mk sH
        have HSL := Aside0.mk sL
        have HRH := Aside0.mk rH
        have HRL := Aside0.mk rL
        have cid : decide (i < (c.secs.length : Int)) = true := decide_eq_true hi'
        have si1 := eq_true i0
        have si2 := eq_true hi'
        have hwi : wrap64 (i + 1) = i + 1 := by have := H40.out; unfold wrap64; omega
        have HWI := Aside0.mk hwi
        clear hs h100 nI sH sL rH rL i0 i1 ik hi' hwi
        go_wp2
        go_loopg [6] (s.held.length + 1) (fun kq v6 w' => ∃ k : Int, v6 = .int .i64 k ∧ Aside0 (0 ≤ k ∧ k ≤ s.held.length ∧ s.held.length - k < kq) ∧ Aside0 (Ch (w.alloc (.cells (litC dg (.slice A c.secs.length a) (.slice B c.justs.length b)) 26)) W0 lo hi w'))
        case atStart => exact ⟨0, rfl, ⟨by omega, by omega, by omega⟩, HC⟩
        case round =>
          clear HC zb
          obtain ⟨k, rfl, HK, HC⟩ := hrel
          cases gk with
          | zero => exact absurd HK.out (by omega)
          | succ k3 =>
            obtain ⟨k0, k1, kk⟩ := HK.out
            have zb := (HC.out.sl HS32.out).1
            have zh := (HC.out.sl HSH.out).1
            by_cases hk : k < s.held.length
            · obtain ⟨adk, ek, nK⟩ := num_at HRH.out k k0 hk
              cases ek
              obtain ⟨vk, q1, q2⟩ := HC.out.num nK
              have HNK := Aside0.mk nK
              have ck : decide (k < (s.held.length : Int)) = true := decide_eq_true hk
              have s1 := eq_true k0
              have s2 := eq_true hk
              have hw : wrap64 (k + 1) = k + 1 := by have := H100.out; unfold wrap64; omega
              have HW := Aside0.mk hw
              clear nK k0 k1 kk hk hw
              go_wp2
              go_roundg k3
              case measure => omega
              case rel => exact ⟨k + 1, (by rw [HW.out]), ⟨by have := HK.out; omega, by have := HK.out; have := of_eq_true s2; omega, by have := HK.out; omega⟩, ⟨HC.out.put HNK.out _⟩⟩
            · have ck : decide (k < (s.held.length : Int)) = false := decide_eq_false hk
              clear k0 k1 kk hk HK
              go_wp2
              go_loopg [7] (s.live.length + 1) (fun kq v7 w' => ∃ m : Int, v7 = .int .i64 m ∧ Aside0 (0 ≤ m ∧ m ≤ s.live.length ∧ s.live.length - m < kq) ∧ Aside0 (Ch (w.alloc (.cells (litC dg (.slice A c.secs.length a) (.slice B c.justs.length b)) 26)) W0 lo hi w'))
              case atStart => exact ⟨0, rfl, ⟨by omega, by omega, by omega⟩, HC⟩
              case round =>
                clear HC zb
                obtain ⟨m, rfl, HK, HC⟩ := hrel
                cases gk with
                | zero => exact absurd HK.out (by omega)
                | succ k4 =>
                  obtain ⟨k0, k1, kk⟩ := HK.out
                  have zb := (HC.out.sl HS32.out).1
                  have zh := (HC.out.sl HSL.out).1
                  by_cases hk : m < s.live.length
                  · obtain ⟨adk, ek, nK⟩ := num_at HRL.out m k0 hk
                    cases ek
                    obtain ⟨vk, q1, q2⟩ := HC.out.num nK
                    have HNK := Aside0.mk nK
                    have ck : decide (m < (s.live.length : Int)) = true := decide_eq_true hk
                    have s1 := eq_true k0
                    have s2 := eq_true hk
                    have hw : wrap64 (m + 1) = m + 1 := by have := H100.out; unfold wrap64; omega
                    have HW := Aside0.mk hw
                    clear nK k0 k1 kk hk hw
                    go_wp2
                    go_roundg k4
                    case measure => omega
                    case rel => exact ⟨m + 1, (by rw [HW.out]), ⟨by have := HK.out; omega, by have := HK.out; have := of_eq_true s2; omega, by have := HK.out; omega⟩, ⟨HC.out.put HNK.out _⟩⟩
                  · have ck : decide (m < (s.live.length : Int)) = false := decide_eq_false hk
                    clear k0 k1 kk hk HK
                    obtain ⟨ve, q1, q2⟩ := HC.out.num HNI.out
                    go_wp2
                    go_roundg k2
                    case measure => omega
                    case rel => exact ⟨i + 1, (by rw [HWI.out]), ⟨by have := HI.out; omega, by have := HI.out; have := of_eq_true si2; omega, by have := HI.out; omega⟩, ⟨HC.out.put HNI.out _⟩⟩
      · have cid : decide (i < (c.secs.length : Int)) = false := decide_eq_false hi'
        have zj := (HC.out.sl HS33.out).1
        clear i0 i1 ik hi' HI
        go_wp2
        go_loopg [8] (c.justs.length + 1) (fun kq v8 w' => ∃ j : Int, v8 = .int .i64 j ∧ Aside0 (0 ≤ j ∧ j ≤ c.justs.length ∧ c.justs.length - j < kq) ∧ Aside0 (Ch (w.alloc (.cells (litC dg (.slice A c.secs.length a) (.slice B c.justs.length b)) 26)) W0 lo hi w'))
        case atStart => exact ⟨0, rfl, ⟨by omega, by omega, by omega⟩, HC⟩
        case round =>
          clear zb zj HC
          obtain ⟨j, rfl, HI, HC⟩ := hrel
          cases gk with
          | zero => exact absurd HI.out (by omega)
          | succ k3 =>
            obtain ⟨j0, j1, jk⟩ := HI.out
            have zj := (HC.out.sl HS33.out).1
            by_cases hj : j < c.justs.length
            · obtain ⟨gj, ej, n0, n1⟩ := just_at HD.out.bj j j0 hj
              cases ej
              have hA : (⟨gj, 0, none⟩ : Addr).add (j.toNat * 2) = ⟨gj, j.toNat * 2, none⟩ := by rw [Addr.add_mid, Nat.zero_add]
              have HA := Aside0.mk hA
              have HN0 := Aside0.mk n0
              have HN1 := Aside0.mk n1
              have c1j : decide (j < (c.justs.length : Int)) = true := decide_eq_true hj
              have s1 := eq_true j0
              have s2 := eq_true hj
              have hw : wrap64 (j + 1) = j + 1 := by have := H40.out; unfold wrap64; omega
              have HW := Aside0.mk hw
              clear hA n0 n1 j0 j1 jk hj hw
              obtain ⟨vj, z1, z2⟩ := HC.out.num HN0.out
              obtain ⟨vj', z3, z4⟩ := (HC.out.put HN0.out (.int .i64 77)).num HN1.out
              go_wp2
              go_roundg k3
              case measure => omega
              case rel => exact ⟨j + 1, (by rw [HW.out]), ⟨by have := HI.out; omega, by have := HI.out; have := of_eq_true s2; omega, by have := HI.out; omega⟩, ⟨(HC.out.put HN0.out _).put HN1.out _⟩⟩
            · have c1j : decide (j < (c.justs.length : Int)) = false := decide_eq_false hj
              clear j0 j1 jk hj HI
              go_wp2_with (first | ((with_reducible refine gate_dst (N := 83) rfl ?_); refine wpList_load_row rfl 26 (.tmp 1) rfl w.heap.size rfl 26 (litC dg (.slice A c.secs.length a) (.slice B c.justs.length b)) (0, 0) _ (HX.out _ HC.out.hb) Try.underlying26 rfl HZ.out ?_) | ((with_reducible refine gate_dst (N := 84) rfl ?_); refine wpList_load_row rfl 26 (.tmp 4) rfl gc rfl 26 (litC dg (.slice AS1 c.secs.length cS1) (.slice AJ1 c.justs.length cJ1)) (0, 0) _ ((HC.out.out gc (lt_of_heap HD.out.xc) HD.out.nc).trans HD.out.xc) Try.underlying26 rfl HZC.out ?_) | (go_at_call 13; (with_reducible refine (rsame_self c dg A B AS1 AJ1 a b cS1 cJ1 _ (HV.out.below (below_step HW2.out HC.out.hb)) (crt_of (HC.out.row HD.out.cs) (HC.out.row HD.out.cj)) HF.out HY.out).mono ?_); rintro e w9 ⟨rfl, hb⟩; have HE := Aside0.mk (below_step HC.out.hb hb)))
              go_ret
              exact ⟨by first | rfl | (simp; done), below_step HW2.out HE.out⟩

theorem copies_law (c : Crt) (cs : Array Value) (A B : Option Addr) (a b : Nat) (w : World) (h : CrtVal w c cs A a B b) (hh : Short c) (hg : c.Good)
    (hcs : cs = (c.dig.map (Value.int .u8) ++ [Value.slice A c.secs.length a, Value.slice B c.justs.length b]).toArray) (hd : c.dig.length = 32) :
    Calls Try.prog 5 #[.agg cs] w fun e w' => e = .returned (.bool true) ∧ Below w.heap.size w w' := by
  rw [lit_cells c.dig hd] at hcs
  rw [hcs] at h ⊢
  cases hf : fewOk c with
  | false => exact copies_many c (fun i => c.dig.getD i 0) A B a b w h hh hf
  | true => exact copies_few c (fun i => c.dig.getD i 0) A B a b w h hh hf (byt_of hg)
end Go.Proofs.Ytbemdnjcnmponaa.Copies
