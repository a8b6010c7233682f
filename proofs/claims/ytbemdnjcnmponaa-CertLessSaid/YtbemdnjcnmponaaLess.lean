/- A certificate that may be still may be without its last justification, with empty sets, and with another digest (CertLess): the walk of the law; for every certificate. -/
import Derived.Test.YtbemdnjcnmponaaLessP
namespace Go.Proofs.Ytbemdnjcnmponaa.Less
open Go.RowKit Go.Proofs.YtbemdnjcnmponaaW.PrintWords Go.Proofs.YtbemdnjcnmponaaW.PrintLast Go.Proofs.YtbemdnjcnmponaaW.PrintMore Go.Proofs.Ytbemdnjcnmponaa.PCertSame Go.Proofs.Ytbemdnjcnmponaa.Data Go.Proofs.Ytbemdnjcnmponaa.Section Go.Proofs.Ytbemdnjcnmponaa.Plain Go.Proofs.Ytbemdnjcnmponaa.Check Go.Proofs.Ytbemdnjcnmponaa.Awake Go.Proofs.Ytbemdnjcnmponaa.Laws1 Go.Proofs.Ytbemdnjcnmponaa.Lit Go.Proofs.Ytbemdnjcnmponaa.SameP Go.Proofs.Ytbemdnjcnmponaa.Same Go.Proofs.Ytbemdnjcnmponaa.Copy Go.Proofs.Ytbemdnjcnmponaa.RefSame Go.Proofs.Ytbemdnjcnmponaa.LessP
set_option linter.unusedVariables false
set_option linter.unusedSimpArgs false
def l15.T15 : Bool × List (List Nat × List Nat) := (true, [([], []), ([0], [0]), ([], []), ([1, 2], [1, 2]), ([3], [3]), ([4], [4]), ([], []), ([6], [6]), ([], []), ([7, 8], [7, 8]), ([9], [9]), ([10], [10]), ([11], [11]), ([12], [12]), ([5, 13, 0, 1, 2, 3, 4, 5, 6, 7, 8, 9, 10, 11, 12, 13], [5, 13]), ([14, 0, 1, 2, 3, 4, 5, 6, 7, 8, 9, 10, 11, 12, 13], [14])])
def l15.B15 : List Nat := [0, 1, 0, 7, 15, 31, 0, 64, 0, 448, 960, 1984, 4032, 8128, 16383, 32767]
theorem l15.tab15 : rtab .any (opsOf Try.f7 15) = l15.T15 := by kernel_rfl
theorem l15.bits15 : waitsOk l15.T15.2 l15.B15 = true := by kernel_rfl
def l17.T17 : Bool × List (List Nat × List Nat) := (true, [([], []), ([0], [0]), ([1], [1]), ([2], [2]), ([3, 2], [2, 3]), ([2, 4], [2, 4]), ([5, 2], [5]), ([6], [6]), ([6], [6]), ([7, 8, 6, 6], [6, 7, 8]), ([6], [6]), ([10, 6], [6, 10]), ([6], [6]), ([11, 12, 6], [6, 11, 12]), ([13, 9, 6], [6, 13]), ([14], [14]), ([14], [14]), ([15, 16, 14, 14], [14, 15, 16]), ([14, 17, 6], [6, 14, 17]), ([9, 18, 6], [6, 9, 18]), ([6, 19], [6, 19]), ([20, 17, 0, 1, 2, 3, 4, 5, 6, 7, 8, 9, 10, 11, 12, 13, 14, 15, 16, 17, 18, 19, 20], [20])])
def l17.B17 : List Nat := [0, 1, 3, 7, 15, 31, 63, 127, 127, 511, 127, 1151, 127, 7295, 16383, 32767, 32767, 131071, 262143, 524287, 1048575, 2097151]
theorem l17.tab17 : rtab .any (opsOf Try.f7 17) = l17.T17 := by kernel_rfl
theorem l17.bits17 : waitsOk l17.T17.2 l17.B17 = true := by kernel_rfl

abbrev kk0 : Array Bool := #[true, true, true, true, true, true, true, true, true, true, true, true, true, true, true, true]
abbrev kk1 : Array Bool := #[true, true, true, true, true, true, true, true, true, true, true, true, true, true, true, false]
abbrev kk2 : Array Bool := #[true, true, true, true, true, true, true, true, true, true, true, true, true, true, false, false]
abbrev kk3 : Array Bool := #[true, true, true, true, true, true, true, true, true, true, true, true, true, false, false, false]
abbrev kk4 : Array Bool := #[true, true, true, true, true, true, true, true, true, true, true, true, false, false, false, false]
abbrev kk5 : Array Bool := #[true, true, true, true, true, true, true, true, true, true, true, false, false, false, false, false]
abbrev kk6 : Array Bool := #[true, true, true, true, true, true, true, true, true, true, false, false, false, false, false, false]
abbrev kk7 : Array Bool := #[true, true, true, true, true, true, true, true, true, false, false, false, false, false, false, false]
abbrev kk8 : Array Bool := #[true, true, true, true, true, true, true, true, false, false, false, false, false, false, false, false]
abbrev kk9 : Array Bool := #[true, true, true, true, true, true, true, false, false, false, false, false, false, false, false, false]
abbrev kk10 : Array Bool := #[true, true, true, true, true, true, false, false, false, false, false, false, false, false, false, false]
abbrev kk11 : Array Bool := #[true, true, true, true, true, false, false, false, false, false, false, false, false, false, false, false]
abbrev kk12 : Array Bool := #[true, true, true, true, false, false, false, false, false, false, false, false, false, false, false, false]
abbrev kk13 : Array Bool := #[true, true, true, false, false, false, false, false, false, false, false, false, false, false, false, false]
abbrev kk14 : Array Bool := #[true, true, false, false, false, false, false, false, false, false, false, false, false, false, false, false]
abbrev kk15 : Array Bool := #[true, false, false, false, false, false, false, false, false, false, false, false, false, false, false, false]
abbrev kk16 : Array Bool := #[false, false, false, false, false, false, false, false, false, false, false, false, false, false, false, false]
abbrev kk17 : Array Bool := #[true, true, true, true, true, true, true, true, true, true, true, true, true, true, true, true, true, true, true, true, true, true]
abbrev kk18 : Array Bool := #[true, true, true, true, true, true, true, true, true, true, true, true, true, true, true, true, true, true, true, true, true, false]
abbrev kk19 : Array Bool := #[true, true, true, true, true, true, true, true, true, true, true, true, true, true, true, true, true, true, true, true, false, false]
abbrev kk20 : Array Bool := #[true, true, true, true, true, true, true, true, true, true, true, true, true, true, true, true, true, true, true, false, false, false]
abbrev kk21 : Array Bool := #[true, true, true, true, true, true, true, true, true, true, true, true, true, true, true, true, true, true, false, false, false, false]
abbrev kk22 : Array Bool := #[true, true, true, true, true, true, true, true, true, true, true, true, true, true, true, true, true, false, false, false, false, false]
abbrev kk23 : Array Bool := #[true, true, true, true, true, true, true, true, true, true, true, true, true, true, true, true, false, false, false, false, false, false]
abbrev kk24 : Array Bool := #[true, true, true, true, true, true, true, true, true, true, true, true, true, true, true, false, false, false, false, false, false, false]
abbrev kk25 : Array Bool := #[true, true, true, true, true, true, true, true, true, true, true, true, true, true, false, false, false, false, false, false, false, false]
abbrev kk26 : Array Bool := #[true, true, true, true, true, true, true, true, true, false, true, true, true, true, false, false, false, false, false, false, false, false]
abbrev kk27 : Array Bool := #[true, true, true, true, true, true, true, true, true, false, true, true, true, false, false, false, false, false, false, false, false, false]
abbrev kk28 : Array Bool := #[true, true, true, true, true, true, true, true, true, false, true, true, false, false, false, false, false, false, false, false, false, false]
abbrev kk29 : Array Bool := #[true, true, true, true, true, true, true, true, true, false, true, false, false, false, false, false, false, false, false, false, false, false]
abbrev kk30 : Array Bool := #[true, true, true, true, true, true, true, true, true, false, false, false, false, false, false, false, false, false, false, false, false, false]
abbrev kk31 : Array Bool := #[true, true, true, true, true, true, true, true, false, false, false, false, false, false, false, false, false, false, false, false, false, false]
abbrev kk32 : Array Bool := #[true, true, true, true, true, true, true, false, false, false, false, false, false, false, false, false, false, false, false, false, false, false]
abbrev kk33 : Array Bool := #[true, true, true, true, true, true, false, false, false, false, false, false, false, false, false, false, false, false, false, false, false, false]
abbrev kk34 : Array Bool := #[true, true, true, true, true, false, false, false, false, false, false, false, false, false, false, false, false, false, false, false, false, false]
abbrev kk35 : Array Bool := #[true, true, true, true, false, false, false, false, false, false, false, false, false, false, false, false, false, false, false, false, false, false]
abbrev kk36 : Array Bool := #[true, true, true, false, false, false, false, false, false, false, false, false, false, false, false, false, false, false, false, false, false, false]
abbrev kk37 : Array Bool := #[true, true, false, false, false, false, false, false, false, false, false, false, false, false, false, false, false, false, false, false, false, false]
abbrev kk38 : Array Bool := #[true, false, false, false, false, false, false, false, false, false, false, false, false, false, false, false, false, false, false, false, false, false]
abbrev kk39 : Array Bool := #[false, false, false, false, false, false, false, false, false, false, false, false, false, false, false, false, false, false, false, false, false, false]
noncomputable def alB (c c' : Crt) (dg dg' : Nat → Int) : Bool := eqB (dl dg) (dl dg') && eqB c.secs c'.secs && eqB c.justs c'.justs
theorem same_is (c c' : Crt) (dg dg' : Nat → Int) (A B A' B' : Option Addr) (a b a' b' : Nat) (r : Bool) (w : World) (h : CrtVal w c (litC dg (.slice A c.secs.length a) (.slice B c.justs.length b)) A a B b) (h' : CrtVal w c' (litC dg' (.slice A' c'.secs.length a') (.slice B' c'.justs.length b')) A' a' B' b') (hf : fewOk c = true) (hy : Byt dg) (hy' : Byt dg') (hr : alB c c' dg dg' = r) :
    Calls Try.prog 14 #[.agg (litC dg (.slice A c.secs.length a) (.slice B c.justs.length b)), .agg (litC dg' (.slice A' c'.secs.length a') (.slice B' c'.justs.length b'))] w fun e w' => e = .returned (.bool r) ∧ Below w.heap.size w w' := by
  rw [← hr]
  exact same_any c c' dg dg' A B A' B' a b a' b' w h h' (few_parts hf).1 (few_parts hf).2.1 (few_parts hf).2.2 hy hy'
theorem rsame_is (c c' : Crt) (dg dg' : Nat → Int) (A B A' B' : Option Addr) (a b a' b' : Nat) (r : Bool) (w : World) (h : CrtVal w c (litC dg (.slice A c.secs.length a) (.slice B c.justs.length b)) A a B b) (h' : CrtVal w c' (litC dg' (.slice A' c'.secs.length a') (.slice B' c'.justs.length b')) A' a' B' b') (hf : fewOk c = true) (hy : Byt dg) (hy' : Byt dg') (hr : alB c c' dg dg' = r) :
    Calls Try.prog 13 #[.agg (litC dg (.slice A c.secs.length a) (.slice B c.justs.length b)), .agg (litC dg' (.slice A' c'.secs.length a') (.slice B' c'.justs.length b'))] w fun e w' => e = .returned (.bool r) ∧ Below w.heap.size w w' := by
  rw [← hr]
  exact rsame_any c c' dg dg' A B A' B' a b a' b' w h h' (few_parts hf).1 (few_parts hf).2.1 (few_parts hf).2.2 hy hy'
theorem some_of {α : Type} {d : Kd α} {e : Nat} {w : World} {base : Nat} {ok : Nat → Prop} {A : Option Addr} {n c : Nat} {xs : List α} (h : d.R e w base ok (.slice A n c) xs) (hn : 0 < xs.length) : (∃ ad, A = some ad) ∧ xs.length ≤ c := by
  obtain ⟨h1, h2, h3⟩ := Kd.R_reads' h
  obtain ⟨ad, he, _⟩ := h3.2.2 hn
  exact ⟨⟨ad, he⟩, by omega⟩
theorem dig_one (dd : Nat → Int) : (litD dd).all (·.oneCell') = true := by
  rw [← Array.all_toList]; rfl
theorem box33 {w2 W : World} {c : Crt} {dd : Nat → Int} {AS AJ : Option Addr} {cS cJ gb m : Nat} (h : Mk w2 c dd AS cS AJ cJ gb m W) : W.cell? ⟨gb, 33, none⟩ = some (.slice AJ m cJ) ∧ W.frozen? ⟨gb, 33, none⟩ = false :=
  ⟨by rw [cell_of_row W gb 33 _ 26 (0, 0) h.xb]; rfl, frozen_of_row W gb 33 _ 26 h.xb⟩

set_option maxHeartbeats 4000000 in
set_option maxRecDepth 100000 in
theorem less_many (c : Crt) (dg dd : Nat → Int) (A B : Option Addr) (a b : Nat) (w : World) (h : CrtVal w c (litC dg (.slice A c.secs.length a) (.slice B c.justs.length b)) A a B b) (hh : Short c) (hf : fewOk c = false) :
    Calls Try.prog 7 #[.agg #[.int .u8 (dg 0), .int .u8 (dg 1), .int .u8 (dg 2), .int .u8 (dg 3), .int .u8 (dg 4), .int .u8 (dg 5), .int .u8 (dg 6), .int .u8 (dg 7), .int .u8 (dg 8), .int .u8 (dg 9), .int .u8 (dg 10), .int .u8 (dg 11), .int .u8 (dg 12), .int .u8 (dg 13), .int .u8 (dg 14), .int .u8 (dg 15), .int .u8 (dg 16), .int .u8 (dg 17), .int .u8 (dg 18), .int .u8 (dg 19), .int .u8 (dg 20), .int .u8 (dg 21), .int .u8 (dg 22), .int .u8 (dg 23), .int .u8 (dg 24), .int .u8 (dg 25), .int .u8 (dg 26), .int .u8 (dg 27), .int .u8 (dg 28), .int .u8 (dg 29), .int .u8 (dg 30), .int .u8 (dg 31), .slice A c.secs.length a, .slice B c.justs.length b], .agg #[.int .u8 (dd 0), .int .u8 (dd 1), .int .u8 (dd 2), .int .u8 (dd 3), .int .u8 (dd 4), .int .u8 (dd 5), .int .u8 (dd 6), .int .u8 (dd 7), .int .u8 (dd 8), .int .u8 (dd 9), .int .u8 (dd 10), .int .u8 (dd 11), .int .u8 (dd 12), .int .u8 (dd 13), .int .u8 (dd 14), .int .u8 (dd 15), .int .u8 (dd 16), .int .u8 (dd 17), .int .u8 (dd 18), .int .u8 (dd 19), .int .u8 (dd 20), .int .u8 (dd 21), .int .u8 (dd 22), .int .u8 (dd 23), .int .u8 (dd 24), .int .u8 (dd 25), .int .u8 (dd 26), .int .u8 (dd 27), .int .u8 (dd 28), .int .u8 (dd 29), .int .u8 (dd 30), .int .u8 (dd 31)]] w fun e w' => e = .returned (.bool true) ∧ Below w.heap.size w w' := by
  have HF := Aside0.mk hf
  clear hf
  have HV := Aside0.mk h
  have HH := Aside0.mk hh
  have HW2 := Aside0.mk (below_alloc (below_alloc (Below.refl w.heap.size w) (.cells (litC dg (.slice A c.secs.length a) (.slice B c.justs.length b)) 26)) (.cells (litD dd) 22))
  have HB := Aside0.mk (Below.refl ((w.alloc (.cells (litC dg (.slice A c.secs.length a) (.slice B c.justs.length b)) 26)).alloc (.cells (litD dd) 22)).heap.size ((w.alloc (.cells (litC dg (.slice A c.secs.length a) (.slice B c.justs.length b)) 26)).alloc (.cells (litD dd) 22)))
  have hbox : ∀ w', Below ((w.alloc (.cells (litC dg (.slice A c.secs.length a) (.slice B c.justs.length b)) 26)).alloc (.cells (litD dd) 22)).heap.size ((w.alloc (.cells (litC dg (.slice A c.secs.length a) (.slice B c.justs.length b)) 26)).alloc (.cells (litD dd) 22)) w' → w'.heap[w.heap.size]? = some (.cells (litC dg (.slice A c.secs.length a) (.slice B c.justs.length b)) 26) := fun w' hb => by
    rw [hb.block w.heap.size (by simp; omega), heap_alloc2_old]
  have HX := Aside0.mk hbox
  have hbox' : ∀ w', Below ((w.alloc (.cells (litC dg (.slice A c.secs.length a) (.slice B c.justs.length b)) 26)).alloc (.cells (litD dd) 22)).heap.size ((w.alloc (.cells (litC dg (.slice A c.secs.length a) (.slice B c.justs.length b)) 26)).alloc (.cells (litD dd) 22)) w' → w'.heap[w.heap.size + 1]? = some (.cells (litD dd) 22) := fun w' hb => by
    rw [hb.block (w.heap.size + 1) (by simp), heap_alloc2_new]
  have HX' := Aside0.mk hbox'
  have HZ := Aside0.mk (size26 (cs := (litC dg (.slice A c.secs.length a) (.slice B c.justs.length b))) rfl)
  clear h hh hbox hbox'
  go_enter Try.func7, Try.ntmps7
  go_wp2_with (first | ((with_reducible refine gate_callee (f := 8) rfl ?_); refine goesL_ (some 11) rfl rfl Try.func8 (by kernel_rfl) rfl #[] rfl (by (try simp only [List.map_toArray, List.map_cons, List.map_nil]); first | done | rfl) ?_; (with_reducible refine (awake_any _).mono ?_); rintro e w1 ⟨rfl, hb⟩; refine ⟨_, rfl, ?_⟩; have n_ := Aside0.mk (below_step HB.out hb); clear HB; have HB := n_; clear n_ hb) | ((with_reducible refine gate_dst (N := 14) rfl ?_); refine gate_guard (by rfl) ?_; refine wpList_load_row rfl 26 (.tmp 2) rfl w.heap.size rfl 26 (litC dg (.slice A c.secs.length a) (.slice B c.justs.length b)) (0, 0) _ (HX.out _ HB.out) Try.underlying26 rfl HZ.out ?_) | (go_at_call 9; (with_reducible refine (few_is c _ A B a b false _ (HV.out.below (below_step HW2.out HB.out)) HH.out HF.out).mono ?_); rintro e w2 ⟨rfl, hb⟩; have n_ := Aside0.mk (below_step HB.out hb); clear HB; have HB := n_; clear n_ hb) | (go_at_call 8; (with_reducible refine (awake_any _).mono ?_); rintro e w5 ⟨rfl, hb⟩; have n_ := Aside0.mk (below_step HB.out hb); clear HB; have HB := n_; clear n_ hb))
  go_ret
  exact ⟨by first | rfl | (simp; done), below_step HW2.out HB.out⟩

set_option maxHeartbeats 4000000 in
set_option maxRecDepth 100000 in
theorem less_bad (c : Crt) (dg dd : Nat → Int) (A B : Option Addr) (a b : Nat) (w : World) (h : CrtVal w c (litC dg (.slice A c.secs.length a) (.slice B c.justs.length b)) A a B b) (hh : Short c) (hf : fewOk c = true) (n e : Int) (hc : chk c = (n, e)) (he : e ≠ 0) :
    Calls Try.prog 7 #[.agg #[.int .u8 (dg 0), .int .u8 (dg 1), .int .u8 (dg 2), .int .u8 (dg 3), .int .u8 (dg 4), .int .u8 (dg 5), .int .u8 (dg 6), .int .u8 (dg 7), .int .u8 (dg 8), .int .u8 (dg 9), .int .u8 (dg 10), .int .u8 (dg 11), .int .u8 (dg 12), .int .u8 (dg 13), .int .u8 (dg 14), .int .u8 (dg 15), .int .u8 (dg 16), .int .u8 (dg 17), .int .u8 (dg 18), .int .u8 (dg 19), .int .u8 (dg 20), .int .u8 (dg 21), .int .u8 (dg 22), .int .u8 (dg 23), .int .u8 (dg 24), .int .u8 (dg 25), .int .u8 (dg 26), .int .u8 (dg 27), .int .u8 (dg 28), .int .u8 (dg 29), .int .u8 (dg 30), .int .u8 (dg 31), .slice A c.secs.length a, .slice B c.justs.length b], .agg #[.int .u8 (dd 0), .int .u8 (dd 1), .int .u8 (dd 2), .int .u8 (dd 3), .int .u8 (dd 4), .int .u8 (dd 5), .int .u8 (dd 6), .int .u8 (dd 7), .int .u8 (dd 8), .int .u8 (dd 9), .int .u8 (dd 10), .int .u8 (dd 11), .int .u8 (dd 12), .int .u8 (dd 13), .int .u8 (dd 14), .int .u8 (dd 15), .int .u8 (dd 16), .int .u8 (dd 17), .int .u8 (dd 18), .int .u8 (dd 19), .int .u8 (dd 20), .int .u8 (dd 21), .int .u8 (dd 22), .int .u8 (dd 23), .int .u8 (dd 24), .int .u8 (dd 25), .int .u8 (dd 26), .int .u8 (dd 27), .int .u8 (dd 28), .int .u8 (dd 29), .int .u8 (dd 30), .int .u8 (dd 31)]] w fun e w' => e = .returned (.bool true) ∧ Below w.heap.size w w' := by
  have HF := Aside0.mk hf
  have HC := Aside0.mk hc
  have he1 : (e != 0) = true := bne_iff_ne.mpr he
  have he2 : decide (e = 0) = false := decide_eq_false he
  clear hf hc
  have HV := Aside0.mk h
  have HH := Aside0.mk hh
  have HW2 := Aside0.mk (below_alloc (below_alloc (Below.refl w.heap.size w) (.cells (litC dg (.slice A c.secs.length a) (.slice B c.justs.length b)) 26)) (.cells (litD dd) 22))
  have HB := Aside0.mk (Below.refl ((w.alloc (.cells (litC dg (.slice A c.secs.length a) (.slice B c.justs.length b)) 26)).alloc (.cells (litD dd) 22)).heap.size ((w.alloc (.cells (litC dg (.slice A c.secs.length a) (.slice B c.justs.length b)) 26)).alloc (.cells (litD dd) 22)))
  have hbox : ∀ w', Below ((w.alloc (.cells (litC dg (.slice A c.secs.length a) (.slice B c.justs.length b)) 26)).alloc (.cells (litD dd) 22)).heap.size ((w.alloc (.cells (litC dg (.slice A c.secs.length a) (.slice B c.justs.length b)) 26)).alloc (.cells (litD dd) 22)) w' → w'.heap[w.heap.size]? = some (.cells (litC dg (.slice A c.secs.length a) (.slice B c.justs.length b)) 26) := fun w' hb => by
    rw [hb.block w.heap.size (by simp; omega), heap_alloc2_old]
  have HX := Aside0.mk hbox
  have hbox' : ∀ w', Below ((w.alloc (.cells (litC dg (.slice A c.secs.length a) (.slice B c.justs.length b)) 26)).alloc (.cells (litD dd) 22)).heap.size ((w.alloc (.cells (litC dg (.slice A c.secs.length a) (.slice B c.justs.length b)) 26)).alloc (.cells (litD dd) 22)) w' → w'.heap[w.heap.size + 1]? = some (.cells (litD dd) 22) := fun w' hb => by
    rw [hb.block (w.heap.size + 1) (by simp), heap_alloc2_new]
  have HX' := Aside0.mk hbox'
  have HZ := Aside0.mk (size26 (cs := (litC dg (.slice A c.secs.length a) (.slice B c.justs.length b))) rfl)
  clear h hh hbox hbox'
  go_enter Try.func7, Try.ntmps7
  go_wp2_with (first | ((with_reducible refine gate_callee (f := 8) rfl ?_); refine goesL_ (some 11) rfl rfl Try.func8 (by kernel_rfl) rfl #[] rfl (by (try simp only [List.map_toArray, List.map_cons, List.map_nil]); first | done | rfl) ?_; (with_reducible refine (awake_any _).mono ?_); rintro e w1 ⟨rfl, hb⟩; refine ⟨_, rfl, ?_⟩; have n_ := Aside0.mk (below_step HB.out hb); clear HB; have HB := n_; clear n_ hb) | ((with_reducible refine gate_dst (N := 14) rfl ?_); refine gate_guard (by rfl) ?_; refine wpList_load_row rfl 26 (.tmp 2) rfl w.heap.size rfl 26 (litC dg (.slice A c.secs.length a) (.slice B c.justs.length b)) (0, 0) _ (HX.out _ HB.out) Try.underlying26 rfl HZ.out ?_) | (go_at_call 9; (with_reducible refine (few_is c _ A B a b true _ (HV.out.below (below_step HW2.out HB.out)) HH.out HF.out).mono ?_); rintro e w2 ⟨rfl, hb⟩; have n_ := Aside0.mk (below_step HB.out hb); clear HB; have HB := n_; clear n_ hb) | ((with_reducible refine gate_dst (N := 20) rfl ?_); refine wpList_load_row rfl 26 (.tmp 2) rfl w.heap.size rfl 26 (litC dg (.slice A c.secs.length a) (.slice B c.justs.length b)) (0, 0) _ (HX.out _ HB.out) Try.underlying26 rfl HZ.out ?_) | (go_at_call 10; (with_reducible refine (check_is c _ A B a b n e _ (HV.out.below (below_step HW2.out HB.out)) HH.out HC.out).mono ?_); rintro e' w3 ⟨rfl, hb⟩; have n_ := Aside0.mk (below_step HB.out hb); clear HB; have HB := n_; clear n_ hb))
  go_ret
  exact ⟨by first | rfl | (simp; done), below_step HW2.out HB.out⟩

set_option maxHeartbeats 16000000 in
set_option maxRecDepth 100000 in
theorem less_none (c : Crt) (dg dd : Nat → Int) (A B : Option Addr) (a b : Nat) (w : World) (h : CrtVal w c (litC dg (.slice A c.secs.length a) (.slice B c.justs.length b)) A a B b) (hh : Short c) (hf : fewOk c = true) (n : Int) (hc : chk c = (n, 0)) (hy : Byt dg) (hy' : Byt dd) (h0 : c.justs.length = 0) :
    Calls Try.prog 7 #[.agg #[.int .u8 (dg 0), .int .u8 (dg 1), .int .u8 (dg 2), .int .u8 (dg 3), .int .u8 (dg 4), .int .u8 (dg 5), .int .u8 (dg 6), .int .u8 (dg 7), .int .u8 (dg 8), .int .u8 (dg 9), .int .u8 (dg 10), .int .u8 (dg 11), .int .u8 (dg 12), .int .u8 (dg 13), .int .u8 (dg 14), .int .u8 (dg 15), .int .u8 (dg 16), .int .u8 (dg 17), .int .u8 (dg 18), .int .u8 (dg 19), .int .u8 (dg 20), .int .u8 (dg 21), .int .u8 (dg 22), .int .u8 (dg 23), .int .u8 (dg 24), .int .u8 (dg 25), .int .u8 (dg 26), .int .u8 (dg 27), .int .u8 (dg 28), .int .u8 (dg 29), .int .u8 (dg 30), .int .u8 (dg 31), .slice A c.secs.length a, .slice B c.justs.length b], .agg #[.int .u8 (dd 0), .int .u8 (dd 1), .int .u8 (dd 2), .int .u8 (dd 3), .int .u8 (dd 4), .int .u8 (dd 5), .int .u8 (dd 6), .int .u8 (dd 7), .int .u8 (dd 8), .int .u8 (dd 9), .int .u8 (dd 10), .int .u8 (dd 11), .int .u8 (dd 12), .int .u8 (dd 13), .int .u8 (dd 14), .int .u8 (dd 15), .int .u8 (dd 16), .int .u8 (dd 17), .int .u8 (dd 18), .int .u8 (dd 19), .int .u8 (dd 20), .int .u8 (dd 21), .int .u8 (dd 22), .int .u8 (dd 23), .int .u8 (dd 24), .int .u8 (dd 25), .int .u8 (dd 26), .int .u8 (dd 27), .int .u8 (dd 28), .int .u8 (dd 29), .int .u8 (dd 30), .int .u8 (dd 31)]] w fun e w' => e = .returned (.bool true) ∧ Below w.heap.size w w' := by
  have HF := Aside0.mk hf
  have HC := Aside0.mk hc
  have HY := Aside0.mk hy
  have HY' := Aside0.mk hy'
  have hk : (chk c).2 = 0 := by rw [hc]
  have HK := Aside0.mk hk
  have H40 := Aside0.mk (few_parts hf)
  have d0 : decide ((0 : Int) < (c.justs.length : Int)) = false := decide_eq_false (by omega)
  have d0b : decide (0 < c.justs.length) = false := decide_eq_false (by omega)
  clear h0
  clear hf hc hk hy hy'
  have HV := Aside0.mk h
  have HH := Aside0.mk hh
  have HW2 := Aside0.mk (below_alloc (below_alloc (Below.refl w.heap.size w) (.cells (litC dg (.slice A c.secs.length a) (.slice B c.justs.length b)) 26)) (.cells (litD dd) 22))
  have HB := Aside0.mk (Below.refl ((w.alloc (.cells (litC dg (.slice A c.secs.length a) (.slice B c.justs.length b)) 26)).alloc (.cells (litD dd) 22)).heap.size ((w.alloc (.cells (litC dg (.slice A c.secs.length a) (.slice B c.justs.length b)) 26)).alloc (.cells (litD dd) 22)))
  have hbox : ∀ w', Below ((w.alloc (.cells (litC dg (.slice A c.secs.length a) (.slice B c.justs.length b)) 26)).alloc (.cells (litD dd) 22)).heap.size ((w.alloc (.cells (litC dg (.slice A c.secs.length a) (.slice B c.justs.length b)) 26)).alloc (.cells (litD dd) 22)) w' → w'.heap[w.heap.size]? = some (.cells (litC dg (.slice A c.secs.length a) (.slice B c.justs.length b)) 26) := fun w' hb => by
    rw [hb.block w.heap.size (by simp; omega), heap_alloc2_old]
  have HX := Aside0.mk hbox
  have hbox' : ∀ w', Below ((w.alloc (.cells (litC dg (.slice A c.secs.length a) (.slice B c.justs.length b)) 26)).alloc (.cells (litD dd) 22)).heap.size ((w.alloc (.cells (litC dg (.slice A c.secs.length a) (.slice B c.justs.length b)) 26)).alloc (.cells (litD dd) 22)) w' → w'.heap[w.heap.size + 1]? = some (.cells (litD dd) 22) := fun w' hb => by
    rw [hb.block (w.heap.size + 1) (by simp), heap_alloc2_new]
  have HX' := Aside0.mk hbox'
  have HZ := Aside0.mk (size26 (cs := (litC dg (.slice A c.secs.length a) (.slice B c.justs.length b))) rfl)
  clear h hh hbox hbox'
  go_enter Try.func7, Try.ntmps7
  go_wp2_with (first | ((with_reducible refine gate_callee (f := 8) rfl ?_); refine goesL_ (some 11) rfl rfl Try.func8 (by kernel_rfl) rfl #[] rfl (by (try simp only [List.map_toArray, List.map_cons, List.map_nil]); first | done | rfl) ?_; (with_reducible refine (awake_any _).mono ?_); rintro e w1 ⟨rfl, hb⟩; refine ⟨_, rfl, ?_⟩; have n_ := Aside0.mk (below_step HB.out hb); clear HB; have HB := n_; clear n_ hb) | ((with_reducible refine gate_dst (N := 14) rfl ?_); refine gate_guard (by rfl) ?_; refine wpList_load_row rfl 26 (.tmp 2) rfl w.heap.size rfl 26 (litC dg (.slice A c.secs.length a) (.slice B c.justs.length b)) (0, 0) _ (HX.out _ HB.out) Try.underlying26 rfl HZ.out ?_) | (go_at_call 9; (with_reducible refine (few_is c _ A B a b true _ (HV.out.below (below_step HW2.out HB.out)) HH.out HF.out).mono ?_); rintro e w2 ⟨rfl, hb⟩; have n_ := Aside0.mk (below_step HB.out hb); clear HB; have HB := n_; clear n_ hb) | ((with_reducible refine gate_dst (N := 20) rfl ?_); refine wpList_load_row rfl 26 (.tmp 2) rfl w.heap.size rfl 26 (litC dg (.slice A c.secs.length a) (.slice B c.justs.length b)) (0, 0) _ (HX.out _ HB.out) Try.underlying26 rfl HZ.out ?_) | (go_at_call 10; (with_reducible refine (check_is c _ A B a b n 0 _ (HV.out.below (below_step HW2.out HB.out)) HH.out HC.out).mono ?_); rintro e' w3 ⟨rfl, hb⟩; have n_ := Aside0.mk (below_step HB.out hb); clear HB; have HB := n_; clear n_ hb) | ((with_reducible refine gate_dst (N := 26) rfl ?_); refine wpList_load_row rfl 26 (.tmp 2) rfl w.heap.size rfl 26 (litC dg (.slice A c.secs.length a) (.slice B c.justs.length b)) (0, 0) _ (HX.out _ HB.out) Try.underlying26 rfl HZ.out ?_) | (go_at_call 12; (with_reducible refine (copy_is c dg A B a b _ (HV.out.below (below_step HW2.out HB.out)) HF.out).mono ?_); rintro e wc ⟨AS, cS, AJ, cJ, rfl, hs, hj, hb⟩; have HM0 := Aside0.mk (mk_start HB.out hb hs hj dg); have HG := Aside0.mk (Nat.le_trans HB.out.size hb.size); clear hs hj hb) | ((with_reducible refine gate_store (t := 26) rfl ?_); refine wpList_plain rfl (fun K hK => wp_store_row 26 (.tmp 7) (.tmp 27) rfl wc.heap.size (litC dg (.slice AS c.secs.length cS) (.slice AJ c.justs.length cJ)) rfl rfl 26 zC (heap_alloc_new wc _) (by kernel_rfl) rfl (lit_one dg AS AJ _ _ cS cJ) (hK _ _ ?_))) | ((with_reducible refine gate_dst (N := 28) rfl ?_); refine wpList_load_row rfl 22 (.tmp 3) rfl (w.heap.size + 1) rfl 22 (litD dd) (0, 0) _ (HX'.out _ HM0.out.hb) Try.underlying22 rfl (size22 dd) ?_) | ((with_reducible refine gate_store (t := 22) rfl ?_); refine wpList_store_mid rfl 22 (.tmp 29) (.tmp 28) rfl wc.heap.size 0 (litD dd) rfl rfl (box_there dd HM0.out.xb) (size22 dd) (dig_one dd) ?_; have HM := Aside0.mk (HM0.out.dig HG.out dd); have zq := (box33 HM.out).1; have zf := (box33 HM.out).2; clear HM0))
  generalize hW0 : ((wc.alloc (.cells zC 26)).setRow wc.heap.size (litC dg (.slice AS c.secs.length cS) (.slice AJ c.justs.length cJ))).setCells wc.heap.size 0 (litD dd).toList = W0 at HM ⊢
  clear hW0 zq zf
  have HMK := Aside0.mk HM.out
  clear HM
  have HS32 := Aside0.mk (show IsSl W0 ⟨wc.heap.size, 32, none⟩ AS c.secs.length cS from ⟨rfl, _, 26, HMK.out.xb, rfl⟩)
  clear HC
  have HC := Aside0.mk (Cz.start HMK.out.hb)
  have zb := (HC.out.sl HS32.out).1
  go_wp2
  go_loopg [8] (c.secs.length + 1) (fun kq v8 w' => ∃ i : Int, v8 = .int .i64 i ∧ Aside0 (0 ≤ i ∧ i ≤ c.secs.length ∧ c.secs.length - i < kq) ∧ Aside0 (Cz ((w.alloc (.cells (litC dg (.slice A c.secs.length a) (.slice B c.justs.length b)) 26)).alloc (.cells (litD dd) 22)) W0 w'))
  case atStart => exact ⟨0, rfl, ⟨by omega, by omega, by omega⟩, HC⟩
  case round =>
    clear HC zb
    obtain ⟨i, rfl, HI, HC⟩ := hrel
    cases gk with
    | zero => exact absurd HI.out (by omega)
    | succ k2 =>
      obtain ⟨i0, i1, ik⟩ := HI.out
      have zb := (HC.out.sl HS32.out).1
      by_cases hi' : i < c.secs.length
      · obtain ⟨ad, Ah, ch, Al, cl, ead, nI, sH, sL, rH, rL⟩ := secM_at HMK.out.bs i i0 hi'
        cases ead
        have hok := ((chk_zero c).1 HK.out).2.2.2.1 _ (rdS_mem c.secs i i0 hi')
        unfold secOk at hok
        simp only [Bool.and_eq_true, decide_eq_true_eq, beq_iff_eq] at hok
        obtain ⟨s, hs⟩ : ∃ s, s = rdS c.secs i := ⟨_, rfl⟩
        rw [← hs] at sH sL rH rL hok
        obtain ⟨⟨⟨⟨⟨⟨o1, o2⟩, o3⟩, _⟩, _⟩, _⟩, _⟩ := hok
        obtain ⟨kl, hkl⟩ : ∃ kl : Int, kl = (s.live.length : Int) - 1 := ⟨_, rfl⟩
        obtain ⟨gh, egh, nH⟩ := numM_at rH 0 (by omega)
        cases egh
        obtain ⟨gl, egl, nL⟩ := numM_at rL kl.toNat (by omega)
        cases egl
        have HNI := Aside0.mk nI
        have HSH := Aside0.mk sH
        have HSL := Aside0.mk sL
        have HNL := Aside0.mk nL
        have hc1 := HC.out.put nI
        have HC1 := Aside0.mk hc1
        have HC2 := Aside0.mk (hc1.put nH)
        have zb1 := (hc1.sl HS32.out).1
        have zh1 := (hc1.sl sH).1
        obtain ⟨ve, z1, z2⟩ := HC.out.num nI
        obtain ⟨vh, z3, z4⟩ := hc1.num nH
        have cid : decide (i < (c.secs.length : Int)) = true := decide_eq_true hi'
        have si1 := eq_true i0
        have si2 := eq_true hi'
        have sh2 : ((0 : Int) < (s.held.length : Int)) = True := eq_true (by omega)
        have sh3 : (0 < s.held.length) = True := eq_true (by omega)
        have sl1 : (0 ≤ kl) = True := eq_true (by omega)
        have sl2 : (kl < (s.live.length : Int)) = True := eq_true (by omega)
        have hwi : wrap64 (i + 1) = i + 1 := by have := H40.out; unfold wrap64; omega
        have HWI := Aside0.mk hwi
        have hwl : wrap64 ((s.live.length : Int) - 1) = kl := by rw [hkl]; unfold wrap64; omega
        clear hs o1 o2 o3 nI sH sL rH rL nH nL i0 i1 ik hi' hwi hc1 hkl
        go_wp2
        refine start_any (n := 16) (S := fun w' => Cz ((w.alloc (.cells (litC dg (.slice A c.secs.length a) (.slice B c.justs.length b)) 26)).alloc (.cells (litD dd) 22)) W0 w') (ds := []) kk16 (by kernel_rfl) rfl rfl (HC2.out.below (below_drew1 (Below.refl _ _))) (fun wd hHeld => ?_); refine with_tabW l15.tab15 l15.bits15 (fun HT_ HW_ => ?_)
        refine pure_ (i := 0) (N := some 61) (v := ?_) (a' := ?_) kk15 rfl rfl (any_of HT_.out (by kernel_rfl)) (fun _ _ _ h => h) (Or.inl ⟨by rfl, ?_⟩) ?_ ?_
        rotate_left
        · intro w'
          go_simp
          with_reducible rfl
        rotate_left
        · simp only [Act.put, List.setIfInBounds_toArray, List.set_cons_zero, List.set_cons_succ, i64_w, i32_w]
          rfl
        refine take_ (i := 1) (N := some 62) (v := ?_) (a' := ?_) kk14 rfl rfl (take_ofW HT_.out HW_.out (by kernel_rfl)) (fun _ _ _ h => h) (Or.inl ⟨by rfl, ?_⟩) hHeld ?_ ?_
        rotate_left
        · intro w' hw'
          have hq := (Cz.sl hw' HS32.out).1
          go_simp
          with_reducible rfl
        rotate_left
        · simp only [Act.put, List.setIfInBounds_toArray, List.set_cons_zero, List.set_cons_succ, i64_w, i32_w]
          rfl
        refine pure_ (i := 2) (N := some 63) (v := ?_) (a' := ?_) kk13 rfl rfl (any_of HT_.out (by kernel_rfl)) (fun _ _ _ h => h) (Or.inl ⟨by rfl, ?_⟩) ?_ ?_
        rotate_left
        · intro w'
          go_simp
          with_reducible rfl
        rotate_left
        · simp only [Act.put, List.setIfInBounds_toArray, List.set_cons_zero, List.set_cons_succ, i64_w, i32_w]
          rfl
        refine pure_ (i := 3) (N := some 64) (v := ?_) (a' := ?_) kk12 rfl rfl (any_of HT_.out (by kernel_rfl)) (fun _ _ _ h => h) (Or.inl ⟨by rfl, ?_⟩) ?_ ?_
        rotate_left
        · intro w'
          go_simp
          with_reducible rfl
        rotate_left
        · simp only [Act.put, List.setIfInBounds_toArray, List.set_cons_zero, List.set_cons_succ, i64_w, i32_w]
          rfl
        refine pure_ (i := 4) (N := some 65) (v := ?_) (a' := ?_) kk11 rfl rfl (any_of HT_.out (by kernel_rfl)) (fun _ _ _ h => h) (Or.inl ⟨by rfl, ?_⟩) ?_ ?_
        rotate_left
        · intro w'
          go_simp
          with_reducible rfl
        rotate_left
        · simp only [Act.put, List.setIfInBounds_toArray, List.set_cons_zero, List.set_cons_succ, i64_w, i32_w]
          rfl
        refine take_ (i := 5) (N := some 66) (v := ?_) (a' := ?_) kk10 rfl rfl (take_ofW HT_.out HW_.out (by kernel_rfl)) (fun _ _ _ h => h) (Or.inl ⟨by rfl, ?_⟩) hHeld ?_ ?_
        rotate_left
        · intro w' hw'
          have hq := (Cz.sl hw' HSL.out).1
          go_simp
          with_reducible rfl
        rotate_left
        · simp only [Act.put, List.setIfInBounds_toArray, List.set_cons_zero, List.set_cons_succ, i64_w, i32_w]
          rfl
        refine pure_ (i := 6) (N := some 67) (v := ?_) (a' := ?_) kk9 rfl rfl (any_of HT_.out (by kernel_rfl)) (fun _ _ _ h => h) (Or.inl ⟨by rfl, ?_⟩) ?_ ?_
        rotate_left
        · intro w'
          go_simp
          with_reducible rfl
        rotate_left
        · simp only [Act.put, List.setIfInBounds_toArray, List.set_cons_zero, List.set_cons_succ, i64_w, i32_w]
          rfl
        refine take_ (i := 7) (N := some 68) (v := ?_) (a' := ?_) kk8 rfl rfl (take_ofW HT_.out HW_.out (by kernel_rfl)) (fun _ _ _ h => h) (Or.inl ⟨by rfl, ?_⟩) hHeld ?_ ?_
        rotate_left
        · intro w' hw'
          have hq := (Cz.sl hw' HS32.out).1
          go_simp
          with_reducible rfl
        rotate_left
        · simp only [Act.put, List.setIfInBounds_toArray, List.set_cons_zero, List.set_cons_succ, i64_w, i32_w]
          rfl
        refine pure_ (i := 8) (N := some 69) (v := ?_) (a' := ?_) kk7 rfl rfl (any_of HT_.out (by kernel_rfl)) (fun _ _ _ h => h) (Or.inl ⟨by rfl, ?_⟩) ?_ ?_
        rotate_left
        · intro w'
          go_simp
          with_reducible rfl
        rotate_left
        · simp only [Act.put, List.setIfInBounds_toArray, List.set_cons_zero, List.set_cons_succ, i64_w, i32_w]
          rfl
        refine pure_ (i := 9) (N := some 70) (v := ?_) (a' := ?_) kk6 rfl rfl (any_of HT_.out (by kernel_rfl)) (fun _ _ _ h => h) (Or.inl ⟨by rfl, ?_⟩) ?_ ?_
        rotate_left
        · intro w'
          go_simp
          with_reducible rfl
        rotate_left
        · simp only [Act.put, List.setIfInBounds_toArray, List.set_cons_zero, List.set_cons_succ, i64_w, i32_w]
          rfl
        refine pure_ (i := 10) (N := some 71) (v := ?_) (a' := ?_) kk5 rfl rfl (any_of HT_.out (by kernel_rfl)) (fun _ _ _ h => h) (Or.inl ⟨by rfl, ?_⟩) ?_ ?_
        rotate_left
        · intro w'
          go_simp
          with_reducible rfl
        rotate_left
        · simp only [Act.put, List.setIfInBounds_toArray, List.set_cons_zero, List.set_cons_succ, i64_w, i32_w]
          rfl
        refine take_ (i := 11) (N := some 72) (v := ?_) (a' := ?_) kk4 rfl rfl (take_ofW HT_.out HW_.out (by kernel_rfl)) (fun _ _ _ h => h) (Or.inl ⟨by rfl, ?_⟩) hHeld ?_ ?_
        rotate_left
        · intro w' hw'
          have hq := (Cz.sl hw' HSL.out).1
          go_simp
          with_reducible rfl
        rotate_left
        · simp only [Act.put, List.setIfInBounds_toArray, List.set_cons_zero, List.set_cons_succ, i64_w, i32_w]
          rfl
        refine pure_ (i := 12) (N := some 73) (v := ?_) (a' := ?_) kk3 rfl rfl (any_of HT_.out (by kernel_rfl)) (fun _ _ _ h => h) (Or.inl ⟨by rfl, ?_⟩) ?_ ?_
        rotate_left
        · intro w'
          go_simp
          with_reducible rfl
        rotate_left
        · simp only [Act.put, List.setIfInBounds_toArray, List.set_cons_zero, List.set_cons_succ, i64_w, i32_w]
          rfl
        refine pure_ (i := 13) (N := some 74) (v := ?_) (a' := ?_) kk2 rfl rfl (any_of HT_.out (by kernel_rfl)) (fun _ _ _ h => h) (Or.inl ⟨by rfl, ?_⟩) ?_ ?_
        rotate_left
        · intro w'
          go_simp
          with_reducible rfl
        rotate_left
        · simp only [Act.put, List.setIfInBounds_toArray, List.set_cons_zero, List.set_cons_succ, i64_w, i32_w]
          rfl
        refine pure_ (i := 14) (N := some 75) (v := ?_) (a' := ?_) kk1 rfl rfl (any_of HT_.out (by kernel_rfl)) (fun _ _ _ h => h) (Or.inl ⟨by rfl, ?_⟩) ?_ ?_
        rotate_left
        · intro w'
          go_simp
          with_reducible rfl
        rotate_left
        · simp only [Act.put, List.setIfInBounds_toArray, List.set_cons_zero, List.set_cons_succ, i64_w, i32_w]
          rfl
        refine one_ (i := 15) (N := none) kk0 rfl rfl (one_of HT_.out (by kernel_rfl)) (by decide) (fun K hK => ?_)
        obtain ⟨v15, c15, f15⟩ := hHeld.num HNL.out
        refine skip_ (w1 := ?_) (by rfl) rfl ?_ ?_
        rotate_left
        · go_simp
          rfl
        have HC3 := Aside0.mk (hHeld.put HNL.out)
        clear c15 f15
        refine hK.out _ _ HC3.out (fun hHeld => ?_)
        clear hK K
        refine done_ (done_of HT_.out (by kernel_rfl)) ?_
        go_wp2
        go_roundg k2
        case measure => omega
        case rel => exact ⟨i + 1, (by rw [HWI.out]), ⟨by have := HI.out; omega, by have := HI.out; have := of_eq_true si2; omega, by have := HI.out; omega⟩, HC3⟩
      · have cid : decide (i < (c.secs.length : Int)) = false := decide_eq_false hi'
        obtain ⟨c', hk', hsh', hv', hx'⟩ := HMK.out.final HC.out HK.out
        have HK2 := Aside0.mk hk'
        have HH2 := Aside0.mk hsh'
        have HV2 := Aside0.mk hv'
        have HX2 := Aside0.mk hx'
        have HZ2 := Aside0.mk (size26 (cs := (litC dd (.slice AS c'.secs.length cS) (.slice AJ c'.justs.length cJ))) rfl)
        clear i0 i1 ik hi' HI hk' hsh' hv' hx'
        go_wp2_with (first | ((with_reducible refine gate_dst (N := 77) rfl ?_); refine wpList_load_row rfl 26 (.tmp 7) rfl wc.heap.size rfl 26 (litC dd (.slice AS c'.secs.length cS) (.slice AJ c'.justs.length cJ)) (0, 0) _ HX2.out Try.underlying26 rfl HZ2.out ?_) | (go_at_call 10; (with_reducible refine (check_is c' _ AS AJ cS cJ 0 0 _ HV2.out HH2.out HK2.out).mono ?_); rintro e' w7 ⟨rfl, hb⟩; have HE := Aside0.mk hb; clear hb))
        have hd := dig_eq dg dd HY.out HY'.out
        obtain ⟨rd, hrd⟩ : ∃ rd, eqB (dl dg) (dl dd) = rd := ⟨_, rfl⟩
        obtain ⟨fu, hfu⟩ : ∃ fu, alB c c' dg dd = fu := ⟨_, rfl⟩
        rw [hrd] at hd
        have HRD := Aside0.mk hrd
        have HR := Aside0.mk hfu
        clear hrd hfu
        refine start_any (n := 22) (S := fun w' => Below wr.heap.size wr w') (ds := []) kk39 (by kernel_rfl) rfl rfl (below_drew1 HE.out) (fun wd hHeld => ?_); refine with_tabW l17.tab17 l17.bits17 (fun HT_ HW_ => ?_)
        clear HE
        have HE := Aside0.mk hHeld
        refine pure_ (i := 0) (N := some 81) (v := ?_) (a' := ?_) kk38 rfl rfl (any_of HT_.out (by kernel_rfl)) (fun _ _ _ h => h) (Or.inl ⟨by rfl, ?_⟩) ?_ ?_
        rotate_left
        · intro w'
          go_simp
          with_reducible rfl
        rotate_left
        · simp only [Act.put, List.setIfInBounds_toArray, List.set_cons_zero, List.set_cons_succ, i64_w, i32_w]
          rfl
        refine pure_ (i := 1) (N := some 82) (v := ?_) (a' := ?_) kk37 rfl rfl (any_of HT_.out (by kernel_rfl)) (fun _ _ _ h => h) (Or.inl ⟨by rfl, ?_⟩) ?_ ?_
        rotate_left
        · intro w'
          go_simp
          with_reducible rfl
        rotate_left
        · simp only [Act.put, List.setIfInBounds_toArray, List.set_cons_zero, List.set_cons_succ, i64_w, i32_w]
          rfl
        refine pure_ (i := 2) (N := some 83) (v := ?_) (a' := ?_) kk36 rfl rfl (any_of HT_.out (by kernel_rfl)) (fun _ _ _ h => h) (Or.inl ⟨by rfl, ?_⟩) ?_ ?_
        rotate_left
        · intro w'
          go_simp
          with_reducible rfl
        rotate_left
        · simp only [Act.put, List.setIfInBounds_toArray, List.set_cons_zero, List.set_cons_succ, i64_w, i32_w]
          rfl
        refine pure_ (i := 3) (N := some 84) (v := ?_) (a' := ?_) kk35 rfl rfl (any_of HT_.out (by kernel_rfl)) (fun _ _ _ h => h) (Or.inl ⟨by rfl, ?_⟩) ?_ ?_
        rotate_left
        · intro w'
          go_simp
          with_reducible rfl
        rotate_left
        · simp only [Act.put, List.setIfInBounds_toArray, List.set_cons_zero, List.set_cons_succ, i64_w, i32_w]
          rfl
        refine pure_ (i := 4) (N := some 85) (v := ?_) (a' := ?_) kk34 rfl rfl (any_of HT_.out (by kernel_rfl)) (fun _ _ _ h => h) (Or.inl ⟨by rfl, ?_⟩) ?_ ?_
        rotate_left
        · intro w'
          go_simp
          with_reducible rfl
        rotate_left
        · simp only [Act.put, List.setIfInBounds_toArray, List.set_cons_zero, List.set_cons_succ, i64_w, i32_w]
          rfl
        refine pure_ (i := 5) (N := some 86) (v := ?_) (a' := ?_) kk33 rfl rfl (any_of HT_.out (by kernel_rfl)) (fun _ _ _ h => h) (Or.inl ⟨by rfl, ?_⟩) ?_ ?_
        rotate_left
        · intro w'
          go_simp
          with_reducible rfl
        rotate_left
        · simp only [Act.put, List.setIfInBounds_toArray, List.set_cons_zero, List.set_cons_succ, i64_w, i32_w]
          rfl
        refine pure_ (i := 6) (N := some 87) (v := ?_) (a' := ?_) kk32 rfl rfl (any_of HT_.out (by kernel_rfl)) (fun _ _ _ h => h) (Or.inl ⟨by rfl, ?_⟩) ?_ ?_
        rotate_left
        · intro w'
          go_simp
          with_reducible rfl
        rotate_left
        · simp only [Act.put, List.setIfInBounds_toArray, List.set_cons_zero, List.set_cons_succ, i64_w, i32_w]
          rfl
        refine take_ (i := 7) (N := some 88) (v := ?_) (a' := ?_) kk31 rfl rfl (take_ofW HT_.out HW_.out (by kernel_rfl)) (fun _ _ _ h => h) (Or.inl ⟨by rfl, ?_⟩) hHeld ?_ ?_
        rotate_left
        · intro w' hw'
          refine Eq.trans (exec_load 26 (.tmp 2) rfl w.heap.size 0 rfl _ (run_loadVar_row w' w.heap.size 26 26 (litC dg (.slice A c.secs.length a) (.slice B c.justs.length b)) (0, 0) _ (HX.out w' (below_step HC.out.hb hw')) Try.underlying26 rfl HZ.out)) ?_
          with_reducible rfl
        rotate_left
        · simp only [Act.put, List.setIfInBounds_toArray, List.set_cons_zero, List.set_cons_succ, i64_w, i32_w]
          rfl
        refine take_ (i := 8) (N := some 89) (v := ?_) (a' := ?_) kk30 rfl rfl (take_ofW HT_.out HW_.out (by kernel_rfl)) (fun _ _ _ h => h) (Or.inl ⟨by rfl, ?_⟩) hHeld ?_ ?_
        rotate_left
        · intro w' hw'
          refine Eq.trans (exec_load 26 (.tmp 7) rfl wc.heap.size 0 rfl _ (run_loadVar_row w' wc.heap.size 26 26 (litC dd (.slice AS c'.secs.length cS) (.slice AJ c'.justs.length cJ)) (0, 0) _ ((hw'.block wc.heap.size (lt_of_heap HX2.out)).trans HX2.out) Try.underlying26 rfl HZ2.out)) ?_
          with_reducible rfl
        rotate_left
        · simp only [Act.put, List.setIfInBounds_toArray, List.set_cons_zero, List.set_cons_succ, i64_w, i32_w]
          rfl
        refine pure_ (i := 10) (N := some 91) (v := ?_) (a' := ?_) kk29 rfl rfl (any_of HT_.out (by kernel_rfl)) (fun _ _ _ h => h) (Or.inl ⟨by rfl, ?_⟩) ?_ ?_
        rotate_left
        · intro w'
          go_simp
          with_reducible rfl
        rotate_left
        · simp only [Act.put, List.setIfInBounds_toArray, List.set_cons_zero, List.set_cons_succ, i64_w, i32_w]
          rfl
        refine take_ (i := 11) (N := some 92) (v := ?_) (a' := ?_) kk28 rfl rfl (take_ofW HT_.out HW_.out (by kernel_rfl)) (fun _ _ _ h => h) (Or.inl ⟨by rfl, ?_⟩) hHeld ?_ ?_
        rotate_left
        · intro w' hw'
          refine Eq.trans (exec_load 22 (.tmp 91) rfl w.heap.size 0 rfl _ (run_loadVar_sub w' w.heap.size 0 26 22 _ (litD dg) (0, 0) _ (HX.out w' (below_step HC.out.hb hw')) (dig_sub dg _ _) Try.underlying22 rfl (size22 dg))) ?_
          with_reducible rfl
        rotate_left
        · simp only [Act.put, List.setIfInBounds_toArray, List.set_cons_zero, List.set_cons_succ, i64_w, i32_w]
          rfl
        refine take_ (i := 12) (N := some 93) (v := ?_) (a' := ?_) kk27 rfl rfl (take_ofW HT_.out HW_.out (by kernel_rfl)) (fun _ _ _ h => h) (Or.inl ⟨by rfl, ?_⟩) hHeld ?_ ?_
        rotate_left
        · intro w' hw'
          refine Eq.trans (exec_load 22 (.tmp 3) rfl (w.heap.size + 1) 0 rfl _ (run_loadVar_row w' (w.heap.size + 1) 22 22 (litD dd) (0, 0) _ (HX'.out w' (below_step HC.out.hb hw')) Try.underlying22 rfl (size22 dd))) ?_
          with_reducible rfl
        rotate_left
        · simp only [Act.put, List.setIfInBounds_toArray, List.set_cons_zero, List.set_cons_succ, i64_w, i32_w]
          rfl
        refine pure_ (i := 13) (N := some 94) (v := ?_) (a' := ?_) kk26 rfl rfl (any_of HT_.out (by kernel_rfl)) (fun _ _ _ h => h) (Or.inl ⟨by rfl, ?_⟩) ?_ ?_
        rotate_left
        · intro w'
          go_simp
          with_reducible rfl
        rotate_left
        · simp only [Act.put, List.setIfInBounds_toArray, List.set_cons_zero, List.set_cons_succ, i64_w, i32_w]
          rfl
        refine one_ (i := 9) (N := some 90) kk25 rfl rfl (one_of HT_.out (by kernel_rfl)) (by decide) (fun K hK => ?_)
        refine goes_ Try.func14 (by kernel_rfl) rfl #[.agg (litC dg (.slice A c.secs.length a) (.slice B c.justs.length b)), .agg (litC dd (.slice AS c'.secs.length cS) (.slice AJ c'.justs.length cJ))] (by rfl) rfl rfl (by (try simp only [List.map_toArray, List.map_cons, List.map_nil]); first | done | rfl) ?_
        with_reducible refine (same_is c c' dg dd A B AS AJ a b cS cJ fu _ (HV.out.below (below_step HW2.out (below_step HC.out.hb HE.out))) (HV2.out.below HE.out) HF.out HY.out HY'.out HR.out).mono ?_
        rintro e x9 ⟨rfl, hb⟩
        refine ⟨_, rfl, ?_⟩
        have n_ := Aside0.mk (below_step HE.out hb)
        clear HE
        have HE := n_
        clear n_ hb
        refine hK.out _ _ HE.out (fun hHeld => ?_)
        clear hK K
        refine norm_ (a' := ?_) ?_ ?_
        rotate_left
        · show Act.put _ (some 90) _ = _
          simp only [Act.put, List.setIfInBounds_toArray, List.set_cons_zero, List.set_cons_succ, i64_w, i32_w]
          rfl
        refine pure_ (i := 14) (N := some 95) (v := ?_) (a' := ?_) kk24 rfl rfl (any_of HT_.out (by kernel_rfl)) (fun _ _ _ h => h) (Or.inl ⟨by rfl, ?_⟩) ?_ ?_
        rotate_left
        · intro w'
          go_simp
          with_reducible rfl
        rotate_left
        · simp only [Act.put, List.setIfInBounds_toArray, List.set_cons_zero, List.set_cons_succ, i64_w, i32_w]
          rfl
        cases rd with
        | true =>
          refine take_ (i := 15) (N := some 96) (v := ?_) (a' := ?_) kk23 rfl rfl (take_ofW HT_.out HW_.out (by kernel_rfl)) (fun _ _ _ h => h) (Or.inl ⟨by rfl, ?_⟩) hHeld ?_ ?_
          rotate_left
          · intro w' hw'
            refine Eq.trans (exec_load 26 (.tmp 2) rfl w.heap.size 0 rfl _ (run_loadVar_row w' w.heap.size 26 26 (litC dg (.slice A c.secs.length a) (.slice B c.justs.length b)) (0, 0) _ (HX.out w' (below_step HC.out.hb hw')) Try.underlying26 rfl HZ.out)) ?_
            with_reducible rfl
          rotate_left
          · simp only [Act.put, List.setIfInBounds_toArray, List.set_cons_zero, List.set_cons_succ, i64_w, i32_w]
            rfl
          refine take_ (i := 16) (N := some 97) (v := ?_) (a' := ?_) kk22 rfl rfl (take_ofW HT_.out HW_.out (by kernel_rfl)) (fun _ _ _ h => h) (Or.inl ⟨by rfl, ?_⟩) hHeld ?_ ?_
          rotate_left
          · intro w' hw'
            refine Eq.trans (exec_load 26 (.tmp 7) rfl wc.heap.size 0 rfl _ (run_loadVar_row w' wc.heap.size 26 26 (litC dd (.slice AS c'.secs.length cS) (.slice AJ c'.justs.length cJ)) (0, 0) _ ((hw'.block wc.heap.size (lt_of_heap HX2.out)).trans HX2.out) Try.underlying26 rfl HZ2.out)) ?_
            with_reducible rfl
          rotate_left
          · simp only [Act.put, List.setIfInBounds_toArray, List.set_cons_zero, List.set_cons_succ, i64_w, i32_w]
            rfl
          refine one_ (i := 17) (N := some 98) kk21 rfl rfl (one_of HT_.out (by kernel_rfl)) (by decide) (fun K hK => ?_)
          refine goes_ Try.func13 (by kernel_rfl) rfl #[.agg (litC dg (.slice A c.secs.length a) (.slice B c.justs.length b)), .agg (litC dd (.slice AS c'.secs.length cS) (.slice AJ c'.justs.length cJ))] (by rfl) rfl rfl (by (try simp only [List.map_toArray, List.map_cons, List.map_nil]); first | done | rfl) ?_
          with_reducible refine (rsame_is c c' dg dd A B AS AJ a b cS cJ fu _ (HV.out.below (below_step HW2.out (below_step HC.out.hb HE.out))) (HV2.out.below HE.out) HF.out HY.out HY'.out HR.out).mono ?_
          rintro e x17 ⟨rfl, hb⟩
          refine ⟨_, rfl, ?_⟩
          have n_ := Aside0.mk (below_step HE.out hb)
          clear HE
          have HE := n_
          clear n_ hb
          refine hK.out _ _ HE.out (fun hHeld => ?_)
          clear hK K
          refine norm_ (a' := ?_) ?_ ?_
          rotate_left
          · show Act.put _ (some 98) _ = _
            simp only [Act.put, List.setIfInBounds_toArray, List.set_cons_zero, List.set_cons_succ, i64_w, i32_w]
            rfl
          refine pure_ (i := 18) (N := some 99) (v := ?_) (a' := ?_) kk20 rfl rfl (any_of HT_.out (by kernel_rfl)) (fun _ _ _ h => h) (Or.inl ⟨by rfl, ?_⟩) ?_ ?_
          rotate_left
          · intro w'
            go_simp
            with_reducible rfl
          rotate_left
          · simp only [Act.put, List.setIfInBounds_toArray, List.set_cons_zero, List.set_cons_succ, i64_w, i32_w]
            rfl
          refine pure_ (i := 19) (N := some 100) (v := ?_) (a' := ?_) kk19 rfl rfl (any_of HT_.out (by kernel_rfl)) (fun _ _ _ h => h) (Or.inl ⟨by rfl, ?_⟩) ?_ ?_
          rotate_left
          · intro w'
            go_simp
            with_reducible rfl
          rotate_left
          · simp only [Act.put, List.setIfInBounds_toArray, List.set_cons_zero, List.set_cons_succ, i64_w, i32_w]
            rfl
          refine pure_ (i := 20) (N := some 101) (v := ?_) (a' := ?_) kk18 rfl rfl (any_of HT_.out (by kernel_rfl)) (fun _ _ _ h => h) (Or.inl ⟨by rfl, ?_⟩) ?_ ?_
          rotate_left
          · intro w'
            go_simp
            with_reducible rfl
          rotate_left
          · simp only [Act.put, List.setIfInBounds_toArray, List.set_cons_zero, List.set_cons_succ, i64_w, i32_w]
            rfl
          refine pure_ (i := 21) (N := some 4) (v := ?_) (a' := ?_) kk17 rfl rfl (any_of HT_.out (by kernel_rfl)) (fun _ _ _ h => h) (Or.inl ⟨by rfl, ?_⟩) ?_ ?_
          rotate_left
          · intro w'
            go_simp
            with_reducible rfl
          rotate_left
          · simp only [Act.put, List.setIfInBounds_toArray, List.set_cons_zero, List.set_cons_succ, i64_w, i32_w]
            rfl
          refine done_ (done_of HT_.out (by kernel_rfl)) ?_
          try go_wp2
          go_ret
          exact ⟨by first | rfl | (simp; done), below_step HW2.out (below_step HC.out.hb HE.out)⟩
        | false =>
          have hfu : fu = false := by rw [← HR.out]; unfold alB; rw [HRD.out]; rfl
          clear HR
          subst hfu
          refine pure_ (i := 15) (N := some 96) (v := undef) (a' := ?_) kk23 rfl rfl (any_of HT_.out (by kernel_rfl)) (fun _ _ _ h => h) (Or.inr ⟨by rfl, rfl⟩) ?_ ?_
          rotate_left
          · simp only [Act.put, List.setIfInBounds_toArray, List.set_cons_zero, List.set_cons_succ, i64_w, i32_w]
            rfl
          refine pure_ (i := 16) (N := some 97) (v := undef) (a' := ?_) kk22 rfl rfl (any_of HT_.out (by kernel_rfl)) (fun _ _ _ h => h) (Or.inr ⟨by rfl, rfl⟩) ?_ ?_
          rotate_left
          · simp only [Act.put, List.setIfInBounds_toArray, List.set_cons_zero, List.set_cons_succ, i64_w, i32_w]
            rfl
          refine pure_ (i := 17) (N := some 98) (v := undef) (a' := ?_) kk21 rfl rfl (any_of HT_.out (by kernel_rfl)) (fun _ _ _ h => h) (Or.inr ⟨by rfl, rfl⟩) ?_ ?_
          rotate_left
          · simp only [Act.put, List.setIfInBounds_toArray, List.set_cons_zero, List.set_cons_succ, i64_w, i32_w]
            rfl
          refine pure_ (i := 18) (N := some 99) (v := ?_) (a' := ?_) kk20 rfl rfl (any_of HT_.out (by kernel_rfl)) (fun _ _ _ h => h) (Or.inl ⟨by rfl, ?_⟩) ?_ ?_
          rotate_left
          · intro w'
            go_simp
            with_reducible rfl
          rotate_left
          · simp only [Act.put, List.setIfInBounds_toArray, List.set_cons_zero, List.set_cons_succ, i64_w, i32_w]
            rfl
          refine pure_ (i := 19) (N := some 100) (v := ?_) (a' := ?_) kk19 rfl rfl (any_of HT_.out (by kernel_rfl)) (fun _ _ _ h => h) (Or.inl ⟨by rfl, ?_⟩) ?_ ?_
          rotate_left
          · intro w'
            go_simp
            with_reducible rfl
          rotate_left
          · simp only [Act.put, List.setIfInBounds_toArray, List.set_cons_zero, List.set_cons_succ, i64_w, i32_w]
            rfl
          refine pure_ (i := 20) (N := some 101) (v := ?_) (a' := ?_) kk18 rfl rfl (any_of HT_.out (by kernel_rfl)) (fun _ _ _ h => h) (Or.inl ⟨by rfl, ?_⟩) ?_ ?_
          rotate_left
          · intro w'
            go_simp
            with_reducible rfl
          rotate_left
          · simp only [Act.put, List.setIfInBounds_toArray, List.set_cons_zero, List.set_cons_succ, i64_w, i32_w]
            rfl
          refine pure_ (i := 21) (N := some 4) (v := ?_) (a' := ?_) kk17 rfl rfl (any_of HT_.out (by kernel_rfl)) (fun _ _ _ h => h) (Or.inl ⟨by rfl, ?_⟩) ?_ ?_
          rotate_left
          · intro w'
            go_simp
            with_reducible rfl
          rotate_left
          · simp only [Act.put, List.setIfInBounds_toArray, List.set_cons_zero, List.set_cons_succ, i64_w, i32_w]
            rfl
          refine done_ (done_of HT_.out (by kernel_rfl)) ?_
          try go_wp2
          go_ret
          exact ⟨by first | rfl | (simp; done), below_step HW2.out (below_step HC.out.hb HE.out)⟩

set_option maxHeartbeats 16000000 in
set_option maxRecDepth 100000 in
theorem less_some (c : Crt) (dg dd : Nat → Int) (A B : Option Addr) (a b : Nat) (w : World) (h : CrtVal w c (litC dg (.slice A c.secs.length a) (.slice B c.justs.length b)) A a B b) (hh : Short c) (hf : fewOk c = true) (n : Int) (hc : chk c = (n, 0)) (hy : Byt dg) (hy' : Byt dd) (m : Nat) (h0 : c.justs.length = m + 1) :
    Calls Try.prog 7 #[.agg #[.int .u8 (dg 0), .int .u8 (dg 1), .int .u8 (dg 2), .int .u8 (dg 3), .int .u8 (dg 4), .int .u8 (dg 5), .int .u8 (dg 6), .int .u8 (dg 7), .int .u8 (dg 8), .int .u8 (dg 9), .int .u8 (dg 10), .int .u8 (dg 11), .int .u8 (dg 12), .int .u8 (dg 13), .int .u8 (dg 14), .int .u8 (dg 15), .int .u8 (dg 16), .int .u8 (dg 17), .int .u8 (dg 18), .int .u8 (dg 19), .int .u8 (dg 20), .int .u8 (dg 21), .int .u8 (dg 22), .int .u8 (dg 23), .int .u8 (dg 24), .int .u8 (dg 25), .int .u8 (dg 26), .int .u8 (dg 27), .int .u8 (dg 28), .int .u8 (dg 29), .int .u8 (dg 30), .int .u8 (dg 31), .slice A c.secs.length a, .slice B c.justs.length b], .agg #[.int .u8 (dd 0), .int .u8 (dd 1), .int .u8 (dd 2), .int .u8 (dd 3), .int .u8 (dd 4), .int .u8 (dd 5), .int .u8 (dd 6), .int .u8 (dd 7), .int .u8 (dd 8), .int .u8 (dd 9), .int .u8 (dd 10), .int .u8 (dd 11), .int .u8 (dd 12), .int .u8 (dd 13), .int .u8 (dd 14), .int .u8 (dd 15), .int .u8 (dd 16), .int .u8 (dd 17), .int .u8 (dd 18), .int .u8 (dd 19), .int .u8 (dd 20), .int .u8 (dd 21), .int .u8 (dd 22), .int .u8 (dd 23), .int .u8 (dd 24), .int .u8 (dd 25), .int .u8 (dd 26), .int .u8 (dd 27), .int .u8 (dd 28), .int .u8 (dd 29), .int .u8 (dd 30), .int .u8 (dd 31)]] w fun e w' => e = .returned (.bool true) ∧ Below w.heap.size w w' := by
  have HF := Aside0.mk hf
  have HC := Aside0.mk hc
  have HY := Aside0.mk hy
  have HY' := Aside0.mk hy'
  have hk : (chk c).2 = 0 := by rw [hc]
  have HK := Aside0.mk hk
  have H40 := Aside0.mk (few_parts hf)
  have d0 : decide ((0 : Int) < (c.justs.length : Int)) = true := decide_eq_true (by omega)
  have d0b : decide (0 < c.justs.length) = true := decide_eq_true (by omega)
  have hw0 : wrap64 ((c.justs.length : Int) - 1) = (m : Int) := by have := (few_parts hf).2.1; unfold wrap64; omega
  have H0 := Aside0.mk h0
  clear h0
  clear hf hc hk hy hy'
  have HV := Aside0.mk h
  have HH := Aside0.mk hh
  have HW2 := Aside0.mk (below_alloc (below_alloc (Below.refl w.heap.size w) (.cells (litC dg (.slice A c.secs.length a) (.slice B c.justs.length b)) 26)) (.cells (litD dd) 22))
  have HB := Aside0.mk (Below.refl ((w.alloc (.cells (litC dg (.slice A c.secs.length a) (.slice B c.justs.length b)) 26)).alloc (.cells (litD dd) 22)).heap.size ((w.alloc (.cells (litC dg (.slice A c.secs.length a) (.slice B c.justs.length b)) 26)).alloc (.cells (litD dd) 22)))
  have hbox : ∀ w', Below ((w.alloc (.cells (litC dg (.slice A c.secs.length a) (.slice B c.justs.length b)) 26)).alloc (.cells (litD dd) 22)).heap.size ((w.alloc (.cells (litC dg (.slice A c.secs.length a) (.slice B c.justs.length b)) 26)).alloc (.cells (litD dd) 22)) w' → w'.heap[w.heap.size]? = some (.cells (litC dg (.slice A c.secs.length a) (.slice B c.justs.length b)) 26) := fun w' hb => by
    rw [hb.block w.heap.size (by simp; omega), heap_alloc2_old]
  have HX := Aside0.mk hbox
  have hbox' : ∀ w', Below ((w.alloc (.cells (litC dg (.slice A c.secs.length a) (.slice B c.justs.length b)) 26)).alloc (.cells (litD dd) 22)).heap.size ((w.alloc (.cells (litC dg (.slice A c.secs.length a) (.slice B c.justs.length b)) 26)).alloc (.cells (litD dd) 22)) w' → w'.heap[w.heap.size + 1]? = some (.cells (litD dd) 22) := fun w' hb => by
    rw [hb.block (w.heap.size + 1) (by simp), heap_alloc2_new]
  have HX' := Aside0.mk hbox'
  have HZ := Aside0.mk (size26 (cs := (litC dg (.slice A c.secs.length a) (.slice B c.justs.length b))) rfl)
  clear h hh hbox hbox'
  go_enter Try.func7, Try.ntmps7
  go_wp2_with (first | ((with_reducible refine gate_callee (f := 8) rfl ?_); refine goesL_ (some 11) rfl rfl Try.func8 (by kernel_rfl) rfl #[] rfl (by (try simp only [List.map_toArray, List.map_cons, List.map_nil]); first | done | rfl) ?_; (with_reducible refine (awake_any _).mono ?_); rintro e w1 ⟨rfl, hb⟩; refine ⟨_, rfl, ?_⟩; have n_ := Aside0.mk (below_step HB.out hb); clear HB; have HB := n_; clear n_ hb) | ((with_reducible refine gate_dst (N := 14) rfl ?_); refine gate_guard (by rfl) ?_; refine wpList_load_row rfl 26 (.tmp 2) rfl w.heap.size rfl 26 (litC dg (.slice A c.secs.length a) (.slice B c.justs.length b)) (0, 0) _ (HX.out _ HB.out) Try.underlying26 rfl HZ.out ?_) | (go_at_call 9; (with_reducible refine (few_is c _ A B a b true _ (HV.out.below (below_step HW2.out HB.out)) HH.out HF.out).mono ?_); rintro e w2 ⟨rfl, hb⟩; have n_ := Aside0.mk (below_step HB.out hb); clear HB; have HB := n_; clear n_ hb) | ((with_reducible refine gate_dst (N := 20) rfl ?_); refine wpList_load_row rfl 26 (.tmp 2) rfl w.heap.size rfl 26 (litC dg (.slice A c.secs.length a) (.slice B c.justs.length b)) (0, 0) _ (HX.out _ HB.out) Try.underlying26 rfl HZ.out ?_) | (go_at_call 10; (with_reducible refine (check_is c _ A B a b n 0 _ (HV.out.below (below_step HW2.out HB.out)) HH.out HC.out).mono ?_); rintro e' w3 ⟨rfl, hb⟩; have n_ := Aside0.mk (below_step HB.out hb); clear HB; have HB := n_; clear n_ hb) | ((with_reducible refine gate_dst (N := 26) rfl ?_); refine wpList_load_row rfl 26 (.tmp 2) rfl w.heap.size rfl 26 (litC dg (.slice A c.secs.length a) (.slice B c.justs.length b)) (0, 0) _ (HX.out _ HB.out) Try.underlying26 rfl HZ.out ?_) | (go_at_call 12; (with_reducible refine (copy_is c dg A B a b _ (HV.out.below (below_step HW2.out HB.out)) HF.out).mono ?_); rintro e wc ⟨AS, cS, AJ, cJ, rfl, hs, hj, hb⟩; obtain ⟨⟨aj, eaj⟩, hcap⟩ := some_of hj (by have := H0.out; omega); cases eaj; have hm1 := eq_true (show (m : Int) ≤ (cJ : Int) by have := H0.out; omega); have hm2 := eq_true (show m ≤ cJ by have := H0.out; omega); clear hcap; have HM0 := Aside0.mk (mk_start HB.out hb hs hj dg); have HG := Aside0.mk (Nat.le_trans HB.out.size hb.size); clear hs hj hb) | ((with_reducible refine gate_store (t := 26) rfl ?_); refine wpList_plain rfl (fun K hK => wp_store_row 26 (.tmp 7) (.tmp 27) rfl wc.heap.size (litC dg (.slice AS c.secs.length cS) (.slice (some aj) c.justs.length cJ)) rfl rfl 26 zC (heap_alloc_new wc _) (by kernel_rfl) rfl (lit_one dg AS (some aj) _ _ cS cJ) (hK _ _ ?_))) | ((with_reducible refine gate_dst (N := 28) rfl ?_); refine wpList_load_row rfl 22 (.tmp 3) rfl (w.heap.size + 1) rfl 22 (litD dd) (0, 0) _ (HX'.out _ HM0.out.hb) Try.underlying22 rfl (size22 dd) ?_) | ((with_reducible refine gate_store (t := 22) rfl ?_); refine wpList_store_mid rfl 22 (.tmp 29) (.tmp 28) rfl wc.heap.size 0 (litD dd) rfl rfl (box_there dd HM0.out.xb) (size22 dd) (dig_one dd) ?_; have HM := Aside0.mk (HM0.out.dig HG.out dd); have zq := (box33 HM.out).1; have zf := (box33 HM.out).2; clear HM0))
  have HMK' := Aside0.mk (HM.out.cut HG.out m (by have := H0.out; omega))
  generalize hW0 : (((wc.alloc (.cells zC 26)).setRow wc.heap.size (litC dg (.slice AS c.secs.length cS) (.slice (some aj) c.justs.length cJ))).setCells wc.heap.size 0 (litD dd).toList).setCell ⟨wc.heap.size, 33, none⟩ (.slice (some aj) m cJ) = W0 at HMK' ⊢
  clear hW0 zq zf HM
  have HMK := Aside0.mk HMK'.out
  clear HMK'
  have HS32 := Aside0.mk (show IsSl W0 ⟨wc.heap.size, 32, none⟩ AS c.secs.length cS from ⟨rfl, _, 26, HMK.out.xb, rfl⟩)
  clear HC
  have HC := Aside0.mk (Cz.start HMK.out.hb)
  have zb := (HC.out.sl HS32.out).1
  go_wp2
  go_loopg [8] (c.secs.length + 1) (fun kq v8 w' => ∃ i : Int, v8 = .int .i64 i ∧ Aside0 (0 ≤ i ∧ i ≤ c.secs.length ∧ c.secs.length - i < kq) ∧ Aside0 (Cz ((w.alloc (.cells (litC dg (.slice A c.secs.length a) (.slice B c.justs.length b)) 26)).alloc (.cells (litD dd) 22)) W0 w'))
  case atStart => exact ⟨0, rfl, ⟨by omega, by omega, by omega⟩, HC⟩
  case round =>
    clear HC zb
    obtain ⟨i, rfl, HI, HC⟩ := hrel
    cases gk with
    | zero => exact absurd HI.out (by omega)
    | succ k2 =>
      obtain ⟨i0, i1, ik⟩ := HI.out
      have zb := (HC.out.sl HS32.out).1
      by_cases hi' : i < c.secs.length
      · obtain ⟨ad, Ah, ch, Al, cl, ead, nI, sH, sL, rH, rL⟩ := secM_at HMK.out.bs i i0 hi'
        cases ead
        have hok := ((chk_zero c).1 HK.out).2.2.2.1 _ (rdS_mem c.secs i i0 hi')
        unfold secOk at hok
        simp only [Bool.and_eq_true, decide_eq_true_eq, beq_iff_eq] at hok
        obtain ⟨s, hs⟩ : ∃ s, s = rdS c.secs i := ⟨_, rfl⟩
        rw [← hs] at sH sL rH rL hok
        obtain ⟨⟨⟨⟨⟨⟨o1, o2⟩, o3⟩, _⟩, _⟩, _⟩, _⟩ := hok
        obtain ⟨kl, hkl⟩ : ∃ kl : Int, kl = (s.live.length : Int) - 1 := ⟨_, rfl⟩
        obtain ⟨gh, egh, nH⟩ := numM_at rH 0 (by omega)
        cases egh
        obtain ⟨gl, egl, nL⟩ := numM_at rL kl.toNat (by omega)
        cases egl
        have HNI := Aside0.mk nI
        have HSH := Aside0.mk sH
        have HSL := Aside0.mk sL
        have HNL := Aside0.mk nL
        have hc1 := HC.out.put nI
        have HC1 := Aside0.mk hc1
        have HC2 := Aside0.mk (hc1.put nH)
        have zb1 := (hc1.sl HS32.out).1
        have zh1 := (hc1.sl sH).1
        obtain ⟨ve, z1, z2⟩ := HC.out.num nI
        obtain ⟨vh, z3, z4⟩ := hc1.num nH
        have cid : decide (i < (c.secs.length : Int)) = true := decide_eq_true hi'
        have si1 := eq_true i0
        have si2 := eq_true hi'
        have sh2 : ((0 : Int) < (s.held.length : Int)) = True := eq_true (by omega)
        have sh3 : (0 < s.held.length) = True := eq_true (by omega)
        have sl1 : (0 ≤ kl) = True := eq_true (by omega)
        have sl2 : (kl < (s.live.length : Int)) = True := eq_true (by omega)
        have hwi : wrap64 (i + 1) = i + 1 := by have := H40.out; unfold wrap64; omega
        have HWI := Aside0.mk hwi
        have hwl : wrap64 ((s.live.length : Int) - 1) = kl := by rw [hkl]; unfold wrap64; omega
        clear hs o1 o2 o3 nI sH sL rH rL nH nL i0 i1 ik hi' hwi hc1 hkl
        go_wp2
        refine start_any (n := 16) (S := fun w' => Cz ((w.alloc (.cells (litC dg (.slice A c.secs.length a) (.slice B c.justs.length b)) 26)).alloc (.cells (litD dd) 22)) W0 w') (ds := []) kk16 (by kernel_rfl) rfl rfl (HC2.out.below (below_drew1 (Below.refl _ _))) (fun wd hHeld => ?_); refine with_tabW l15.tab15 l15.bits15 (fun HT_ HW_ => ?_)
        refine pure_ (i := 0) (N := some 61) (v := ?_) (a' := ?_) kk15 rfl rfl (any_of HT_.out (by kernel_rfl)) (fun _ _ _ h => h) (Or.inl ⟨by rfl, ?_⟩) ?_ ?_
        rotate_left
        · intro w'
          go_simp
          with_reducible rfl
        rotate_left
        · simp only [Act.put, List.setIfInBounds_toArray, List.set_cons_zero, List.set_cons_succ, i64_w, i32_w]
          rfl
        refine take_ (i := 1) (N := some 62) (v := ?_) (a' := ?_) kk14 rfl rfl (take_ofW HT_.out HW_.out (by kernel_rfl)) (fun _ _ _ h => h) (Or.inl ⟨by rfl, ?_⟩) hHeld ?_ ?_
        rotate_left
        · intro w' hw'
          have hq := (Cz.sl hw' HS32.out).1
          go_simp
          with_reducible rfl
        rotate_left
        · simp only [Act.put, List.setIfInBounds_toArray, List.set_cons_zero, List.set_cons_succ, i64_w, i32_w]
          rfl
        refine pure_ (i := 2) (N := some 63) (v := ?_) (a' := ?_) kk13 rfl rfl (any_of HT_.out (by kernel_rfl)) (fun _ _ _ h => h) (Or.inl ⟨by rfl, ?_⟩) ?_ ?_
        rotate_left
        · intro w'
          go_simp
          with_reducible rfl
        rotate_left
        · simp only [Act.put, List.setIfInBounds_toArray, List.set_cons_zero, List.set_cons_succ, i64_w, i32_w]
          rfl
        refine pure_ (i := 3) (N := some 64) (v := ?_) (a' := ?_) kk12 rfl rfl (any_of HT_.out (by kernel_rfl)) (fun _ _ _ h => h) (Or.inl ⟨by rfl, ?_⟩) ?_ ?_
        rotate_left
        · intro w'
          go_simp
          with_reducible rfl
        rotate_left
        · simp only [Act.put, List.setIfInBounds_toArray, List.set_cons_zero, List.set_cons_succ, i64_w, i32_w]
          rfl
        refine pure_ (i := 4) (N := some 65) (v := ?_) (a' := ?_) kk11 rfl rfl (any_of HT_.out (by kernel_rfl)) (fun _ _ _ h => h) (Or.inl ⟨by rfl, ?_⟩) ?_ ?_
        rotate_left
        · intro w'
          go_simp
          with_reducible rfl
        rotate_left
        · simp only [Act.put, List.setIfInBounds_toArray, List.set_cons_zero, List.set_cons_succ, i64_w, i32_w]
          rfl
        refine take_ (i := 5) (N := some 66) (v := ?_) (a' := ?_) kk10 rfl rfl (take_ofW HT_.out HW_.out (by kernel_rfl)) (fun _ _ _ h => h) (Or.inl ⟨by rfl, ?_⟩) hHeld ?_ ?_
        rotate_left
        · intro w' hw'
          have hq := (Cz.sl hw' HSL.out).1
          go_simp
          with_reducible rfl
        rotate_left
        · simp only [Act.put, List.setIfInBounds_toArray, List.set_cons_zero, List.set_cons_succ, i64_w, i32_w]
          rfl
        refine pure_ (i := 6) (N := some 67) (v := ?_) (a' := ?_) kk9 rfl rfl (any_of HT_.out (by kernel_rfl)) (fun _ _ _ h => h) (Or.inl ⟨by rfl, ?_⟩) ?_ ?_
        rotate_left
        · intro w'
          go_simp
          with_reducible rfl
        rotate_left
        · simp only [Act.put, List.setIfInBounds_toArray, List.set_cons_zero, List.set_cons_succ, i64_w, i32_w]
          rfl
        refine take_ (i := 7) (N := some 68) (v := ?_) (a' := ?_) kk8 rfl rfl (take_ofW HT_.out HW_.out (by kernel_rfl)) (fun _ _ _ h => h) (Or.inl ⟨by rfl, ?_⟩) hHeld ?_ ?_
        rotate_left
        · intro w' hw'
          have hq := (Cz.sl hw' HS32.out).1
          go_simp
          with_reducible rfl
        rotate_left
        · simp only [Act.put, List.setIfInBounds_toArray, List.set_cons_zero, List.set_cons_succ, i64_w, i32_w]
          rfl
        refine pure_ (i := 8) (N := some 69) (v := ?_) (a' := ?_) kk7 rfl rfl (any_of HT_.out (by kernel_rfl)) (fun _ _ _ h => h) (Or.inl ⟨by rfl, ?_⟩) ?_ ?_
        rotate_left
        · intro w'
          go_simp
          with_reducible rfl
        rotate_left
        · simp only [Act.put, List.setIfInBounds_toArray, List.set_cons_zero, List.set_cons_succ, i64_w, i32_w]
          rfl
        refine pure_ (i := 9) (N := some 70) (v := ?_) (a' := ?_) kk6 rfl rfl (any_of HT_.out (by kernel_rfl)) (fun _ _ _ h => h) (Or.inl ⟨by rfl, ?_⟩) ?_ ?_
        rotate_left
        · intro w'
          go_simp
          with_reducible rfl
        rotate_left
        · simp only [Act.put, List.setIfInBounds_toArray, List.set_cons_zero, List.set_cons_succ, i64_w, i32_w]
          rfl
        refine pure_ (i := 10) (N := some 71) (v := ?_) (a' := ?_) kk5 rfl rfl (any_of HT_.out (by kernel_rfl)) (fun _ _ _ h => h) (Or.inl ⟨by rfl, ?_⟩) ?_ ?_
        rotate_left
        · intro w'
          go_simp
          with_reducible rfl
        rotate_left
        · simp only [Act.put, List.setIfInBounds_toArray, List.set_cons_zero, List.set_cons_succ, i64_w, i32_w]
          rfl
        refine take_ (i := 11) (N := some 72) (v := ?_) (a' := ?_) kk4 rfl rfl (take_ofW HT_.out HW_.out (by kernel_rfl)) (fun _ _ _ h => h) (Or.inl ⟨by rfl, ?_⟩) hHeld ?_ ?_
        rotate_left
        · intro w' hw'
          have hq := (Cz.sl hw' HSL.out).1
          go_simp
          with_reducible rfl
        rotate_left
        · simp only [Act.put, List.setIfInBounds_toArray, List.set_cons_zero, List.set_cons_succ, i64_w, i32_w]
          rfl
        refine pure_ (i := 12) (N := some 73) (v := ?_) (a' := ?_) kk3 rfl rfl (any_of HT_.out (by kernel_rfl)) (fun _ _ _ h => h) (Or.inl ⟨by rfl, ?_⟩) ?_ ?_
        rotate_left
        · intro w'
          go_simp
          with_reducible rfl
        rotate_left
        · simp only [Act.put, List.setIfInBounds_toArray, List.set_cons_zero, List.set_cons_succ, i64_w, i32_w]
          rfl
        refine pure_ (i := 13) (N := some 74) (v := ?_) (a' := ?_) kk2 rfl rfl (any_of HT_.out (by kernel_rfl)) (fun _ _ _ h => h) (Or.inl ⟨by rfl, ?_⟩) ?_ ?_
        rotate_left
        · intro w'
          go_simp
          with_reducible rfl
        rotate_left
        · simp only [Act.put, List.setIfInBounds_toArray, List.set_cons_zero, List.set_cons_succ, i64_w, i32_w]
          rfl
        refine pure_ (i := 14) (N := some 75) (v := ?_) (a' := ?_) kk1 rfl rfl (any_of HT_.out (by kernel_rfl)) (fun _ _ _ h => h) (Or.inl ⟨by rfl, ?_⟩) ?_ ?_
        rotate_left
        · intro w'
          go_simp
          with_reducible rfl
        rotate_left
        · simp only [Act.put, List.setIfInBounds_toArray, List.set_cons_zero, List.set_cons_succ, i64_w, i32_w]
          rfl
        refine one_ (i := 15) (N := none) kk0 rfl rfl (one_of HT_.out (by kernel_rfl)) (by decide) (fun K hK => ?_)
        obtain ⟨v15, c15, f15⟩ := hHeld.num HNL.out
        refine skip_ (w1 := ?_) (by rfl) rfl ?_ ?_
        rotate_left
        · go_simp
          rfl
        have HC3 := Aside0.mk (hHeld.put HNL.out)
        clear c15 f15
        refine hK.out _ _ HC3.out (fun hHeld => ?_)
        clear hK K
        refine done_ (done_of HT_.out (by kernel_rfl)) ?_
        go_wp2
        go_roundg k2
        case measure => omega
        case rel => exact ⟨i + 1, (by rw [HWI.out]), ⟨by have := HI.out; omega, by have := HI.out; have := of_eq_true si2; omega, by have := HI.out; omega⟩, HC3⟩
      · have cid : decide (i < (c.secs.length : Int)) = false := decide_eq_false hi'
        obtain ⟨c', hk', hsh', hv', hx'⟩ := HMK.out.final HC.out HK.out
        have HK2 := Aside0.mk hk'
        have HH2 := Aside0.mk hsh'
        have HV2 := Aside0.mk hv'
        have HX2 := Aside0.mk hx'
        have HZ2 := Aside0.mk (size26 (cs := (litC dd (.slice AS c'.secs.length cS) (.slice (some aj) c'.justs.length cJ))) rfl)
        clear i0 i1 ik hi' HI hk' hsh' hv' hx'
        go_wp2_with (first | ((with_reducible refine gate_dst (N := 77) rfl ?_); refine wpList_load_row rfl 26 (.tmp 7) rfl wc.heap.size rfl 26 (litC dd (.slice AS c'.secs.length cS) (.slice (some aj) c'.justs.length cJ)) (0, 0) _ HX2.out Try.underlying26 rfl HZ2.out ?_) | (go_at_call 10; (with_reducible refine (check_is c' _ AS (some aj) cS cJ 0 0 _ HV2.out HH2.out HK2.out).mono ?_); rintro e' w7 ⟨rfl, hb⟩; have HE := Aside0.mk hb; clear hb))
        have hd := dig_eq dg dd HY.out HY'.out
        obtain ⟨rd, hrd⟩ : ∃ rd, eqB (dl dg) (dl dd) = rd := ⟨_, rfl⟩
        obtain ⟨fu, hfu⟩ : ∃ fu, alB c c' dg dd = fu := ⟨_, rfl⟩
        rw [hrd] at hd
        have HRD := Aside0.mk hrd
        have HR := Aside0.mk hfu
        clear hrd hfu
        refine start_any (n := 22) (S := fun w' => Below wr.heap.size wr w') (ds := []) kk39 (by kernel_rfl) rfl rfl (below_drew1 HE.out) (fun wd hHeld => ?_); refine with_tabW l17.tab17 l17.bits17 (fun HT_ HW_ => ?_)
        clear HE
        have HE := Aside0.mk hHeld
        refine pure_ (i := 0) (N := some 81) (v := ?_) (a' := ?_) kk38 rfl rfl (any_of HT_.out (by kernel_rfl)) (fun _ _ _ h => h) (Or.inl ⟨by rfl, ?_⟩) ?_ ?_
        rotate_left
        · intro w'
          go_simp
          with_reducible rfl
        rotate_left
        · simp only [Act.put, List.setIfInBounds_toArray, List.set_cons_zero, List.set_cons_succ, i64_w, i32_w]
          rfl
        refine pure_ (i := 1) (N := some 82) (v := ?_) (a' := ?_) kk37 rfl rfl (any_of HT_.out (by kernel_rfl)) (fun _ _ _ h => h) (Or.inl ⟨by rfl, ?_⟩) ?_ ?_
        rotate_left
        · intro w'
          go_simp
          with_reducible rfl
        rotate_left
        · simp only [Act.put, List.setIfInBounds_toArray, List.set_cons_zero, List.set_cons_succ, i64_w, i32_w]
          rfl
        refine pure_ (i := 2) (N := some 83) (v := ?_) (a' := ?_) kk36 rfl rfl (any_of HT_.out (by kernel_rfl)) (fun _ _ _ h => h) (Or.inl ⟨by rfl, ?_⟩) ?_ ?_
        rotate_left
        · intro w'
          go_simp
          with_reducible rfl
        rotate_left
        · simp only [Act.put, List.setIfInBounds_toArray, List.set_cons_zero, List.set_cons_succ, i64_w, i32_w]
          rfl
        refine pure_ (i := 3) (N := some 84) (v := ?_) (a' := ?_) kk35 rfl rfl (any_of HT_.out (by kernel_rfl)) (fun _ _ _ h => h) (Or.inl ⟨by rfl, ?_⟩) ?_ ?_
        rotate_left
        · intro w'
          go_simp
          with_reducible rfl
        rotate_left
        · simp only [Act.put, List.setIfInBounds_toArray, List.set_cons_zero, List.set_cons_succ, i64_w, i32_w]
          rfl
        refine pure_ (i := 4) (N := some 85) (v := ?_) (a' := ?_) kk34 rfl rfl (any_of HT_.out (by kernel_rfl)) (fun _ _ _ h => h) (Or.inl ⟨by rfl, ?_⟩) ?_ ?_
        rotate_left
        · intro w'
          go_simp
          with_reducible rfl
        rotate_left
        · simp only [Act.put, List.setIfInBounds_toArray, List.set_cons_zero, List.set_cons_succ, i64_w, i32_w]
          rfl
        refine pure_ (i := 5) (N := some 86) (v := ?_) (a' := ?_) kk33 rfl rfl (any_of HT_.out (by kernel_rfl)) (fun _ _ _ h => h) (Or.inl ⟨by rfl, ?_⟩) ?_ ?_
        rotate_left
        · intro w'
          go_simp
          with_reducible rfl
        rotate_left
        · simp only [Act.put, List.setIfInBounds_toArray, List.set_cons_zero, List.set_cons_succ, i64_w, i32_w]
          rfl
        refine pure_ (i := 6) (N := some 87) (v := ?_) (a' := ?_) kk32 rfl rfl (any_of HT_.out (by kernel_rfl)) (fun _ _ _ h => h) (Or.inl ⟨by rfl, ?_⟩) ?_ ?_
        rotate_left
        · intro w'
          go_simp
          with_reducible rfl
        rotate_left
        · simp only [Act.put, List.setIfInBounds_toArray, List.set_cons_zero, List.set_cons_succ, i64_w, i32_w]
          rfl
        refine take_ (i := 7) (N := some 88) (v := ?_) (a' := ?_) kk31 rfl rfl (take_ofW HT_.out HW_.out (by kernel_rfl)) (fun _ _ _ h => h) (Or.inl ⟨by rfl, ?_⟩) hHeld ?_ ?_
        rotate_left
        · intro w' hw'
          refine Eq.trans (exec_load 26 (.tmp 2) rfl w.heap.size 0 rfl _ (run_loadVar_row w' w.heap.size 26 26 (litC dg (.slice A c.secs.length a) (.slice B c.justs.length b)) (0, 0) _ (HX.out w' (below_step HC.out.hb hw')) Try.underlying26 rfl HZ.out)) ?_
          with_reducible rfl
        rotate_left
        · simp only [Act.put, List.setIfInBounds_toArray, List.set_cons_zero, List.set_cons_succ, i64_w, i32_w]
          rfl
        refine take_ (i := 8) (N := some 89) (v := ?_) (a' := ?_) kk30 rfl rfl (take_ofW HT_.out HW_.out (by kernel_rfl)) (fun _ _ _ h => h) (Or.inl ⟨by rfl, ?_⟩) hHeld ?_ ?_
        rotate_left
        · intro w' hw'
          refine Eq.trans (exec_load 26 (.tmp 7) rfl wc.heap.size 0 rfl _ (run_loadVar_row w' wc.heap.size 26 26 (litC dd (.slice AS c'.secs.length cS) (.slice (some aj) c'.justs.length cJ)) (0, 0) _ ((hw'.block wc.heap.size (lt_of_heap HX2.out)).trans HX2.out) Try.underlying26 rfl HZ2.out)) ?_
          with_reducible rfl
        rotate_left
        · simp only [Act.put, List.setIfInBounds_toArray, List.set_cons_zero, List.set_cons_succ, i64_w, i32_w]
          rfl
        refine pure_ (i := 10) (N := some 91) (v := ?_) (a' := ?_) kk29 rfl rfl (any_of HT_.out (by kernel_rfl)) (fun _ _ _ h => h) (Or.inl ⟨by rfl, ?_⟩) ?_ ?_
        rotate_left
        · intro w'
          go_simp
          with_reducible rfl
        rotate_left
        · simp only [Act.put, List.setIfInBounds_toArray, List.set_cons_zero, List.set_cons_succ, i64_w, i32_w]
          rfl
        refine take_ (i := 11) (N := some 92) (v := ?_) (a' := ?_) kk28 rfl rfl (take_ofW HT_.out HW_.out (by kernel_rfl)) (fun _ _ _ h => h) (Or.inl ⟨by rfl, ?_⟩) hHeld ?_ ?_
        rotate_left
        · intro w' hw'
          refine Eq.trans (exec_load 22 (.tmp 91) rfl w.heap.size 0 rfl _ (run_loadVar_sub w' w.heap.size 0 26 22 _ (litD dg) (0, 0) _ (HX.out w' (below_step HC.out.hb hw')) (dig_sub dg _ _) Try.underlying22 rfl (size22 dg))) ?_
          with_reducible rfl
        rotate_left
        · simp only [Act.put, List.setIfInBounds_toArray, List.set_cons_zero, List.set_cons_succ, i64_w, i32_w]
          rfl
        refine take_ (i := 12) (N := some 93) (v := ?_) (a' := ?_) kk27 rfl rfl (take_ofW HT_.out HW_.out (by kernel_rfl)) (fun _ _ _ h => h) (Or.inl ⟨by rfl, ?_⟩) hHeld ?_ ?_
        rotate_left
        · intro w' hw'
          refine Eq.trans (exec_load 22 (.tmp 3) rfl (w.heap.size + 1) 0 rfl _ (run_loadVar_row w' (w.heap.size + 1) 22 22 (litD dd) (0, 0) _ (HX'.out w' (below_step HC.out.hb hw')) Try.underlying22 rfl (size22 dd))) ?_
          with_reducible rfl
        rotate_left
        · simp only [Act.put, List.setIfInBounds_toArray, List.set_cons_zero, List.set_cons_succ, i64_w, i32_w]
          rfl
        refine pure_ (i := 13) (N := some 94) (v := ?_) (a' := ?_) kk26 rfl rfl (any_of HT_.out (by kernel_rfl)) (fun _ _ _ h => h) (Or.inl ⟨by rfl, ?_⟩) ?_ ?_
        rotate_left
        · intro w'
          go_simp
          with_reducible rfl
        rotate_left
        · simp only [Act.put, List.setIfInBounds_toArray, List.set_cons_zero, List.set_cons_succ, i64_w, i32_w]
          rfl
        refine one_ (i := 9) (N := some 90) kk25 rfl rfl (one_of HT_.out (by kernel_rfl)) (by decide) (fun K hK => ?_)
        refine goes_ Try.func14 (by kernel_rfl) rfl #[.agg (litC dg (.slice A c.secs.length a) (.slice B c.justs.length b)), .agg (litC dd (.slice AS c'.secs.length cS) (.slice (some aj) c'.justs.length cJ))] (by rfl) rfl rfl (by (try simp only [List.map_toArray, List.map_cons, List.map_nil]); first | done | rfl) ?_
        with_reducible refine (same_is c c' dg dd A B AS (some aj) a b cS cJ fu _ (HV.out.below (below_step HW2.out (below_step HC.out.hb HE.out))) (HV2.out.below HE.out) HF.out HY.out HY'.out HR.out).mono ?_
        rintro e x9 ⟨rfl, hb⟩
        refine ⟨_, rfl, ?_⟩
        have n_ := Aside0.mk (below_step HE.out hb)
        clear HE
        have HE := n_
        clear n_ hb
        refine hK.out _ _ HE.out (fun hHeld => ?_)
        clear hK K
        refine norm_ (a' := ?_) ?_ ?_
        rotate_left
        · show Act.put _ (some 90) _ = _
          simp only [Act.put, List.setIfInBounds_toArray, List.set_cons_zero, List.set_cons_succ, i64_w, i32_w]
          rfl
        refine pure_ (i := 14) (N := some 95) (v := ?_) (a' := ?_) kk24 rfl rfl (any_of HT_.out (by kernel_rfl)) (fun _ _ _ h => h) (Or.inl ⟨by rfl, ?_⟩) ?_ ?_
        rotate_left
        · intro w'
          go_simp
          with_reducible rfl
        rotate_left
        · simp only [Act.put, List.setIfInBounds_toArray, List.set_cons_zero, List.set_cons_succ, i64_w, i32_w]
          rfl
        cases rd with
        | true =>
          refine take_ (i := 15) (N := some 96) (v := ?_) (a' := ?_) kk23 rfl rfl (take_ofW HT_.out HW_.out (by kernel_rfl)) (fun _ _ _ h => h) (Or.inl ⟨by rfl, ?_⟩) hHeld ?_ ?_
          rotate_left
          · intro w' hw'
            refine Eq.trans (exec_load 26 (.tmp 2) rfl w.heap.size 0 rfl _ (run_loadVar_row w' w.heap.size 26 26 (litC dg (.slice A c.secs.length a) (.slice B c.justs.length b)) (0, 0) _ (HX.out w' (below_step HC.out.hb hw')) Try.underlying26 rfl HZ.out)) ?_
            with_reducible rfl
          rotate_left
          · simp only [Act.put, List.setIfInBounds_toArray, List.set_cons_zero, List.set_cons_succ, i64_w, i32_w]
            rfl
          refine take_ (i := 16) (N := some 97) (v := ?_) (a' := ?_) kk22 rfl rfl (take_ofW HT_.out HW_.out (by kernel_rfl)) (fun _ _ _ h => h) (Or.inl ⟨by rfl, ?_⟩) hHeld ?_ ?_
          rotate_left
          · intro w' hw'
            refine Eq.trans (exec_load 26 (.tmp 7) rfl wc.heap.size 0 rfl _ (run_loadVar_row w' wc.heap.size 26 26 (litC dd (.slice AS c'.secs.length cS) (.slice (some aj) c'.justs.length cJ)) (0, 0) _ ((hw'.block wc.heap.size (lt_of_heap HX2.out)).trans HX2.out) Try.underlying26 rfl HZ2.out)) ?_
            with_reducible rfl
          rotate_left
          · simp only [Act.put, List.setIfInBounds_toArray, List.set_cons_zero, List.set_cons_succ, i64_w, i32_w]
            rfl
          refine one_ (i := 17) (N := some 98) kk21 rfl rfl (one_of HT_.out (by kernel_rfl)) (by decide) (fun K hK => ?_)
          refine goes_ Try.func13 (by kernel_rfl) rfl #[.agg (litC dg (.slice A c.secs.length a) (.slice B c.justs.length b)), .agg (litC dd (.slice AS c'.secs.length cS) (.slice (some aj) c'.justs.length cJ))] (by rfl) rfl rfl (by (try simp only [List.map_toArray, List.map_cons, List.map_nil]); first | done | rfl) ?_
          with_reducible refine (rsame_is c c' dg dd A B AS (some aj) a b cS cJ fu _ (HV.out.below (below_step HW2.out (below_step HC.out.hb HE.out))) (HV2.out.below HE.out) HF.out HY.out HY'.out HR.out).mono ?_
          rintro e x17 ⟨rfl, hb⟩
          refine ⟨_, rfl, ?_⟩
          have n_ := Aside0.mk (below_step HE.out hb)
          clear HE
          have HE := n_
          clear n_ hb
          refine hK.out _ _ HE.out (fun hHeld => ?_)
          clear hK K
          refine norm_ (a' := ?_) ?_ ?_
          rotate_left
          · show Act.put _ (some 98) _ = _
            simp only [Act.put, List.setIfInBounds_toArray, List.set_cons_zero, List.set_cons_succ, i64_w, i32_w]
            rfl
          refine pure_ (i := 18) (N := some 99) (v := ?_) (a' := ?_) kk20 rfl rfl (any_of HT_.out (by kernel_rfl)) (fun _ _ _ h => h) (Or.inl ⟨by rfl, ?_⟩) ?_ ?_
          rotate_left
          · intro w'
            go_simp
            with_reducible rfl
          rotate_left
          · simp only [Act.put, List.setIfInBounds_toArray, List.set_cons_zero, List.set_cons_succ, i64_w, i32_w]
            rfl
          refine pure_ (i := 19) (N := some 100) (v := ?_) (a' := ?_) kk19 rfl rfl (any_of HT_.out (by kernel_rfl)) (fun _ _ _ h => h) (Or.inl ⟨by rfl, ?_⟩) ?_ ?_
          rotate_left
          · intro w'
            go_simp
            with_reducible rfl
          rotate_left
          · simp only [Act.put, List.setIfInBounds_toArray, List.set_cons_zero, List.set_cons_succ, i64_w, i32_w]
            rfl
          refine pure_ (i := 20) (N := some 101) (v := ?_) (a' := ?_) kk18 rfl rfl (any_of HT_.out (by kernel_rfl)) (fun _ _ _ h => h) (Or.inl ⟨by rfl, ?_⟩) ?_ ?_
          rotate_left
          · intro w'
            go_simp
            with_reducible rfl
          rotate_left
          · simp only [Act.put, List.setIfInBounds_toArray, List.set_cons_zero, List.set_cons_succ, i64_w, i32_w]
            rfl
          refine pure_ (i := 21) (N := some 4) (v := ?_) (a' := ?_) kk17 rfl rfl (any_of HT_.out (by kernel_rfl)) (fun _ _ _ h => h) (Or.inl ⟨by rfl, ?_⟩) ?_ ?_
          rotate_left
          · intro w'
            go_simp
            with_reducible rfl
          rotate_left
          · simp only [Act.put, List.setIfInBounds_toArray, List.set_cons_zero, List.set_cons_succ, i64_w, i32_w]
            rfl
          refine done_ (done_of HT_.out (by kernel_rfl)) ?_
          try go_wp2
          go_ret
          exact ⟨by first | rfl | (simp; done), below_step HW2.out (below_step HC.out.hb HE.out)⟩
        | false =>
          have hfu : fu = false := by rw [← HR.out]; unfold alB; rw [HRD.out]; rfl
          clear HR
          subst hfu
          refine pure_ (i := 15) (N := some 96) (v := undef) (a' := ?_) kk23 rfl rfl (any_of HT_.out (by kernel_rfl)) (fun _ _ _ h => h) (Or.inr ⟨by rfl, rfl⟩) ?_ ?_
          rotate_left
          · simp only [Act.put, List.setIfInBounds_toArray, List.set_cons_zero, List.set_cons_succ, i64_w, i32_w]
            rfl
          refine pure_ (i := 16) (N := some 97) (v := undef) (a' := ?_) kk22 rfl rfl (any_of HT_.out (by kernel_rfl)) (fun _ _ _ h => h) (Or.inr ⟨by rfl, rfl⟩) ?_ ?_
          rotate_left
          · simp only [Act.put, List.setIfInBounds_toArray, List.set_cons_zero, List.set_cons_succ, i64_w, i32_w]
            rfl
          refine pure_ (i := 17) (N := some 98) (v := undef) (a' := ?_) kk21 rfl rfl (any_of HT_.out (by kernel_rfl)) (fun _ _ _ h => h) (Or.inr ⟨by rfl, rfl⟩) ?_ ?_
          rotate_left
          · simp only [Act.put, List.setIfInBounds_toArray, List.set_cons_zero, List.set_cons_succ, i64_w, i32_w]
            rfl
          refine pure_ (i := 18) (N := some 99) (v := ?_) (a' := ?_) kk20 rfl rfl (any_of HT_.out (by kernel_rfl)) (fun _ _ _ h => h) (Or.inl ⟨by rfl, ?_⟩) ?_ ?_
          rotate_left
          · intro w'
            go_simp
            with_reducible rfl
          rotate_left
          · simp only [Act.put, List.setIfInBounds_toArray, List.set_cons_zero, List.set_cons_succ, i64_w, i32_w]
            rfl
          refine pure_ (i := 19) (N := some 100) (v := ?_) (a' := ?_) kk19 rfl rfl (any_of HT_.out (by kernel_rfl)) (fun _ _ _ h => h) (Or.inl ⟨by rfl, ?_⟩) ?_ ?_
          rotate_left
          · intro w'
            go_simp
            with_reducible rfl
          rotate_left
          · simp only [Act.put, List.setIfInBounds_toArray, List.set_cons_zero, List.set_cons_succ, i64_w, i32_w]
            rfl
          refine pure_ (i := 20) (N := some 101) (v := ?_) (a' := ?_) kk18 rfl rfl (any_of HT_.out (by kernel_rfl)) (fun _ _ _ h => h) (Or.inl ⟨by rfl, ?_⟩) ?_ ?_
          rotate_left
          · intro w'
            go_simp
            with_reducible rfl
          rotate_left
          · simp only [Act.put, List.setIfInBounds_toArray, List.set_cons_zero, List.set_cons_succ, i64_w, i32_w]
            rfl
          refine pure_ (i := 21) (N := some 4) (v := ?_) (a' := ?_) kk17 rfl rfl (any_of HT_.out (by kernel_rfl)) (fun _ _ _ h => h) (Or.inl ⟨by rfl, ?_⟩) ?_ ?_
          rotate_left
          · intro w'
            go_simp
            with_reducible rfl
          rotate_left
          · simp only [Act.put, List.setIfInBounds_toArray, List.set_cons_zero, List.set_cons_succ, i64_w, i32_w]
            rfl
          refine done_ (done_of HT_.out (by kernel_rfl)) ?_
          try go_wp2
          go_ret
          exact ⟨by first | rfl | (simp; done), below_step HW2.out (below_step HC.out.hb HE.out)⟩

theorem open_dig {H : Type} {enc : TypeId × Value → H} {w : World} {base : Nat} {spare : Nat → Bool} {held : Bool} {v : Value} {d : DataW H} {p : List MemPlace} (h : DataW.Trod enc Try.prog w base spare held 22 v d p) :
    ∃ (ds : Array Value) (l : List Int), v = .agg ds ∧ ds = (l.map (Value.int .u8)).toArray ∧ l.length = 32 ∧ (∀ x ∈ l, 0 ≤ x ∧ x < 256) := by
  obtain ⟨fuel, hf⟩ := h
  obtain ⟨l, hk, hg⟩ := opens_array (by decide) Try.underlying22 (by kernel_rfl) (by kernel_rfl) (opens_int Try.underlying5) H enc w base spare held fuel _ _ hf
  obtain ⟨hl, hcs⟩ := Kd.arr_cells hk
  have hcs' : v.cells.toList = l.map (Value.int .u8) := hcs
  have hlen : v.cells.toList.length = 32 := by rw [hcs', List.length_map]; exact hl
  have hv : ∃ cs, v = .agg cs := by
    cases v <;> first | exact ⟨_, rfl⟩ | (simp [Value.cells] at hlen)
  obtain ⟨cs, rfl⟩ := hv
  have h2 : cs.toList = l.map (Value.int .u8) := hcs'
  exact ⟨cs, l, rfl, by rw [← h2], hl, fun x hx => wf_u8 (hg x hx)⟩

theorem less_law (c : Crt) (cs ds : Array Value) (l : List Int) (A B : Option Addr) (a b : Nat) (w : World) (h : CrtVal w c cs A a B b) (hh : Short c) (hg : c.Good)
    (hcs : cs = (c.dig.map (Value.int .u8) ++ [Value.slice A c.secs.length a, Value.slice B c.justs.length b]).toArray) (hd : c.dig.length = 32) (hds : ds = (l.map (Value.int .u8)).toArray) (hl : l.length = 32) (hgl : ∀ x ∈ l, 0 ≤ x ∧ x < 256) :
    Calls Try.prog 7 #[.agg cs, .agg ds] w fun e w' => e = .returned (.bool true) ∧ Below w.heap.size w w' := by
  rw [lit_cells c.dig hd] at hcs
  rw [hcs] at h ⊢
  have hds' : ds = litD (fun i => l.getD i 0) := by rw [hds, lit_list l hl, Array.toArray_toList]
  rw [hds']
  have hy' : Byt (fun i => l.getD i 0) := byt_of (c := ⟨l, [], []⟩) ⟨hgl, fun s hs => (by cases hs), fun s hs => (by cases hs)⟩
  cases hf : fewOk c with
  | false => exact less_many c (fun i => c.dig.getD i 0) (fun i => l.getD i 0) A B a b w h hh hf
  | true =>
    by_cases he : (chk c).2 = 0
    · have hc : chk c = ((chk c).1, 0) := by rw [← he]
      by_cases h0 : c.justs.length = 0
      · exact less_none c (fun i => c.dig.getD i 0) (fun i => l.getD i 0) A B a b w h hh hf _ hc (byt_of hg) hy' h0
      · obtain ⟨m, hm⟩ : ∃ m, c.justs.length = m + 1 := ⟨c.justs.length - 1, by omega⟩
        exact less_some c (fun i => c.dig.getD i 0) (fun i => l.getD i 0) A B a b w h hh hf _ hc (byt_of hg) hy' m hm
    · exact less_bad c (fun i => c.dig.getD i 0) (fun i => l.getD i 0) A B a b w h hh hf _ _ rfl he
end Go.Proofs.Ytbemdnjcnmponaa.Less
