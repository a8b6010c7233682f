/- Whether two certificates are alike, by the reference (alibiref18.Same): its contract; for small certificates. -/
import Derived.Test.YtbemdnjcnmponaaSame
import Derived.Test.YtbemdnjcnmponaaCopy
import Derived.Test.YtbemdnjcnmponaaWEqStruct
namespace Go.Proofs.Ytbemdnjcnmponaa.RefSame
open Go.RowKit Go.Proofs.YtbemdnjcnmponaaW.PrintWords Go.Proofs.YtbemdnjcnmponaaW.PrintLast Go.Proofs.YtbemdnjcnmponaaW.PrintMore Go.Proofs.Ytbemdnjcnmponaa.PCertSame Go.Proofs.Ytbemdnjcnmponaa.Data Go.Proofs.Ytbemdnjcnmponaa.Within Go.Proofs.Ytbemdnjcnmponaa.Check Go.Proofs.Ytbemdnjcnmponaa.Laws1 Go.Proofs.Ytbemdnjcnmponaa.Lit Go.Proofs.Ytbemdnjcnmponaa.SameP Go.Proofs.Ytbemdnjcnmponaa.Same Go.Proofs.Ytbemdnjcnmponaa.Copy
set_option linter.unusedVariables false
set_option linter.unusedSimpArgs false
def rs.T6 : Bool × List (List Nat × List Nat) := (true, [([], []), ([0], [0]), ([], []), ([1, 2], [1, 2]), ([3], [3]), ([], []), ([5], [5]), ([], []), ([6, 7], [6, 7]), ([8], [8]), ([], []), ([], []), ([10, 4, 0, 1, 2, 3, 4, 10, 11], [4, 10]), ([11, 9, 12, 0, 1, 2, 3, 4, 5, 6, 7, 8, 9, 10, 11, 12], [9, 11])])
def rs.B6 : List Nat := [0, 1, 0, 7, 15, 0, 32, 0, 224, 480, 0, 0, 3103, 8191]
theorem rs.tab6 : rtab .any (opsOf Try.f13 6) = rs.T6 := by kernel_rfl
theorem rs.bits6 : waitsOk rs.T6.2 rs.B6 = true := by kernel_rfl
def rs.T12 : Bool × List (List Nat × List Nat) := (true, [([], []), ([0], [0]), ([], []), ([1, 2], [1, 2]), ([3], [3]), ([], []), ([5], [5]), ([], []), ([6, 7], [6, 7]), ([8], [8]), ([4, 9], [4, 9])])
def rs.B12 : List Nat := [0, 1, 0, 7, 15, 0, 32, 0, 224, 480, 1023]
theorem rs.tab12 : rtab .any (opsOf Try.f13 12) = rs.T12 := by kernel_rfl
theorem rs.bits12 : waitsOk rs.T12.2 rs.B12 = true := by kernel_rfl

theorem eq40 (a b c d : Int) (w : World) : (Op.equalIn 10000 40 (.agg #[.int .i64 a, .int .i64 b]) (.agg #[.int .i64 c, .int .i64 d])).run Try.prog w = .ok (a == c && b == d) w := by
  have u3 := Try.underlying3
  refine eqA_of (d := 9999) Try.underlying40 (by kernel_rfl) ?_
  refine eqf_cons rfl (by simp [part, isAgg, run_underlying u3]) (by simp [part, isAgg, run_underlying u3]) (run_equalIn_int w 9998 3 .i64 .i64 _ _ u3) (eqf_last rfl (by simp [part, isAgg, run_underlying u3]) (by simp [part, isAgg, run_underlying u3]) (run_equalIn_int w 9998 3 .i64 .i64 _ _ u3))

theorem sec_one (a b c d : Int) (A B : Option Addr) (n m k j : Nat) : (#[.int .u32 a, .int .u32 b, .slice A n k, .int .u32 c, .int .u32 d, .slice B m j] : Array Value).all (·.oneCell') = true := by
  rw [← Array.all_toList]; rfl
theorem two_allocs {W0 wd : World} (h : Below W0.heap.size W0 wd) {o : Obj} : ((wd.alloc o).alloc o).heap[wd.heap.size]? = some o ∧ ((wd.alloc o).alloc o).heap[wd.heap.size + 1]? = some o ∧ wd.heap.size ≠ wd.heap.size + 1 ∧ W0.heap.size ≤ wd.heap.size ∧ W0.heap.size ≤ wd.heap.size + 1 :=
  ⟨by rw [heap_alloc2_old], by rw [heap_alloc2_new], by omega, h.size, Nat.le_succ_of_le h.size⟩
theorem two_allocs' {W0 wd : World} (h : Below W0.heap.size W0 wd) {o : Obj} : ((wd.alloc o).alloc o).heap[wd.heap.size + 1]? = some o ∧ ((wd.alloc o).alloc o).heap[wd.heap.size]? = some o ∧ wd.heap.size + 1 ≠ wd.heap.size ∧ W0.heap.size ≤ wd.heap.size + 1 ∧ W0.heap.size ≤ wd.heap.size :=
  ⟨by rw [heap_alloc2_new], by rw [heap_alloc2_old], by omega, Nat.le_succ_of_le h.size, h.size⟩
theorem six_cells {w : World} {g : Nat} {a b c d e f : Value} (h : w.heap[g]? = some (.cells #[a, b, c, d, e, f] 38)) : w.cell? ⟨g, 0, none⟩ = some a ∧ w.cell? ⟨g, 1, none⟩ = some b ∧ w.cell? ⟨g, 2, none⟩ = some c ∧ w.cell? ⟨g, 3, none⟩ = some d ∧ w.cell? ⟨g, 4, none⟩ = some e ∧ w.cell? ⟨g, 5, none⟩ = some f :=
  ⟨by rw [cell_of_row w g 0 _ 38 (0, 0) h]; rfl, by rw [cell_of_row w g 1 _ 38 (0, 0) h]; rfl, by rw [cell_of_row w g 2 _ 38 (0, 0) h]; rfl, by rw [cell_of_row w g 3 _ 38 (0, 0) h]; rfl, by rw [cell_of_row w g 4 _ 38 (0, 0) h]; rfl, by rw [cell_of_row w g 5 _ 38 (0, 0) h]; rfl⟩
theorem masks_any (A B : Option Addr) (a b : Nat) (l l' : List Int) (r : Bool) (w : World) (hA : Kd.C (Kd.int .u32) w A l.length l) (ha : l.length ≤ a) (hB : Kd.C (Kd.int .u32) w B l'.length l') (hb : l'.length ≤ b) (h40 : l.length ≤ 100) (hr : eqB l l' = r) :
    Calls Try.prog 21 #[.slice A l.length a, .slice B l'.length b] w fun e w' => e = .returned (.bool r) ∧ Drawn0 w w' := by
  rw [← hr]; exact alibiref18_masks.calls 200 A a l B b l' _ w hA ha hB hb (masks_f l l' 200 (by omega) (by omega))

set_option maxHeartbeats 4000000 in
set_option maxRecDepth 100000 in
theorem rsame_0 (c c' : Crt) (dg dg' : Nat → Int) (A B A' B' : Option Addr) (a b a' b' : Nat) (w : World) (h : CrtVal w c (litC dg (.slice A c.secs.length a) (.slice B c.justs.length b)) A a B b) (h' : CrtVal w c' (litC dg' (.slice A' c'.secs.length a') (.slice B' c'.justs.length b')) A' a' B' b') (h40 : c.secs.length ≤ 40) (hj40 : c.justs.length ≤ 40) (hS : SmallS c.secs) (hy : Byt dg) (hy' : Byt dg') (he : eqB (dl dg) (dl dg') = false) :
    Calls Try.prog 13 #[.agg #[.int .u8 (dg 0), .int .u8 (dg 1), .int .u8 (dg 2), .int .u8 (dg 3), .int .u8 (dg 4), .int .u8 (dg 5), .int .u8 (dg 6), .int .u8 (dg 7), .int .u8 (dg 8), .int .u8 (dg 9), .int .u8 (dg 10), .int .u8 (dg 11), .int .u8 (dg 12), .int .u8 (dg 13), .int .u8 (dg 14), .int .u8 (dg 15), .int .u8 (dg 16), .int .u8 (dg 17), .int .u8 (dg 18), .int .u8 (dg 19), .int .u8 (dg 20), .int .u8 (dg 21), .int .u8 (dg 22), .int .u8 (dg 23), .int .u8 (dg 24), .int .u8 (dg 25), .int .u8 (dg 26), .int .u8 (dg 27), .int .u8 (dg 28), .int .u8 (dg 29), .int .u8 (dg 30), .int .u8 (dg 31), .slice A c.secs.length a, .slice B c.justs.length b], .agg #[.int .u8 (dg' 0), .int .u8 (dg' 1), .int .u8 (dg' 2), .int .u8 (dg' 3), .int .u8 (dg' 4), .int .u8 (dg' 5), .int .u8 (dg' 6), .int .u8 (dg' 7), .int .u8 (dg' 8), .int .u8 (dg' 9), .int .u8 (dg' 10), .int .u8 (dg' 11), .int .u8 (dg' 12), .int .u8 (dg' 13), .int .u8 (dg' 14), .int .u8 (dg' 15), .int .u8 (dg' 16), .int .u8 (dg' 17), .int .u8 (dg' 18), .int .u8 (dg' 19), .int .u8 (dg' 20), .int .u8 (dg' 21), .int .u8 (dg' 22), .int .u8 (dg' 23), .int .u8 (dg' 24), .int .u8 (dg' 25), .int .u8 (dg' 26), .int .u8 (dg' 27), .int .u8 (dg' 28), .int .u8 (dg' 29), .int .u8 (dg' 30), .int .u8 (dg' 31), .slice A' c'.secs.length a', .slice B' c'.justs.length b']] w fun e w' => e = .returned (.bool false) ∧ Below w.heap.size w w' := by
  have HV := Aside0.mk h
  have HV' := Aside0.mk h'
  have H40 := Aside0.mk h40
  have HJ40 := Aside0.mk hj40
  have HSS := Aside0.mk hS
  have HW2 := Aside0.mk (below_alloc (below_alloc (Below.refl w.heap.size w) (.cells (litC dg (.slice A c.secs.length a) (.slice B c.justs.length b)) 26)) (.cells (litC dg' (.slice A' c'.secs.length a') (.slice B' c'.justs.length b')) 26))
  have HB := Aside0.mk (Below.refl ((w.alloc (.cells (litC dg (.slice A c.secs.length a) (.slice B c.justs.length b)) 26)).alloc (.cells (litC dg' (.slice A' c'.secs.length a') (.slice B' c'.justs.length b')) 26)).heap.size ((w.alloc (.cells (litC dg (.slice A c.secs.length a) (.slice B c.justs.length b)) 26)).alloc (.cells (litC dg' (.slice A' c'.secs.length a') (.slice B' c'.justs.length b')) 26)))
  have hbox : ∀ w', Below ((w.alloc (.cells (litC dg (.slice A c.secs.length a) (.slice B c.justs.length b)) 26)).alloc (.cells (litC dg' (.slice A' c'.secs.length a') (.slice B' c'.justs.length b')) 26)).heap.size ((w.alloc (.cells (litC dg (.slice A c.secs.length a) (.slice B c.justs.length b)) 26)).alloc (.cells (litC dg' (.slice A' c'.secs.length a') (.slice B' c'.justs.length b')) 26)) w' → w'.heap[w.heap.size]? = some (.cells (litC dg (.slice A c.secs.length a) (.slice B c.justs.length b)) 26) := fun w' hb => by
    rw [hb.block w.heap.size (by simp; omega), heap_alloc2_old]
  have hbox' : ∀ w', Below ((w.alloc (.cells (litC dg (.slice A c.secs.length a) (.slice B c.justs.length b)) 26)).alloc (.cells (litC dg' (.slice A' c'.secs.length a') (.slice B' c'.justs.length b')) 26)).heap.size ((w.alloc (.cells (litC dg (.slice A c.secs.length a) (.slice B c.justs.length b)) 26)).alloc (.cells (litC dg' (.slice A' c'.secs.length a') (.slice B' c'.justs.length b')) 26)) w' → w'.heap[w.heap.size + 1]? = some (.cells (litC dg' (.slice A' c'.secs.length a') (.slice B' c'.justs.length b')) 26) := fun w' hb => by
    rw [hb.block (w.heap.size + 1) (by simp), heap_alloc2_new]
  have HX := Aside0.mk hbox
  have HX' := Aside0.mk hbox'
  have q32 : ∀ w', Below ((w.alloc (.cells (litC dg (.slice A c.secs.length a) (.slice B c.justs.length b)) 26)).alloc (.cells (litC dg' (.slice A' c'.secs.length a') (.slice B' c'.justs.length b')) 26)).heap.size ((w.alloc (.cells (litC dg (.slice A c.secs.length a) (.slice B c.justs.length b)) 26)).alloc (.cells (litC dg' (.slice A' c'.secs.length a') (.slice B' c'.justs.length b')) 26)) w' → w'.cell? ⟨w.heap.size, 32, none⟩ = some (.slice A c.secs.length a) := fun w' hb => by rw [cell_of_row w' w.heap.size 32 _ 26 (0, 0) (hbox w' hb)]; rfl
  have q33 : ∀ w', Below ((w.alloc (.cells (litC dg (.slice A c.secs.length a) (.slice B c.justs.length b)) 26)).alloc (.cells (litC dg' (.slice A' c'.secs.length a') (.slice B' c'.justs.length b')) 26)).heap.size ((w.alloc (.cells (litC dg (.slice A c.secs.length a) (.slice B c.justs.length b)) 26)).alloc (.cells (litC dg' (.slice A' c'.secs.length a') (.slice B' c'.justs.length b')) 26)) w' → w'.cell? ⟨w.heap.size, 33, none⟩ = some (.slice B c.justs.length b) := fun w' hb => by rw [cell_of_row w' w.heap.size 33 _ 26 (0, 0) (hbox w' hb)]; rfl
  have p32 : ∀ w', Below ((w.alloc (.cells (litC dg (.slice A c.secs.length a) (.slice B c.justs.length b)) 26)).alloc (.cells (litC dg' (.slice A' c'.secs.length a') (.slice B' c'.justs.length b')) 26)).heap.size ((w.alloc (.cells (litC dg (.slice A c.secs.length a) (.slice B c.justs.length b)) 26)).alloc (.cells (litC dg' (.slice A' c'.secs.length a') (.slice B' c'.justs.length b')) 26)) w' → w'.cell? ⟨w.heap.size + 1, 32, none⟩ = some (.slice A' c'.secs.length a') := fun w' hb => by rw [cell_of_row w' (w.heap.size + 1) 32 _ 26 (0, 0) (hbox' w' hb)]; rfl
  have p33 : ∀ w', Below ((w.alloc (.cells (litC dg (.slice A c.secs.length a) (.slice B c.justs.length b)) 26)).alloc (.cells (litC dg' (.slice A' c'.secs.length a') (.slice B' c'.justs.length b')) 26)).heap.size ((w.alloc (.cells (litC dg (.slice A c.secs.length a) (.slice B c.justs.length b)) 26)).alloc (.cells (litC dg' (.slice A' c'.secs.length a') (.slice B' c'.justs.length b')) 26)) w' → w'.cell? ⟨w.heap.size + 1, 33, none⟩ = some (.slice B' c'.justs.length b') := fun w' hb => by rw [cell_of_row w' (w.heap.size + 1) 33 _ 26 (0, 0) (hbox' w' hb)]; rfl
  have Q32 := Aside0.mk q32
  have Q33 := Aside0.mk q33
  have P32 := Aside0.mk p32
  have P33 := Aside0.mk p33
  have zu1 := q32 _ HB.out
  have zu2 := q33 _ HB.out
  have zu3 := p32 _ HB.out
  have zu4 := p33 _ HB.out
  clear q32 q33 p32 p33 hbox hbox' h h' h40 hj40 hS
  have hd := dig_eq dg dg' hy hy'
  rw [he] at hd
  clear he hy hy'
  go_enter Try.func13, Try.ntmps13
  go_wp2_with (first | ((with_reducible refine gate_dst (N := 10) rfl ?_); refine wpList_load_sub rfl 22 (.tmp 9) rfl w.heap.size 0 rfl 26 (litC dg (.slice A c.secs.length a) (.slice B c.justs.length b)) (litD dg) (0, 0) _ (HX.out _ HB.out) (dig_sub dg _ _) Try.underlying22 rfl (size22 dg) ?_) | ((with_reducible refine gate_dst (N := 12) rfl ?_); refine wpList_load_sub rfl 22 (.tmp 11) rfl (w.heap.size + 1) 0 rfl 26 (litC dg' (.slice A' c'.secs.length a') (.slice B' c'.justs.length b')) (litD dg') (0, 0) _ (HX'.out _ HB.out) (dig_sub dg' _ _) Try.underlying22 rfl (size22 dg') ?_))
  go_ret
  exact ⟨by first | rfl | (simp; done), below_step HW2.out HB.out⟩

set_option maxHeartbeats 4000000 in
set_option maxRecDepth 100000 in
theorem rsame_1 (c c' : Crt) (dg dg' : Nat → Int) (A B A' B' : Option Addr) (a b a' b' : Nat) (w : World) (h : CrtVal w c (litC dg (.slice A c.secs.length a) (.slice B c.justs.length b)) A a B b) (h' : CrtVal w c' (litC dg' (.slice A' c'.secs.length a') (.slice B' c'.justs.length b')) A' a' B' b') (h40 : c.secs.length ≤ 40) (hj40 : c.justs.length ≤ 40) (hS : SmallS c.secs) (hy : Byt dg) (hy' : Byt dg') (he : eqB (dl dg) (dl dg') = true) (hn : c.secs.length ≠ c'.secs.length) :
    Calls Try.prog 13 #[.agg #[.int .u8 (dg 0), .int .u8 (dg 1), .int .u8 (dg 2), .int .u8 (dg 3), .int .u8 (dg 4), .int .u8 (dg 5), .int .u8 (dg 6), .int .u8 (dg 7), .int .u8 (dg 8), .int .u8 (dg 9), .int .u8 (dg 10), .int .u8 (dg 11), .int .u8 (dg 12), .int .u8 (dg 13), .int .u8 (dg 14), .int .u8 (dg 15), .int .u8 (dg 16), .int .u8 (dg 17), .int .u8 (dg 18), .int .u8 (dg 19), .int .u8 (dg 20), .int .u8 (dg 21), .int .u8 (dg 22), .int .u8 (dg 23), .int .u8 (dg 24), .int .u8 (dg 25), .int .u8 (dg 26), .int .u8 (dg 27), .int .u8 (dg 28), .int .u8 (dg 29), .int .u8 (dg 30), .int .u8 (dg 31), .slice A c.secs.length a, .slice B c.justs.length b], .agg #[.int .u8 (dg' 0), .int .u8 (dg' 1), .int .u8 (dg' 2), .int .u8 (dg' 3), .int .u8 (dg' 4), .int .u8 (dg' 5), .int .u8 (dg' 6), .int .u8 (dg' 7), .int .u8 (dg' 8), .int .u8 (dg' 9), .int .u8 (dg' 10), .int .u8 (dg' 11), .int .u8 (dg' 12), .int .u8 (dg' 13), .int .u8 (dg' 14), .int .u8 (dg' 15), .int .u8 (dg' 16), .int .u8 (dg' 17), .int .u8 (dg' 18), .int .u8 (dg' 19), .int .u8 (dg' 20), .int .u8 (dg' 21), .int .u8 (dg' 22), .int .u8 (dg' 23), .int .u8 (dg' 24), .int .u8 (dg' 25), .int .u8 (dg' 26), .int .u8 (dg' 27), .int .u8 (dg' 28), .int .u8 (dg' 29), .int .u8 (dg' 30), .int .u8 (dg' 31), .slice A' c'.secs.length a', .slice B' c'.justs.length b']] w fun e w' => e = .returned (.bool false) ∧ Below w.heap.size w w' := by
  have HV := Aside0.mk h
  have HV' := Aside0.mk h'
  have H40 := Aside0.mk h40
  have HJ40 := Aside0.mk hj40
  have HSS := Aside0.mk hS
  have HW2 := Aside0.mk (below_alloc (below_alloc (Below.refl w.heap.size w) (.cells (litC dg (.slice A c.secs.length a) (.slice B c.justs.length b)) 26)) (.cells (litC dg' (.slice A' c'.secs.length a') (.slice B' c'.justs.length b')) 26))
  have HB := Aside0.mk (Below.refl ((w.alloc (.cells (litC dg (.slice A c.secs.length a) (.slice B c.justs.length b)) 26)).alloc (.cells (litC dg' (.slice A' c'.secs.length a') (.slice B' c'.justs.length b')) 26)).heap.size ((w.alloc (.cells (litC dg (.slice A c.secs.length a) (.slice B c.justs.length b)) 26)).alloc (.cells (litC dg' (.slice A' c'.secs.length a') (.slice B' c'.justs.length b')) 26)))
  have hbox : ∀ w', Below ((w.alloc (.cells (litC dg (.slice A c.secs.length a) (.slice B c.justs.length b)) 26)).alloc (.cells (litC dg' (.slice A' c'.secs.length a') (.slice B' c'.justs.length b')) 26)).heap.size ((w.alloc (.cells (litC dg (.slice A c.secs.length a) (.slice B c.justs.length b)) 26)).alloc (.cells (litC dg' (.slice A' c'.secs.length a') (.slice B' c'.justs.length b')) 26)) w' → w'.heap[w.heap.size]? = some (.cells (litC dg (.slice A c.secs.length a) (.slice B c.justs.length b)) 26) := fun w' hb => by
    rw [hb.block w.heap.size (by simp; omega), heap_alloc2_old]
  have hbox' : ∀ w', Below ((w.alloc (.cells (litC dg (.slice A c.secs.length a) (.slice B c.justs.length b)) 26)).alloc (.cells (litC dg' (.slice A' c'.secs.length a') (.slice B' c'.justs.length b')) 26)).heap.size ((w.alloc (.cells (litC dg (.slice A c.secs.length a) (.slice B c.justs.length b)) 26)).alloc (.cells (litC dg' (.slice A' c'.secs.length a') (.slice B' c'.justs.length b')) 26)) w' → w'.heap[w.heap.size + 1]? = some (.cells (litC dg' (.slice A' c'.secs.length a') (.slice B' c'.justs.length b')) 26) := fun w' hb => by
    rw [hb.block (w.heap.size + 1) (by simp), heap_alloc2_new]
  have HX := Aside0.mk hbox
  have HX' := Aside0.mk hbox'
  have q32 : ∀ w', Below ((w.alloc (.cells (litC dg (.slice A c.secs.length a) (.slice B c.justs.length b)) 26)).alloc (.cells (litC dg' (.slice A' c'.secs.length a') (.slice B' c'.justs.length b')) 26)).heap.size ((w.alloc (.cells (litC dg (.slice A c.secs.length a) (.slice B c.justs.length b)) 26)).alloc (.cells (litC dg' (.slice A' c'.secs.length a') (.slice B' c'.justs.length b')) 26)) w' → w'.cell? ⟨w.heap.size, 32, none⟩ = some (.slice A c.secs.length a) := fun w' hb => by rw [cell_of_row w' w.heap.size 32 _ 26 (0, 0) (hbox w' hb)]; rfl
  have q33 : ∀ w', Below ((w.alloc (.cells (litC dg (.slice A c.secs.length a) (.slice B c.justs.length b)) 26)).alloc (.cells (litC dg' (.slice A' c'.secs.length a') (.slice B' c'.justs.length b')) 26)).heap.size ((w.alloc (.cells (litC dg (.slice A c.secs.length a) (.slice B c.justs.length b)) 26)).alloc (.cells (litC dg' (.slice A' c'.secs.length a') (.slice B' c'.justs.length b')) 26)) w' → w'.cell? ⟨w.heap.size, 33, none⟩ = some (.slice B c.justs.length b) := fun w' hb => by rw [cell_of_row w' w.heap.size 33 _ 26 (0, 0) (hbox w' hb)]; rfl
  have p32 : ∀ w', Below ((w.alloc (.cells (litC dg (.slice A c.secs.length a) (.slice B c.justs.length b)) 26)).alloc (.cells (litC dg' (.slice A' c'.secs.length a') (.slice B' c'.justs.length b')) 26)).heap.size ((w.alloc (.cells (litC dg (.slice A c.secs.length a) (.slice B c.justs.length b)) 26)).alloc (.cells (litC dg' (.slice A' c'.secs.length a') (.slice B' c'.justs.length b')) 26)) w' → w'.cell? ⟨w.heap.size + 1, 32, none⟩ = some (.slice A' c'.secs.length a') := fun w' hb => by rw [cell_of_row w' (w.heap.size + 1) 32 _ 26 (0, 0) (hbox' w' hb)]; rfl
  have p33 : ∀ w', Below ((w.alloc (.cells (litC dg (.slice A c.secs.length a) (.slice B c.justs.length b)) 26)).alloc (.cells (litC dg' (.slice A' c'.secs.length a') (.slice B' c'.justs.length b')) 26)).heap.size ((w.alloc (.cells (litC dg (.slice A c.secs.length a) (.slice B c.justs.length b)) 26)).alloc (.cells (litC dg' (.slice A' c'.secs.length a') (.slice B' c'.justs.length b')) 26)) w' → w'.cell? ⟨w.heap.size + 1, 33, none⟩ = some (.slice B' c'.justs.length b') := fun w' hb => by rw [cell_of_row w' (w.heap.size + 1) 33 _ 26 (0, 0) (hbox' w' hb)]; rfl
  have Q32 := Aside0.mk q32
  have Q33 := Aside0.mk q33
  have P32 := Aside0.mk p32
  have P33 := Aside0.mk p33
  have zu1 := q32 _ HB.out
  have zu2 := q33 _ HB.out
  have zu3 := p32 _ HB.out
  have zu4 := p33 _ HB.out
  clear q32 q33 p32 p33 hbox hbox' h h' h40 hj40 hS
  have hd := dig_eq dg dg' hy hy'
  rw [he] at hd
  clear he hy hy'
  have hl1 := Kd.C_max HV.out.hA
  have hl2 := Kd.C_max HV'.out.hA
  have d1 : ((c.secs.length : Int) != (c'.secs.length : Int)) = true := bne_iff_ne.mpr (by omega)
  have d1b : (c.secs.length != c'.secs.length) = true := bne_iff_ne.mpr hn
  clear hn
  go_enter Try.func13, Try.ntmps13
  go_wp2_with (first | ((with_reducible refine gate_dst (N := 10) rfl ?_); refine wpList_load_sub rfl 22 (.tmp 9) rfl w.heap.size 0 rfl 26 (litC dg (.slice A c.secs.length a) (.slice B c.justs.length b)) (litD dg) (0, 0) _ (HX.out _ HB.out) (dig_sub dg _ _) Try.underlying22 rfl (size22 dg) ?_) | ((with_reducible refine gate_dst (N := 12) rfl ?_); refine wpList_load_sub rfl 22 (.tmp 11) rfl (w.heap.size + 1) 0 rfl 26 (litC dg' (.slice A' c'.secs.length a') (.slice B' c'.justs.length b')) (litD dg') (0, 0) _ (HX'.out _ HB.out) (dig_sub dg' _ _) Try.underlying22 rfl (size22 dg') ?_))
  go_ret
  exact ⟨by first | rfl | (simp; done), below_step HW2.out HB.out⟩

set_option maxHeartbeats 4000000 in
set_option maxRecDepth 100000 in
theorem rsame_2 (c c' : Crt) (dg dg' : Nat → Int) (A B A' B' : Option Addr) (a b a' b' : Nat) (w : World) (h : CrtVal w c (litC dg (.slice A c.secs.length a) (.slice B c.justs.length b)) A a B b) (h' : CrtVal w c' (litC dg' (.slice A' c'.secs.length a') (.slice B' c'.justs.length b')) A' a' B' b') (h40 : c.secs.length ≤ 40) (hj40 : c.justs.length ≤ 40) (hS : SmallS c.secs) (hy : Byt dg) (hy' : Byt dg') (he : eqB (dl dg) (dl dg') = true) (hn : c.secs.length = c'.secs.length) (hm : c.justs.length ≠ c'.justs.length) :
    Calls Try.prog 13 #[.agg #[.int .u8 (dg 0), .int .u8 (dg 1), .int .u8 (dg 2), .int .u8 (dg 3), .int .u8 (dg 4), .int .u8 (dg 5), .int .u8 (dg 6), .int .u8 (dg 7), .int .u8 (dg 8), .int .u8 (dg 9), .int .u8 (dg 10), .int .u8 (dg 11), .int .u8 (dg 12), .int .u8 (dg 13), .int .u8 (dg 14), .int .u8 (dg 15), .int .u8 (dg 16), .int .u8 (dg 17), .int .u8 (dg 18), .int .u8 (dg 19), .int .u8 (dg 20), .int .u8 (dg 21), .int .u8 (dg 22), .int .u8 (dg 23), .int .u8 (dg 24), .int .u8 (dg 25), .int .u8 (dg 26), .int .u8 (dg 27), .int .u8 (dg 28), .int .u8 (dg 29), .int .u8 (dg 30), .int .u8 (dg 31), .slice A c.secs.length a, .slice B c.justs.length b], .agg #[.int .u8 (dg' 0), .int .u8 (dg' 1), .int .u8 (dg' 2), .int .u8 (dg' 3), .int .u8 (dg' 4), .int .u8 (dg' 5), .int .u8 (dg' 6), .int .u8 (dg' 7), .int .u8 (dg' 8), .int .u8 (dg' 9), .int .u8 (dg' 10), .int .u8 (dg' 11), .int .u8 (dg' 12), .int .u8 (dg' 13), .int .u8 (dg' 14), .int .u8 (dg' 15), .int .u8 (dg' 16), .int .u8 (dg' 17), .int .u8 (dg' 18), .int .u8 (dg' 19), .int .u8 (dg' 20), .int .u8 (dg' 21), .int .u8 (dg' 22), .int .u8 (dg' 23), .int .u8 (dg' 24), .int .u8 (dg' 25), .int .u8 (dg' 26), .int .u8 (dg' 27), .int .u8 (dg' 28), .int .u8 (dg' 29), .int .u8 (dg' 30), .int .u8 (dg' 31), .slice A' c'.secs.length a', .slice B' c'.justs.length b']] w fun e w' => e = .returned (.bool false) ∧ Below w.heap.size w w' := by
  have HV := Aside0.mk h
  have HV' := Aside0.mk h'
  have H40 := Aside0.mk h40
  have HJ40 := Aside0.mk hj40
  have HSS := Aside0.mk hS
  have HW2 := Aside0.mk (below_alloc (below_alloc (Below.refl w.heap.size w) (.cells (litC dg (.slice A c.secs.length a) (.slice B c.justs.length b)) 26)) (.cells (litC dg' (.slice A' c'.secs.length a') (.slice B' c'.justs.length b')) 26))
  have HB := Aside0.mk (Below.refl ((w.alloc (.cells (litC dg (.slice A c.secs.length a) (.slice B c.justs.length b)) 26)).alloc (.cells (litC dg' (.slice A' c'.secs.length a') (.slice B' c'.justs.length b')) 26)).heap.size ((w.alloc (.cells (litC dg (.slice A c.secs.length a) (.slice B c.justs.length b)) 26)).alloc (.cells (litC dg' (.slice A' c'.secs.length a') (.slice B' c'.justs.length b')) 26)))
  have hbox : ∀ w', Below ((w.alloc (.cells (litC dg (.slice A c.secs.length a) (.slice B c.justs.length b)) 26)).alloc (.cells (litC dg' (.slice A' c'.secs.length a') (.slice B' c'.justs.length b')) 26)).heap.size ((w.alloc (.cells (litC dg (.slice A c.secs.length a) (.slice B c.justs.length b)) 26)).alloc (.cells (litC dg' (.slice A' c'.secs.length a') (.slice B' c'.justs.length b')) 26)) w' → w'.heap[w.heap.size]? = some (.cells (litC dg (.slice A c.secs.length a) (.slice B c.justs.length b)) 26) := fun w' hb => by
    rw [hb.block w.heap.size (by simp; omega), heap_alloc2_old]
  have hbox' : ∀ w', Below ((w.alloc (.cells (litC dg (.slice A c.secs.length a) (.slice B c.justs.length b)) 26)).alloc (.cells (litC dg' (.slice A' c'.secs.length a') (.slice B' c'.justs.length b')) 26)).heap.size ((w.alloc (.cells (litC dg (.slice A c.secs.length a) (.slice B c.justs.length b)) 26)).alloc (.cells (litC dg' (.slice A' c'.secs.length a') (.slice B' c'.justs.length b')) 26)) w' → w'.heap[w.heap.size + 1]? = some (.cells (litC dg' (.slice A' c'.secs.length a') (.slice B' c'.justs.length b')) 26) := fun w' hb => by
    rw [hb.block (w.heap.size + 1) (by simp), heap_alloc2_new]
  have HX := Aside0.mk hbox
  have HX' := Aside0.mk hbox'
  have q32 : ∀ w', Below ((w.alloc (.cells (litC dg (.slice A c.secs.length a) (.slice B c.justs.length b)) 26)).alloc (.cells (litC dg' (.slice A' c'.secs.length a') (.slice B' c'.justs.length b')) 26)).heap.size ((w.alloc (.cells (litC dg (.slice A c.secs.length a) (.slice B c.justs.length b)) 26)).alloc (.cells (litC dg' (.slice A' c'.secs.length a') (.slice B' c'.justs.length b')) 26)) w' → w'.cell? ⟨w.heap.size, 32, none⟩ = some (.slice A c.secs.length a) := fun w' hb => by rw [cell_of_row w' w.heap.size 32 _ 26 (0, 0) (hbox w' hb)]; rfl
  have q33 : ∀ w', Below ((w.alloc (.cells (litC dg (.slice A c.secs.length a) (.slice B c.justs.length b)) 26)).alloc (.cells (litC dg' (.slice A' c'.secs.length a') (.slice B' c'.justs.length b')) 26)).heap.size ((w.alloc (.cells (litC dg (.slice A c.secs.length a) (.slice B c.justs.length b)) 26)).alloc (.cells (litC dg' (.slice A' c'.secs.length a') (.slice B' c'.justs.length b')) 26)) w' → w'.cell? ⟨w.heap.size, 33, none⟩ = some (.slice B c.justs.length b) := fun w' hb => by rw [cell_of_row w' w.heap.size 33 _ 26 (0, 0) (hbox w' hb)]; rfl
  have p32 : ∀ w', Below ((w.alloc (.cells (litC dg (.slice A c.secs.length a) (.slice B c.justs.length b)) 26)).alloc (.cells (litC dg' (.slice A' c'.secs.length a') (.slice B' c'.justs.length b')) 26)).heap.size ((w.alloc (.cells (litC dg (.slice A c.secs.length a) (.slice B c.justs.length b)) 26)).alloc (.cells (litC dg' (.slice A' c'.secs.length a') (.slice B' c'.justs.length b')) 26)) w' → w'.cell? ⟨w.heap.size + 1, 32, none⟩ = some (.slice A' c'.secs.length a') := fun w' hb => by rw [cell_of_row w' (w.heap.size + 1) 32 _ 26 (0, 0) (hbox' w' hb)]; rfl
  have p33 : ∀ w', Below ((w.alloc (.cells (litC dg (.slice A c.secs.length a) (.slice B c.justs.length b)) 26)).alloc (.cells (litC dg' (.slice A' c'.secs.length a') (.slice B' c'.justs.length b')) 26)).heap.size ((w.alloc (.cells (litC dg (.slice A c.secs.length a) (.slice B c.justs.length b)) 26)).alloc (.cells (litC dg' (.slice A' c'.secs.length a') (.slice B' c'.justs.length b')) 26)) w' → w'.cell? ⟨w.heap.size + 1, 33, none⟩ = some (.slice B' c'.justs.length b') := fun w' hb => by rw [cell_of_row w' (w.heap.size + 1) 33 _ 26 (0, 0) (hbox' w' hb)]; rfl
  have Q32 := Aside0.mk q32
  have Q33 := Aside0.mk q33
  have P32 := Aside0.mk p32
  have P33 := Aside0.mk p33
  have zu1 := q32 _ HB.out
  have zu2 := q33 _ HB.out
  have zu3 := p32 _ HB.out
  have zu4 := p33 _ HB.out
  clear q32 q33 p32 p33 hbox hbox' h h' h40 hj40 hS
  have hd := dig_eq dg dg' hy hy'
  rw [he] at hd
  clear he hy hy'
  have hl1 := Kd.C_max HV.out.hB
  have hl2 := Kd.C_max HV'.out.hB
  have d1 : ((c.secs.length : Int) != (c'.secs.length : Int)) = false := by rw [hn]; simp
  have d1b : (c.secs.length != c'.secs.length) = false := by rw [hn]; simp
  have d2 : ((c.justs.length : Int) != (c'.justs.length : Int)) = true := bne_iff_ne.mpr (by omega)
  have d2b : (c.justs.length != c'.justs.length) = true := bne_iff_ne.mpr hm
  clear hn hm
  go_enter Try.func13, Try.ntmps13
  go_wp2_with (first | ((with_reducible refine gate_dst (N := 10) rfl ?_); refine wpList_load_sub rfl 22 (.tmp 9) rfl w.heap.size 0 rfl 26 (litC dg (.slice A c.secs.length a) (.slice B c.justs.length b)) (litD dg) (0, 0) _ (HX.out _ HB.out) (dig_sub dg _ _) Try.underlying22 rfl (size22 dg) ?_) | ((with_reducible refine gate_dst (N := 12) rfl ?_); refine wpList_load_sub rfl 22 (.tmp 11) rfl (w.heap.size + 1) 0 rfl 26 (litC dg' (.slice A' c'.secs.length a') (.slice B' c'.justs.length b')) (litD dg') (0, 0) _ (HX'.out _ HB.out) (dig_sub dg' _ _) Try.underlying22 rfl (size22 dg') ?_))
  go_ret
  exact ⟨by first | rfl | (simp; done), below_step HW2.out HB.out⟩

set_option maxHeartbeats 16000000 in
set_option maxRecDepth 100000 in
theorem rsame_main (c c' : Crt) (dg dg' : Nat → Int) (A B A' B' : Option Addr) (a b a' b' : Nat) (w : World) (h : CrtVal w c (litC dg (.slice A c.secs.length a) (.slice B c.justs.length b)) A a B b) (h' : CrtVal w c' (litC dg' (.slice A' c'.secs.length a') (.slice B' c'.justs.length b')) A' a' B' b') (h40 : c.secs.length ≤ 40) (hj40 : c.justs.length ≤ 40) (hS : SmallS c.secs) (hy : Byt dg) (hy' : Byt dg') (he : eqB (dl dg) (dl dg') = true) (hn : c.secs.length = c'.secs.length) (hm : c.justs.length = c'.justs.length) :
    Calls Try.prog 13 #[.agg #[.int .u8 (dg 0), .int .u8 (dg 1), .int .u8 (dg 2), .int .u8 (dg 3), .int .u8 (dg 4), .int .u8 (dg 5), .int .u8 (dg 6), .int .u8 (dg 7), .int .u8 (dg 8), .int .u8 (dg 9), .int .u8 (dg 10), .int .u8 (dg 11), .int .u8 (dg 12), .int .u8 (dg 13), .int .u8 (dg 14), .int .u8 (dg 15), .int .u8 (dg 16), .int .u8 (dg 17), .int .u8 (dg 18), .int .u8 (dg 19), .int .u8 (dg 20), .int .u8 (dg 21), .int .u8 (dg 22), .int .u8 (dg 23), .int .u8 (dg 24), .int .u8 (dg 25), .int .u8 (dg 26), .int .u8 (dg 27), .int .u8 (dg 28), .int .u8 (dg 29), .int .u8 (dg 30), .int .u8 (dg 31), .slice A c.secs.length a, .slice B c.justs.length b], .agg #[.int .u8 (dg' 0), .int .u8 (dg' 1), .int .u8 (dg' 2), .int .u8 (dg' 3), .int .u8 (dg' 4), .int .u8 (dg' 5), .int .u8 (dg' 6), .int .u8 (dg' 7), .int .u8 (dg' 8), .int .u8 (dg' 9), .int .u8 (dg' 10), .int .u8 (dg' 11), .int .u8 (dg' 12), .int .u8 (dg' 13), .int .u8 (dg' 14), .int .u8 (dg' 15), .int .u8 (dg' 16), .int .u8 (dg' 17), .int .u8 (dg' 18), .int .u8 (dg' 19), .int .u8 (dg' 20), .int .u8 (dg' 21), .int .u8 (dg' 22), .int .u8 (dg' 23), .int .u8 (dg' 24), .int .u8 (dg' 25), .int .u8 (dg' 26), .int .u8 (dg' 27), .int .u8 (dg' 28), .int .u8 (dg' 29), .int .u8 (dg' 30), .int .u8 (dg' 31), .slice A' c'.secs.length a', .slice B' c'.justs.length b']] w fun e w' => e = .returned (.bool (eqB c.secs c'.secs && eqB c.justs c'.justs)) ∧ Below w.heap.size w w' := by
  have HV := Aside0.mk h
  have HV' := Aside0.mk h'
  have H40 := Aside0.mk h40
  have HJ40 := Aside0.mk hj40
  have HSS := Aside0.mk hS
  have HW2 := Aside0.mk (below_alloc (below_alloc (Below.refl w.heap.size w) (.cells (litC dg (.slice A c.secs.length a) (.slice B c.justs.length b)) 26)) (.cells (litC dg' (.slice A' c'.secs.length a') (.slice B' c'.justs.length b')) 26))
  have HB := Aside0.mk (Below.refl ((w.alloc (.cells (litC dg (.slice A c.secs.length a) (.slice B c.justs.length b)) 26)).alloc (.cells (litC dg' (.slice A' c'.secs.length a') (.slice B' c'.justs.length b')) 26)).heap.size ((w.alloc (.cells (litC dg (.slice A c.secs.length a) (.slice B c.justs.length b)) 26)).alloc (.cells (litC dg' (.slice A' c'.secs.length a') (.slice B' c'.justs.length b')) 26)))
  have hbox : ∀ w', Below ((w.alloc (.cells (litC dg (.slice A c.secs.length a) (.slice B c.justs.length b)) 26)).alloc (.cells (litC dg' (.slice A' c'.secs.length a') (.slice B' c'.justs.length b')) 26)).heap.size ((w.alloc (.cells (litC dg (.slice A c.secs.length a) (.slice B c.justs.length b)) 26)).alloc (.cells (litC dg' (.slice A' c'.secs.length a') (.slice B' c'.justs.length b')) 26)) w' → w'.heap[w.heap.size]? = some (.cells (litC dg (.slice A c.secs.length a) (.slice B c.justs.length b)) 26) := fun w' hb => by
    rw [hb.block w.heap.size (by simp; omega), heap_alloc2_old]
  have hbox' : ∀ w', Below ((w.alloc (.cells (litC dg (.slice A c.secs.length a) (.slice B c.justs.length b)) 26)).alloc (.cells (litC dg' (.slice A' c'.secs.length a') (.slice B' c'.justs.length b')) 26)).heap.size ((w.alloc (.cells (litC dg (.slice A c.secs.length a) (.slice B c.justs.length b)) 26)).alloc (.cells (litC dg' (.slice A' c'.secs.length a') (.slice B' c'.justs.length b')) 26)) w' → w'.heap[w.heap.size + 1]? = some (.cells (litC dg' (.slice A' c'.secs.length a') (.slice B' c'.justs.length b')) 26) := fun w' hb => by
    rw [hb.block (w.heap.size + 1) (by simp), heap_alloc2_new]
  have HX := Aside0.mk hbox
  have HX' := Aside0.mk hbox'
  have q32 : ∀ w', Below ((w.alloc (.cells (litC dg (.slice A c.secs.length a) (.slice B c.justs.length b)) 26)).alloc (.cells (litC dg' (.slice A' c'.secs.length a') (.slice B' c'.justs.length b')) 26)).heap.size ((w.alloc (.cells (litC dg (.slice A c.secs.length a) (.slice B c.justs.length b)) 26)).alloc (.cells (litC dg' (.slice A' c'.secs.length a') (.slice B' c'.justs.length b')) 26)) w' → w'.cell? ⟨w.heap.size, 32, none⟩ = some (.slice A c.secs.length a) := fun w' hb => by rw [cell_of_row w' w.heap.size 32 _ 26 (0, 0) (hbox w' hb)]; rfl
  have q33 : ∀ w', Below ((w.alloc (.cells (litC dg (.slice A c.secs.length a) (.slice B c.justs.length b)) 26)).alloc (.cells (litC dg' (.slice A' c'.secs.length a') (.slice B' c'.justs.length b')) 26)).heap.size ((w.alloc (.cells (litC dg (.slice A c.secs.length a) (.slice B c.justs.length b)) 26)).alloc (.cells (litC dg' (.slice A' c'.secs.length a') (.slice B' c'.justs.length b')) 26)) w' → w'.cell? ⟨w.heap.size, 33, none⟩ = some (.slice B c.justs.length b) := fun w' hb => by rw [cell_of_row w' w.heap.size 33 _ 26 (0, 0) (hbox w' hb)]; rfl
  have p32 : ∀ w', Below ((w.alloc (.cells (litC dg (.slice A c.secs.length a) (.slice B c.justs.length b)) 26)).alloc (.cells (litC dg' (.slice A' c'.secs.length a') (.slice B' c'.justs.length b')) 26)).heap.size ((w.alloc (.cells (litC dg (.slice A c.secs.length a) (.slice B c.justs.length b)) 26)).alloc (.cells (litC dg' (.slice A' c'.secs.length a') (.slice B' c'.justs.length b')) 26)) w' → w'.cell? ⟨w.heap.size + 1, 32, none⟩ = some (.slice A' c'.secs.length a') := fun w' hb => by rw [cell_of_row w' (w.heap.size + 1) 32 _ 26 (0, 0) (hbox' w' hb)]; rfl
  have p33 : ∀ w', Below ((w.alloc (.cells (litC dg (.slice A c.secs.length a) (.slice B c.justs.length b)) 26)).alloc (.cells (litC dg' (.slice A' c'.secs.length a') (.slice B' c'.justs.length b')) 26)).heap.size ((w.alloc (.cells (litC dg (.slice A c.secs.length a) (.slice B c.justs.length b)) 26)).alloc (.cells (litC dg' (.slice A' c'.secs.length a') (.slice B' c'.justs.length b')) 26)) w' → w'.cell? ⟨w.heap.size + 1, 33, none⟩ = some (.slice B' c'.justs.length b') := fun w' hb => by rw [cell_of_row w' (w.heap.size + 1) 33 _ 26 (0, 0) (hbox' w' hb)]; rfl
  have Q32 := Aside0.mk q32
  have Q33 := Aside0.mk q33
  have P32 := Aside0.mk p32
  have P33 := Aside0.mk p33
  have zu1 := q32 _ HB.out
  have zu2 := q33 _ HB.out
  have zu3 := p32 _ HB.out
  have zu4 := p33 _ HB.out
  clear q32 q33 p32 p33 hbox hbox' h h' h40 hj40 hS
  have hd := dig_eq dg dg' hy hy'
  rw [he] at hd
  have d1 : ((c.secs.length : Int) != (c'.secs.length : Int)) = false := by rw [hn]; simp
  have d1b : (c.secs.length != c'.secs.length) = false := by rw [hn]; simp
  have d2 : ((c.justs.length : Int) != (c'.justs.length : Int)) = false := by rw [hm]; simp
  have d2b : (c.justs.length != c'.justs.length) = false := by rw [hm]; simp
  have HL := Aside0.mk (And.intro hn hm)
  clear he hy hy' hn hm
  go_enter Try.func13, Try.ntmps13
  go_wp2_with (first | ((with_reducible refine gate_dst (N := 10) rfl ?_); refine wpList_load_sub rfl 22 (.tmp 9) rfl w.heap.size 0 rfl 26 (litC dg (.slice A c.secs.length a) (.slice B c.justs.length b)) (litD dg) (0, 0) _ (HX.out _ HB.out) (dig_sub dg _ _) Try.underlying22 rfl (size22 dg) ?_) | ((with_reducible refine gate_dst (N := 12) rfl ?_); refine wpList_load_sub rfl 22 (.tmp 11) rfl (w.heap.size + 1) 0 rfl 26 (litC dg' (.slice A' c'.secs.length a') (.slice B' c'.justs.length b')) (litD dg') (0, 0) _ (HX'.out _ HB.out) (dig_sub dg' _ _) Try.underlying22 rfl (size22 dg') ?_))
  go_loopg [5] (c.secs.length + 1) (fun kq v5 w' => ∃ i : Int, v5 = .int .i64 i ∧ Aside0 (0 ≤ i ∧ i ≤ c.secs.length ∧ c.secs.length - i < kq ∧ eqB (c.secs.drop i.toNat) (c'.secs.drop i.toNat) = eqB c.secs c'.secs) ∧ Aside0 (Below ((w.alloc (.cells (litC dg (.slice A c.secs.length a) (.slice B c.justs.length b)) 26)).alloc (.cells (litC dg' (.slice A' c'.secs.length a') (.slice B' c'.justs.length b')) 26)).heap.size ((w.alloc (.cells (litC dg (.slice A c.secs.length a) (.slice B c.justs.length b)) 26)).alloc (.cells (litC dg' (.slice A' c'.secs.length a') (.slice B' c'.justs.length b')) 26)) w'))
  case atStart => exact ⟨0, rfl, ⟨by omega, by omega, by omega, rfl⟩, HB⟩
  case round =>
    clear HB zu1 zu2 zu3 zu4
    obtain ⟨i, rfl, HI, HB⟩ := hrel
    cases gk with
    | zero => exact absurd HI.out (by omega)
    | succ k2 =>
      obtain ⟨i0, i1, ik, hx⟩ := HI.out
      have zu1 := Q32.out _ HB.out
      by_cases hi : i < c.secs.length
      · have hi' : i < c'.secs.length := by have := HL.out.1; omega
        rw [drop_rdS c.secs i i0 hi, drop_rdS c'.secs i i0 hi'] at hx
        obtain ⟨ad, A1, c1, B1, c1', e133, q0, q1, q2, q3, q4, q5, r1, r2, r3, r4⟩ := at_sec HV.out.hA i i0 hi
        cases e133
        obtain ⟨ad', A2, c2, B2, c2', e134, p0, p1, p2, p3, p4, p5, t1, t2, t3, t4⟩ := at_sec HV'.out.hA i i0 hi'
        cases e134
        have c1d : decide (i < (c.secs.length : Int)) = true := decide_eq_true hi
        have s1 := eq_true i0
        have s2 := eq_true hi
        have s3 := eq_true hi'
        have hw : wrap64 (i + 1) = i + 1 := by have := H40.out; unfold wrap64; omega
        have HW := Aside0.mk hw
        have h100 := HSS.out _ (rdS_mem c.secs i i0 hi)
        obtain ⟨s, hs⟩ : ∃ s, s = rdS c.secs i := ⟨_, rfl⟩
        obtain ⟨t, ht⟩ : ∃ t, t = rdS c'.secs i := ⟨_, rfl⟩
        rw [← hs] at q0 q1 q2 q3 q4 q5 hx h100 r1 r2 r3 r4
        rw [← ht] at p0 p1 p2 p3 p4 p5 hx t1 t2 t3 t4
        have T2 := Aside0.mk (And.intro r2 (And.intro r1 (And.intro t2 (And.intro t1 h100.1))))
        have T5 := Aside0.mk (And.intro r4 (And.intro r3 (And.intro t4 (And.intro t3 h100.2))))
        have K0 := Aside0.mk (fun w' (hb : Below ((w.alloc (.cells (litC dg (.slice (some ad) c.secs.length a) (.slice B c.justs.length b)) 26)).alloc (.cells (litC dg' (.slice (some ad') c'.secs.length a') (.slice B' c'.justs.length b')) 26)).heap.size ((w.alloc (.cells (litC dg (.slice (some ad) c.secs.length a) (.slice B c.justs.length b)) 26)).alloc (.cells (litC dg' (.slice (some ad') c'.secs.length a') (.slice B' c'.justs.length b')) 26)) w') => ((below_step HW2.out hb).cell (World.block_lt_of_cell? w _ q0)).trans q0)
        have K1 := Aside0.mk (fun w' (hb : Below ((w.alloc (.cells (litC dg (.slice (some ad) c.secs.length a) (.slice B c.justs.length b)) 26)).alloc (.cells (litC dg' (.slice (some ad') c'.secs.length a') (.slice B' c'.justs.length b')) 26)).heap.size ((w.alloc (.cells (litC dg (.slice (some ad) c.secs.length a) (.slice B c.justs.length b)) 26)).alloc (.cells (litC dg' (.slice (some ad') c'.secs.length a') (.slice B' c'.justs.length b')) 26)) w') => ((below_step HW2.out hb).cell (World.block_lt_of_cell? w _ q1)).trans q1)
        have K2 := Aside0.mk (fun w' (hb : Below ((w.alloc (.cells (litC dg (.slice (some ad) c.secs.length a) (.slice B c.justs.length b)) 26)).alloc (.cells (litC dg' (.slice (some ad') c'.secs.length a') (.slice B' c'.justs.length b')) 26)).heap.size ((w.alloc (.cells (litC dg (.slice (some ad) c.secs.length a) (.slice B c.justs.length b)) 26)).alloc (.cells (litC dg' (.slice (some ad') c'.secs.length a') (.slice B' c'.justs.length b')) 26)) w') => ((below_step HW2.out hb).cell (World.block_lt_of_cell? w _ q2)).trans q2)
        have K3 := Aside0.mk (fun w' (hb : Below ((w.alloc (.cells (litC dg (.slice (some ad) c.secs.length a) (.slice B c.justs.length b)) 26)).alloc (.cells (litC dg' (.slice (some ad') c'.secs.length a') (.slice B' c'.justs.length b')) 26)).heap.size ((w.alloc (.cells (litC dg (.slice (some ad) c.secs.length a) (.slice B c.justs.length b)) 26)).alloc (.cells (litC dg' (.slice (some ad') c'.secs.length a') (.slice B' c'.justs.length b')) 26)) w') => ((below_step HW2.out hb).cell (World.block_lt_of_cell? w _ q3)).trans q3)
        have K4 := Aside0.mk (fun w' (hb : Below ((w.alloc (.cells (litC dg (.slice (some ad) c.secs.length a) (.slice B c.justs.length b)) 26)).alloc (.cells (litC dg' (.slice (some ad') c'.secs.length a') (.slice B' c'.justs.length b')) 26)).heap.size ((w.alloc (.cells (litC dg (.slice (some ad) c.secs.length a) (.slice B c.justs.length b)) 26)).alloc (.cells (litC dg' (.slice (some ad') c'.secs.length a') (.slice B' c'.justs.length b')) 26)) w') => ((below_step HW2.out hb).cell (World.block_lt_of_cell? w _ q4)).trans q4)
        have K5 := Aside0.mk (fun w' (hb : Below ((w.alloc (.cells (litC dg (.slice (some ad) c.secs.length a) (.slice B c.justs.length b)) 26)).alloc (.cells (litC dg' (.slice (some ad') c'.secs.length a') (.slice B' c'.justs.length b')) 26)).heap.size ((w.alloc (.cells (litC dg (.slice (some ad) c.secs.length a) (.slice B c.justs.length b)) 26)).alloc (.cells (litC dg' (.slice (some ad') c'.secs.length a') (.slice B' c'.justs.length b')) 26)) w') => ((below_step HW2.out hb).cell (World.block_lt_of_cell? w _ q5)).trans q5)
        have M0 := Aside0.mk (fun w' (hb : Below ((w.alloc (.cells (litC dg (.slice (some ad) c.secs.length a) (.slice B c.justs.length b)) 26)).alloc (.cells (litC dg' (.slice (some ad') c'.secs.length a') (.slice B' c'.justs.length b')) 26)).heap.size ((w.alloc (.cells (litC dg (.slice (some ad) c.secs.length a) (.slice B c.justs.length b)) 26)).alloc (.cells (litC dg' (.slice (some ad') c'.secs.length a') (.slice B' c'.justs.length b')) 26)) w') => ((below_step HW2.out hb).cell (World.block_lt_of_cell? w _ p0)).trans p0)
        have M1 := Aside0.mk (fun w' (hb : Below ((w.alloc (.cells (litC dg (.slice (some ad) c.secs.length a) (.slice B c.justs.length b)) 26)).alloc (.cells (litC dg' (.slice (some ad') c'.secs.length a') (.slice B' c'.justs.length b')) 26)).heap.size ((w.alloc (.cells (litC dg (.slice (some ad) c.secs.length a) (.slice B c.justs.length b)) 26)).alloc (.cells (litC dg' (.slice (some ad') c'.secs.length a') (.slice B' c'.justs.length b')) 26)) w') => ((below_step HW2.out hb).cell (World.block_lt_of_cell? w _ p1)).trans p1)
        have M2 := Aside0.mk (fun w' (hb : Below ((w.alloc (.cells (litC dg (.slice (some ad) c.secs.length a) (.slice B c.justs.length b)) 26)).alloc (.cells (litC dg' (.slice (some ad') c'.secs.length a') (.slice B' c'.justs.length b')) 26)).heap.size ((w.alloc (.cells (litC dg (.slice (some ad) c.secs.length a) (.slice B c.justs.length b)) 26)).alloc (.cells (litC dg' (.slice (some ad') c'.secs.length a') (.slice B' c'.justs.length b')) 26)) w') => ((below_step HW2.out hb).cell (World.block_lt_of_cell? w _ p2)).trans p2)
        have M3 := Aside0.mk (fun w' (hb : Below ((w.alloc (.cells (litC dg (.slice (some ad) c.secs.length a) (.slice B c.justs.length b)) 26)).alloc (.cells (litC dg' (.slice (some ad') c'.secs.length a') (.slice B' c'.justs.length b')) 26)).heap.size ((w.alloc (.cells (litC dg (.slice (some ad) c.secs.length a) (.slice B c.justs.length b)) 26)).alloc (.cells (litC dg' (.slice (some ad') c'.secs.length a') (.slice B' c'.justs.length b')) 26)) w') => ((below_step HW2.out hb).cell (World.block_lt_of_cell? w _ p3)).trans p3)
        have M4 := Aside0.mk (fun w' (hb : Below ((w.alloc (.cells (litC dg (.slice (some ad) c.secs.length a) (.slice B c.justs.length b)) 26)).alloc (.cells (litC dg' (.slice (some ad') c'.secs.length a') (.slice B' c'.justs.length b')) 26)).heap.size ((w.alloc (.cells (litC dg (.slice (some ad) c.secs.length a) (.slice B c.justs.length b)) 26)).alloc (.cells (litC dg' (.slice (some ad') c'.secs.length a') (.slice B' c'.justs.length b')) 26)) w') => ((below_step HW2.out hb).cell (World.block_lt_of_cell? w _ p4)).trans p4)
        have M5 := Aside0.mk (fun w' (hb : Below ((w.alloc (.cells (litC dg (.slice (some ad) c.secs.length a) (.slice B c.justs.length b)) 26)).alloc (.cells (litC dg' (.slice (some ad') c'.secs.length a') (.slice B' c'.justs.length b')) 26)).heap.size ((w.alloc (.cells (litC dg (.slice (some ad) c.secs.length a) (.slice B c.justs.length b)) 26)).alloc (.cells (litC dg' (.slice (some ad') c'.secs.length a') (.slice B' c'.justs.length b')) 26)) w') => ((below_step HW2.out hb).cell (World.block_lt_of_cell? w _ p5)).trans p5)
        by_cases hc0 : s.entry = t.entry
        · by_cases hc1 : s.exit = t.exit
          · by_cases hc2 : s.le = t.le
            · by_cases hc3 : s.lx = t.lx
              · by_cases hc4 : s.held = t.held
                · by_cases hc5 : s.live = t.live
                  · have hst : s = t := by cases s; cases t; simp only at hc0 hc1 hc2 hc3 hc4 hc5; rw [hc0, hc1, hc2, hc3, hc4, hc5]
                    have hx2 : eqB (c.secs.drop (i + 1).toNat) (c'.secs.drop (i + 1).toNat) = eqB c.secs c'.secs := by
                      rw [← hx]; exact eqB_congr (by rw [List.cons.injEq]; exact ⟨fun h => ⟨hst, h⟩, fun h => h.2⟩)
                    have HXX := Aside0.mk hx2
                    have f0 : (s.entry != t.entry) = false := by rw [hc0]; simp
                    have f1 : (s.exit != t.exit) = false := by rw [hc1]; simp
                    have f2 : (s.le != t.le) = false := by rw [hc2]; simp
                    have f3 : (s.lx != t.lx) = false := by rw [hc3]; simp
                    have E4 := Aside0.mk ((eqB_iff _ _).2 hc4)
                    have E5 := Aside0.mk ((eqB_iff _ _).2 hc5)
                    clear hx2 hst hc0 hc1 hc2 hc3 hc4 hc5
                    clear hx hw q0 q1 q2 q3 q4 q5 p0 p1 p2 p3 p4 p5 r1 r2 r3 r4 t1 t2 t3 t4 i0 i1 ik hi hi' hs ht h100
                    go_wp2
                    refine start_any (n := 14) (S := fun w' => Below ((w.alloc (.cells (litC dg (.slice (some ad) c.secs.length a) (.slice B c.justs.length b)) 26)).alloc (.cells (litC dg' (.slice (some ad') c'.secs.length a') (.slice B' c'.justs.length b')) 26)).heap.size ((w.alloc (.cells (litC dg (.slice (some ad) c.secs.length a) (.slice B c.justs.length b)) 26)).alloc (.cells (litC dg' (.slice (some ad') c'.secs.length a') (.slice B' c'.justs.length b')) 26)) w') (ds := []) #[false, false, false, false, false, false, false, false, false, false, false, false, false, false] (by kernel_rfl) rfl rfl (below_drew1 HB.out) (fun wd hHeld => ?_); refine with_tabW rs.tab6 rs.bits6 (fun HT_ HW_ => ?_)
                    have HBd := Aside0.mk hHeld
                    refine pure_ (i := 0) (N := some 39) (v := ?_) (a' := ?_) #[true, false, false, false, false, false, false, false, false, false, false, false, false, false] rfl rfl (any_of HT_.out (by kernel_rfl)) (fun _ _ _ h => h) (Or.inl ⟨by rfl, ?_⟩) ?_ ?_
                    rotate_left
                    · intro w'
                      go_simp
                      with_reducible rfl
                    rotate_left
                    · simp only [Act.put, List.setIfInBounds_toArray, List.set_cons_zero, List.set_cons_succ, i64_w, i32_w]
                      rfl
                    refine take_ (i := 1) (N := some 40) (v := ?_) (a' := ?_) #[true, true, false, false, false, false, false, false, false, false, false, false, false, false] rfl rfl (take_ofW HT_.out HW_.out (by kernel_rfl)) (fun _ _ _ h => h) (Or.inl ⟨by rfl, ?_⟩) hHeld ?_ ?_
                    rotate_left
                    · intro w' hw'
                      have hq := Q32.out w' hw'
                      go_simp
                      with_reducible rfl
                    rotate_left
                    · simp only [Act.put, List.setIfInBounds_toArray, List.set_cons_zero, List.set_cons_succ, i64_w, i32_w]
                      rfl
                    refine pure_ (i := 2) (N := some 41) (v := ?_) (a' := ?_) #[true, true, true, false, false, false, false, false, false, false, false, false, false, false] rfl rfl (any_of HT_.out (by kernel_rfl)) (fun _ _ _ h => h) (Or.inl ⟨by rfl, ?_⟩) ?_ ?_
                    rotate_left
                    · intro w'
                      go_simp
                      with_reducible rfl
                    rotate_left
                    · simp only [Act.put, List.setIfInBounds_toArray, List.set_cons_zero, List.set_cons_succ, i64_w, i32_w]
                      rfl
                    refine pure_ (i := 3) (N := some 42) (v := ?_) (a' := ?_) #[true, true, true, true, false, false, false, false, false, false, false, false, false, false] rfl rfl (any_of HT_.out (by kernel_rfl)) (fun _ _ _ h => h) (Or.inl ⟨by rfl, ?_⟩) ?_ ?_
                    rotate_left
                    · intro w'
                      go_simp
                      with_reducible rfl
                    rotate_left
                    · simp only [Act.put, List.setIfInBounds_toArray, List.set_cons_zero, List.set_cons_succ, i64_w, i32_w]
                      rfl
                    refine take_ (i := 4) (N := some 43) (v := ?_) (a' := ?_) #[true, true, true, true, true, false, false, false, false, false, false, false, false, false] rfl rfl (take_ofW HT_.out HW_.out (by kernel_rfl)) (fun _ _ _ h => h) (Or.inl ⟨by rfl, ?_⟩) hHeld ?_ ?_
                    rotate_left
                    · intro w' hw'
                      have hq0 := K0.out w' hw'
                      have hq1 := K1.out w' hw'
                      have hq2 := K2.out w' hw'
                      have hq3 := K3.out w' hw'
                      have hq4 := K4.out w' hw'
                      have hq5 := K5.out w' hw'
                      go_simp
                      with_reducible rfl
                    rotate_left
                    · simp only [Act.put, List.setIfInBounds_toArray, List.set_cons_zero, List.set_cons_succ, i64_w, i32_w]
                      rfl
                    refine pure_ (i := 5) (N := some 44) (v := ?_) (a' := ?_) #[true, true, true, true, true, true, false, false, false, false, false, false, false, false] rfl rfl (any_of HT_.out (by kernel_rfl)) (fun _ _ _ h => h) (Or.inl ⟨by rfl, ?_⟩) ?_ ?_
                    rotate_left
                    · intro w'
                      go_simp
                      with_reducible rfl
                    rotate_left
                    · simp only [Act.put, List.setIfInBounds_toArray, List.set_cons_zero, List.set_cons_succ, i64_w, i32_w]
                      rfl
                    refine take_ (i := 6) (N := some 45) (v := ?_) (a' := ?_) #[true, true, true, true, true, true, true, false, false, false, false, false, false, false] rfl rfl (take_ofW HT_.out HW_.out (by kernel_rfl)) (fun _ _ _ h => h) (Or.inl ⟨by rfl, ?_⟩) hHeld ?_ ?_
                    rotate_left
                    · intro w' hw'
                      have hq := P32.out w' hw'
                      go_simp
                      with_reducible rfl
                    rotate_left
                    · simp only [Act.put, List.setIfInBounds_toArray, List.set_cons_zero, List.set_cons_succ, i64_w, i32_w]
                      rfl
                    refine pure_ (i := 7) (N := some 46) (v := ?_) (a' := ?_) #[true, true, true, true, true, true, true, true, false, false, false, false, false, false] rfl rfl (any_of HT_.out (by kernel_rfl)) (fun _ _ _ h => h) (Or.inl ⟨by rfl, ?_⟩) ?_ ?_
                    rotate_left
                    · intro w'
                      go_simp
                      with_reducible rfl
                    rotate_left
                    · simp only [Act.put, List.setIfInBounds_toArray, List.set_cons_zero, List.set_cons_succ, i64_w, i32_w]
                      rfl
                    refine pure_ (i := 8) (N := some 47) (v := ?_) (a' := ?_) #[true, true, true, true, true, true, true, true, true, false, false, false, false, false] rfl rfl (any_of HT_.out (by kernel_rfl)) (fun _ _ _ h => h) (Or.inl ⟨by rfl, ?_⟩) ?_ ?_
                    rotate_left
                    · intro w'
                      go_simp
                      with_reducible rfl
                    rotate_left
                    · simp only [Act.put, List.setIfInBounds_toArray, List.set_cons_zero, List.set_cons_succ, i64_w, i32_w]
                      rfl
                    refine take_ (i := 9) (N := some 48) (v := ?_) (a' := ?_) #[true, true, true, true, true, true, true, true, true, true, false, false, false, false] rfl rfl (take_ofW HT_.out HW_.out (by kernel_rfl)) (fun _ _ _ h => h) (Or.inl ⟨by rfl, ?_⟩) hHeld ?_ ?_
                    rotate_left
                    · intro w' hw'
                      have hq0 := M0.out w' hw'
                      have hq1 := M1.out w' hw'
                      have hq2 := M2.out w' hw'
                      have hq3 := M3.out w' hw'
                      have hq4 := M4.out w' hw'
                      have hq5 := M5.out w' hw'
                      go_simp
                      with_reducible rfl
                    rotate_left
                    · simp only [Act.put, List.setIfInBounds_toArray, List.set_cons_zero, List.set_cons_succ, i64_w, i32_w]
                      rfl
                    refine join_ (σ := Nat × Nat) 2 #[true, true, true, true, true, true, true, true, true, true, true, true, false, false] (fun s => [(6, .pointer (some ⟨s.1, 0, none⟩)), (7, .pointer (some ⟨s.2, 0, none⟩))]) (fun s w' => Aside0 (w'.heap[s.1]? = some (.cells #[.int .u32 0, .int .u32 0, .slice none 0 0, .int .u32 0, .int .u32 0, .slice none 0 0] 38) ∧ w'.heap[s.2]? = some (.cells #[.int .u32 0, .int .u32 0, .slice none 0 0, .int .u32 0, .int .u32 0, .slice none 0 0] 38) ∧ s.1 ≠ s.2 ∧ ((w.alloc (.cells (litC dg (.slice (some ad) c.secs.length a) (.slice B c.justs.length b)) 26)).alloc (.cells (litC dg' (.slice (some ad') c'.secs.length a') (.slice B' c'.justs.length b')) 26)).heap.size ≤ s.1 ∧ ((w.alloc (.cells (litC dg (.slice (some ad) c.secs.length a) (.slice B c.justs.length b)) 26)).alloc (.cells (litC dg' (.slice (some ad') c'.secs.length a') (.slice B' c'.justs.length b')) 26)).heap.size ≤ s.2) ∧ Aside0 (Below ((w.alloc (.cells (litC dg (.slice (some ad) c.secs.length a) (.slice B c.justs.length b)) 26)).alloc (.cells (litC dg' (.slice (some ad') c'.secs.length a') (.slice B' c'.justs.length b')) 26)).heap.size ((w.alloc (.cells (litC dg (.slice (some ad) c.secs.length a) (.slice B c.justs.length b)) 26)).alloc (.cells (litC dg' (.slice (some ad') c'.secs.length a') (.slice B' c'.justs.length b')) 26)) w')) (fun s0_ wj HF => ?_) (fun hcont => ?_)
                    rotate_left
                    · refine two_ (i := 10) (j := 11) (Ni := some 6) (Nj := some 7) #[true, true, true, true, true, true, true, true, true, true, true, false, false, false] #[true, true, true, true, true, true, true, true, true, true, false, true, false, false] rfl rfl rfl rfl (two_of HT_.out (by kernel_rfl)) (by decide) (by decide) (fun K hK => ?_) (fun K hK => ?_)
                      · refine value_ (w1 := ?_) (v := ?_) (by rfl) rfl ?_ ?_
                        rotate_left 2
                        · go_simp
                          constructor
                          · rfl
                          · rfl
                        have n_ := below_alloc HBd.out (.cells #[.int .u32 0, .int .u32 0, .slice none 0 0, .int .u32 0, .int .u32 0, .slice none 0 0] 38)
                        refine hK.out _ _ n_ (fun hHeld => ?_)
                        clear hK K
                        refine norm_ (a' := ?_) ?_ ?_
                        rotate_left
                        · show Act.put _ (some 6) _ = _
                          simp only [Act.put, List.setIfInBounds_toArray, List.set_cons_zero, List.set_cons_succ, i64_w, i32_w]
                          rfl
                        refine one_ (i := 11) (N := some 7) #[true, true, true, true, true, true, true, true, true, true, true, true, false, false] rfl rfl (one_of HT_.out (by kernel_rfl)) (by decide) (fun K hK => ?_)
                        refine value_ (w1 := ?_) (v := ?_) (by rfl) rfl ?_ ?_
                        rotate_left 2
                        · go_simp
                          constructor
                          · rfl
                          · rfl
                        have n2_ := below_alloc n_ (.cells #[.int .u32 0, .int .u32 0, .slice none 0 0, .int .u32 0, .int .u32 0, .slice none 0 0] 38)
                        refine hK.out _ _ n2_ (fun hHeld => ?_)
                        clear hK K
                        refine norm_ (a' := ?_) ?_ ?_
                        rotate_left
                        · show Act.put _ (some 7) _ = _
                          simp only [Act.put, List.setIfInBounds_toArray, List.set_cons_zero, List.set_cons_succ, i64_w, i32_w]
                          rfl
                        exact hcont (_, _) _ ⟨⟨two_allocs HBd.out⟩, ⟨n2_⟩⟩
                      · refine value_ (w1 := ?_) (v := ?_) (by rfl) rfl ?_ ?_
                        rotate_left 2
                        · go_simp
                          constructor
                          · rfl
                          · rfl
                        have n_ := below_alloc HBd.out (.cells #[.int .u32 0, .int .u32 0, .slice none 0 0, .int .u32 0, .int .u32 0, .slice none 0 0] 38)
                        refine hK.out _ _ n_ (fun hHeld => ?_)
                        clear hK K
                        refine norm_ (a' := ?_) ?_ ?_
                        rotate_left
                        · show Act.put _ (some 7) _ = _
                          simp only [Act.put, List.setIfInBounds_toArray, List.set_cons_zero, List.set_cons_succ, i64_w, i32_w]
                          rfl
                        refine one_ (i := 10) (N := some 6) #[true, true, true, true, true, true, true, true, true, true, true, true, false, false] rfl rfl (one_of HT_.out (by kernel_rfl)) (by decide) (fun K hK => ?_)
                        refine value_ (w1 := ?_) (v := ?_) (by rfl) rfl ?_ ?_
                        rotate_left 2
                        · go_simp
                          constructor
                          · rfl
                          · rfl
                        have n2_ := below_alloc n_ (.cells #[.int .u32 0, .int .u32 0, .slice none 0 0, .int .u32 0, .int .u32 0, .slice none 0 0] 38)
                        refine hK.out _ _ n2_ (fun hHeld => ?_)
                        clear hK K
                        refine norm_ (a' := ?_) ?_ ?_
                        rotate_left
                        · show Act.put _ (some 6) _ = _
                          simp only [Act.put, List.setIfInBounds_toArray, List.set_cons_zero, List.set_cons_succ, i64_w, i32_w]
                          rfl
                        exact hcont (_, _) _ ⟨⟨two_allocs' HBd.out⟩, ⟨n2_⟩⟩
                    obtain ⟨g6, g7⟩ := s0_
                    obtain ⟨HN, HB6⟩ := HF
                    refine norm_ (a' := ?_) ?_ ?_
                    rotate_left
                    · simp only [putAll, Act.put, List.setIfInBounds_toArray, List.set_cons_zero, List.set_cons_succ, i64_w, i32_w]
                      rfl
                    refine one_ (i := 12) (N := none) #[true, true, true, true, true, true, true, true, true, true, true, true, true, false] rfl rfl (one_of HT_.out (by kernel_rfl)) (by decide) (fun K hK => ?_)
                    rw [if_pos (by rfl)]
                    refine wp_store_row 38 (.tmp 6) (.tmp 43) rfl g6 #[.int .u32 s.entry, .int .u32 s.exit, .slice A1 s.held.length c1, .int .u32 s.le, .int .u32 s.lx, .slice B1 s.live.length c1'] rfl rfl 38 #[.int .u32 0, .int .u32 0, .slice none 0 0, .int .u32 0, .int .u32 0, .slice none 0 0] HN.out.1 size38 rfl (sec_one _ _ _ _ _ _ _ _ _ _) ?_
                    have HB12 := Aside0.mk (below_setRow HB6.out HN.out.2.2.2.1 #[.int .u32 s.entry, .int .u32 s.exit, .slice A1 s.held.length c1, .int .u32 s.le, .int .u32 s.lx, .slice B1 s.live.length c1'])
                    have G6 := Aside0.mk (setRow_heap wj g6 _ #[.int .u32 s.entry, .int .u32 s.exit, .slice A1 s.held.length c1, .int .u32 s.le, .int .u32 s.lx, .slice B1 s.live.length c1'] 38 (0, 0) HN.out.1)
                    have G7 := Aside0.mk ((setRow_other wj g6 g7 #[.int .u32 s.entry, .int .u32 s.exit, .slice A1 s.held.length c1, .int .u32 s.le, .int .u32 s.lx, .slice B1 s.live.length c1'] (Ne.symm HN.out.2.2.1)).trans HN.out.2.1)
                    refine hK.out _ _ HB12.out (fun hHeld => ?_)
                    clear hK K
                    refine norm_ (a' := ?_) ?_ ?_
                    rotate_left
                    · show Act.put _ (none) _ = _
                      simp only [Act.put, List.setIfInBounds_toArray, List.set_cons_zero, List.set_cons_succ, i64_w, i32_w]
                      rfl
                    refine one_ (i := 13) (N := none) #[true, true, true, true, true, true, true, true, true, true, true, true, true, true] rfl rfl (one_of HT_.out (by kernel_rfl)) (by decide) (fun K hK => ?_)
                    rw [if_pos (by rfl)]
                    refine wp_store_row 38 (.tmp 7) (.tmp 48) rfl g7 #[.int .u32 t.entry, .int .u32 t.exit, .slice A2 t.held.length c2, .int .u32 t.le, .int .u32 t.lx, .slice B2 t.live.length c2'] rfl rfl 38 #[.int .u32 0, .int .u32 0, .slice none 0 0, .int .u32 0, .int .u32 0, .slice none 0 0] G7.out size38 rfl (sec_one _ _ _ _ _ _ _ _ _ _) ?_
                    have HB13 := Aside0.mk (below_setRow HB12.out HN.out.2.2.2.2 #[.int .u32 t.entry, .int .u32 t.exit, .slice A2 t.held.length c2, .int .u32 t.le, .int .u32 t.lx, .slice B2 t.live.length c2'])
                    have J7 := Aside0.mk (setRow_heap _ g7 _ #[.int .u32 t.entry, .int .u32 t.exit, .slice A2 t.held.length c2, .int .u32 t.le, .int .u32 t.lx, .slice B2 t.live.length c2'] 38 (0, 0) G7.out)
                    have J6 := Aside0.mk ((setRow_other (wj.setRow g6 #[.int .u32 s.entry, .int .u32 s.exit, .slice A1 s.held.length c1, .int .u32 s.le, .int .u32 s.lx, .slice B1 s.live.length c1']) g7 g6 #[.int .u32 t.entry, .int .u32 t.exit, .slice A2 t.held.length c2, .int .u32 t.le, .int .u32 t.lx, .slice B2 t.live.length c2'] HN.out.2.2.1).trans G6.out)
                    refine hK.out _ _ HB13.out (fun hHeld => ?_)
                    clear hK K
                    refine norm_ (a' := ?_) ?_ ?_
                    rotate_left
                    · show Act.put _ (none) _ = _
                      simp only [Act.put, List.setIfInBounds_toArray, List.set_cons_zero, List.set_cons_succ, i64_w, i32_w]
                      rfl
                    refine done_ (done_of HT_.out (by kernel_rfl)) ?_
                    have hsx := six_cells J6.out
                    have htx := six_cells J7.out
                    obtain ⟨x0, x1, x2, x3, x4, x5⟩ := hsx
                    obtain ⟨y0, y1, y2, y3, y4, y5⟩ := htx
                    try clear hHeld
                    go_wp2_with (first | (go_at_call 21; (with_reducible refine (masks_any A1 A2 c1 c2 s.held t.held true _ (Kd.C_below T2.out.1 (below_step HW2.out (by repeat (first | exact HB13.out | apply pw_below_drewN | apply below_drew1)))) T2.out.2.1 (Kd.C_below T2.out.2.2.1 (below_step HW2.out (by repeat (first | exact HB13.out | apply pw_below_drewN | apply below_drew1)))) T2.out.2.2.2.1 T2.out.2.2.2.2 E4.out).mono ?_); rintro e w' ⟨rfl, ⟨nd, rfl⟩⟩) | (go_at_call 21; (with_reducible refine (masks_any B1 B2 c1' c2' s.live t.live true _ (Kd.C_below T5.out.1 (below_step HW2.out (by repeat (first | exact HB13.out | apply pw_below_drewN | apply below_drew1)))) T5.out.2.1 (Kd.C_below T5.out.2.2.1 (below_step HW2.out (by repeat (first | exact HB13.out | apply pw_below_drewN | apply below_drew1)))) T5.out.2.2.2.1 T5.out.2.2.2.2 E5.out).mono ?_); rintro e w' ⟨rfl, ⟨nd, rfl⟩⟩))
                    go_roundg k2
                    case measure => omega
                    case rel => exact ⟨i + 1, (by rw [HW.out]), ⟨by have := HI.out; omega, by have := HI.out; have := of_eq_true s2; omega, by have := HI.out; omega, HXX.out⟩, ⟨by repeat (first | exact HB13.out | apply pw_below_drewN | apply below_drew1)⟩⟩
                  · have hne : s ≠ t := fun h => hc5 (by rw [h])
                    have hx2 : eqB c.secs c'.secs = false := by rw [← hx]; exact eqB_false (fun h => hne (List.cons.inj h).1)
                    have HXX := Aside0.mk hx2
                    have f0 : (s.entry != t.entry) = false := by rw [hc0]; simp
                    have f1 : (s.exit != t.exit) = false := by rw [hc1]; simp
                    have f2 : (s.le != t.le) = false := by rw [hc2]; simp
                    have f3 : (s.lx != t.lx) = false := by rw [hc3]; simp
                    have E4 := Aside0.mk ((eqB_iff _ _).2 hc4)
                    have E5 := Aside0.mk (eqB_false hc5)
                    clear hx2 hne hc0 hc1 hc2 hc3 hc4 hc5
                    clear hx hw q0 q1 q2 q3 q4 q5 p0 p1 p2 p3 p4 p5 r1 r2 r3 r4 t1 t2 t3 t4 i0 i1 ik hi hi' hs ht h100
                    go_wp2
                    refine start_any (n := 14) (S := fun w' => Below ((w.alloc (.cells (litC dg (.slice (some ad) c.secs.length a) (.slice B c.justs.length b)) 26)).alloc (.cells (litC dg' (.slice (some ad') c'.secs.length a') (.slice B' c'.justs.length b')) 26)).heap.size ((w.alloc (.cells (litC dg (.slice (some ad) c.secs.length a) (.slice B c.justs.length b)) 26)).alloc (.cells (litC dg' (.slice (some ad') c'.secs.length a') (.slice B' c'.justs.length b')) 26)) w') (ds := []) #[false, false, false, false, false, false, false, false, false, false, false, false, false, false] (by kernel_rfl) rfl rfl (below_drew1 HB.out) (fun wd hHeld => ?_); refine with_tabW rs.tab6 rs.bits6 (fun HT_ HW_ => ?_)
                    have HBd := Aside0.mk hHeld
                    refine pure_ (i := 0) (N := some 39) (v := ?_) (a' := ?_) #[true, false, false, false, false, false, false, false, false, false, false, false, false, false] rfl rfl (any_of HT_.out (by kernel_rfl)) (fun _ _ _ h => h) (Or.inl ⟨by rfl, ?_⟩) ?_ ?_
                    rotate_left
                    · intro w'
                      go_simp
                      with_reducible rfl
                    rotate_left
                    · simp only [Act.put, List.setIfInBounds_toArray, List.set_cons_zero, List.set_cons_succ, i64_w, i32_w]
                      rfl
                    refine take_ (i := 1) (N := some 40) (v := ?_) (a' := ?_) #[true, true, false, false, false, false, false, false, false, false, false, false, false, false] rfl rfl (take_ofW HT_.out HW_.out (by kernel_rfl)) (fun _ _ _ h => h) (Or.inl ⟨by rfl, ?_⟩) hHeld ?_ ?_
                    rotate_left
                    · intro w' hw'
                      have hq := Q32.out w' hw'
                      go_simp
                      with_reducible rfl
                    rotate_left
                    · simp only [Act.put, List.setIfInBounds_toArray, List.set_cons_zero, List.set_cons_succ, i64_w, i32_w]
                      rfl
                    refine pure_ (i := 2) (N := some 41) (v := ?_) (a' := ?_) #[true, true, true, false, false, false, false, false, false, false, false, false, false, false] rfl rfl (any_of HT_.out (by kernel_rfl)) (fun _ _ _ h => h) (Or.inl ⟨by rfl, ?_⟩) ?_ ?_
                    rotate_left
                    · intro w'
                      go_simp
                      with_reducible rfl
                    rotate_left
                    · simp only [Act.put, List.setIfInBounds_toArray, List.set_cons_zero, List.set_cons_succ, i64_w, i32_w]
                      rfl
                    refine pure_ (i := 3) (N := some 42) (v := ?_) (a' := ?_) #[true, true, true, true, false, false, false, false, false, false, false, false, false, false] rfl rfl (any_of HT_.out (by kernel_rfl)) (fun _ _ _ h => h) (Or.inl ⟨by rfl, ?_⟩) ?_ ?_
                    rotate_left
                    · intro w'
                      go_simp
                      with_reducible rfl
                    rotate_left
                    · simp only [Act.put, List.setIfInBounds_toArray, List.set_cons_zero, List.set_cons_succ, i64_w, i32_w]
                      rfl
                    refine take_ (i := 4) (N := some 43) (v := ?_) (a' := ?_) #[true, true, true, true, true, false, false, false, false, false, false, false, false, false] rfl rfl (take_ofW HT_.out HW_.out (by kernel_rfl)) (fun _ _ _ h => h) (Or.inl ⟨by rfl, ?_⟩) hHeld ?_ ?_
                    rotate_left
                    · intro w' hw'
                      have hq0 := K0.out w' hw'
                      have hq1 := K1.out w' hw'
                      have hq2 := K2.out w' hw'
                      have hq3 := K3.out w' hw'
                      have hq4 := K4.out w' hw'
                      have hq5 := K5.out w' hw'
                      go_simp
                      with_reducible rfl
                    rotate_left
                    · simp only [Act.put, List.setIfInBounds_toArray, List.set_cons_zero, List.set_cons_succ, i64_w, i32_w]
                      rfl
                    refine pure_ (i := 5) (N := some 44) (v := ?_) (a' := ?_) #[true, true, true, true, true, true, false, false, false, false, false, false, false, false] rfl rfl (any_of HT_.out (by kernel_rfl)) (fun _ _ _ h => h) (Or.inl ⟨by rfl, ?_⟩) ?_ ?_
                    rotate_left
                    · intro w'
                      go_simp
                      with_reducible rfl
                    rotate_left
                    · simp only [Act.put, List.setIfInBounds_toArray, List.set_cons_zero, List.set_cons_succ, i64_w, i32_w]
                      rfl
                    refine take_ (i := 6) (N := some 45) (v := ?_) (a' := ?_) #[true, true, true, true, true, true, true, false, false, false, false, false, false, false] rfl rfl (take_ofW HT_.out HW_.out (by kernel_rfl)) (fun _ _ _ h => h) (Or.inl ⟨by rfl, ?_⟩) hHeld ?_ ?_
                    rotate_left
                    · intro w' hw'
                      have hq := P32.out w' hw'
                      go_simp
                      with_reducible rfl
                    rotate_left
                    · simp only [Act.put, List.setIfInBounds_toArray, List.set_cons_zero, List.set_cons_succ, i64_w, i32_w]
                      rfl
                    refine pure_ (i := 7) (N := some 46) (v := ?_) (a' := ?_) #[true, true, true, true, true, true, true, true, false, false, false, false, false, false] rfl rfl (any_of HT_.out (by kernel_rfl)) (fun _ _ _ h => h) (Or.inl ⟨by rfl, ?_⟩) ?_ ?_
                    rotate_left
                    · intro w'
                      go_simp
                      with_reducible rfl
                    rotate_left
                    · simp only [Act.put, List.setIfInBounds_toArray, List.set_cons_zero, List.set_cons_succ, i64_w, i32_w]
                      rfl
                    refine pure_ (i := 8) (N := some 47) (v := ?_) (a' := ?_) #[true, true, true, true, true, true, true, true, true, false, false, false, false, false] rfl rfl (any_of HT_.out (by kernel_rfl)) (fun _ _ _ h => h) (Or.inl ⟨by rfl, ?_⟩) ?_ ?_
                    rotate_left
                    · intro w'
                      go_simp
                      with_reducible rfl
                    rotate_left
                    · simp only [Act.put, List.setIfInBounds_toArray, List.set_cons_zero, List.set_cons_succ, i64_w, i32_w]
                      rfl
                    refine take_ (i := 9) (N := some 48) (v := ?_) (a' := ?_) #[true, true, true, true, true, true, true, true, true, true, false, false, false, false] rfl rfl (take_ofW HT_.out HW_.out (by kernel_rfl)) (fun _ _ _ h => h) (Or.inl ⟨by rfl, ?_⟩) hHeld ?_ ?_
                    rotate_left
                    · intro w' hw'
                      have hq0 := M0.out w' hw'
                      have hq1 := M1.out w' hw'
                      have hq2 := M2.out w' hw'
                      have hq3 := M3.out w' hw'
                      have hq4 := M4.out w' hw'
                      have hq5 := M5.out w' hw'
                      go_simp
                      with_reducible rfl
                    rotate_left
                    · simp only [Act.put, List.setIfInBounds_toArray, List.set_cons_zero, List.set_cons_succ, i64_w, i32_w]
                      rfl
                    refine join_ (σ := Nat × Nat) 2 #[true, true, true, true, true, true, true, true, true, true, true, true, false, false] (fun s => [(6, .pointer (some ⟨s.1, 0, none⟩)), (7, .pointer (some ⟨s.2, 0, none⟩))]) (fun s w' => Aside0 (w'.heap[s.1]? = some (.cells #[.int .u32 0, .int .u32 0, .slice none 0 0, .int .u32 0, .int .u32 0, .slice none 0 0] 38) ∧ w'.heap[s.2]? = some (.cells #[.int .u32 0, .int .u32 0, .slice none 0 0, .int .u32 0, .int .u32 0, .slice none 0 0] 38) ∧ s.1 ≠ s.2 ∧ ((w.alloc (.cells (litC dg (.slice (some ad) c.secs.length a) (.slice B c.justs.length b)) 26)).alloc (.cells (litC dg' (.slice (some ad') c'.secs.length a') (.slice B' c'.justs.length b')) 26)).heap.size ≤ s.1 ∧ ((w.alloc (.cells (litC dg (.slice (some ad) c.secs.length a) (.slice B c.justs.length b)) 26)).alloc (.cells (litC dg' (.slice (some ad') c'.secs.length a') (.slice B' c'.justs.length b')) 26)).heap.size ≤ s.2) ∧ Aside0 (Below ((w.alloc (.cells (litC dg (.slice (some ad) c.secs.length a) (.slice B c.justs.length b)) 26)).alloc (.cells (litC dg' (.slice (some ad') c'.secs.length a') (.slice B' c'.justs.length b')) 26)).heap.size ((w.alloc (.cells (litC dg (.slice (some ad) c.secs.length a) (.slice B c.justs.length b)) 26)).alloc (.cells (litC dg' (.slice (some ad') c'.secs.length a') (.slice B' c'.justs.length b')) 26)) w')) (fun s0_ wj HF => ?_) (fun hcont => ?_)
                    rotate_left
                    · refine two_ (i := 10) (j := 11) (Ni := some 6) (Nj := some 7) #[true, true, true, true, true, true, true, true, true, true, true, false, false, false] #[true, true, true, true, true, true, true, true, true, true, false, true, false, false] rfl rfl rfl rfl (two_of HT_.out (by kernel_rfl)) (by decide) (by decide) (fun K hK => ?_) (fun K hK => ?_)
                      · refine value_ (w1 := ?_) (v := ?_) (by rfl) rfl ?_ ?_
                        rotate_left 2
                        · go_simp
                          constructor
                          · rfl
                          · rfl
                        have n_ := below_alloc HBd.out (.cells #[.int .u32 0, .int .u32 0, .slice none 0 0, .int .u32 0, .int .u32 0, .slice none 0 0] 38)
                        refine hK.out _ _ n_ (fun hHeld => ?_)
                        clear hK K
                        refine norm_ (a' := ?_) ?_ ?_
                        rotate_left
                        · show Act.put _ (some 6) _ = _
                          simp only [Act.put, List.setIfInBounds_toArray, List.set_cons_zero, List.set_cons_succ, i64_w, i32_w]
                          rfl
                        refine one_ (i := 11) (N := some 7) #[true, true, true, true, true, true, true, true, true, true, true, true, false, false] rfl rfl (one_of HT_.out (by kernel_rfl)) (by decide) (fun K hK => ?_)
                        refine value_ (w1 := ?_) (v := ?_) (by rfl) rfl ?_ ?_
                        rotate_left 2
                        · go_simp
                          constructor
                          · rfl
                          · rfl
                        have n2_ := below_alloc n_ (.cells #[.int .u32 0, .int .u32 0, .slice none 0 0, .int .u32 0, .int .u32 0, .slice none 0 0] 38)
                        refine hK.out _ _ n2_ (fun hHeld => ?_)
                        clear hK K
                        refine norm_ (a' := ?_) ?_ ?_
                        rotate_left
                        · show Act.put _ (some 7) _ = _
                          simp only [Act.put, List.setIfInBounds_toArray, List.set_cons_zero, List.set_cons_succ, i64_w, i32_w]
                          rfl
                        exact hcont (_, _) _ ⟨⟨two_allocs HBd.out⟩, ⟨n2_⟩⟩
                      · refine value_ (w1 := ?_) (v := ?_) (by rfl) rfl ?_ ?_
                        rotate_left 2
                        · go_simp
                          constructor
                          · rfl
                          · rfl
                        have n_ := below_alloc HBd.out (.cells #[.int .u32 0, .int .u32 0, .slice none 0 0, .int .u32 0, .int .u32 0, .slice none 0 0] 38)
                        refine hK.out _ _ n_ (fun hHeld => ?_)
                        clear hK K
                        refine norm_ (a' := ?_) ?_ ?_
                        rotate_left
                        · show Act.put _ (some 7) _ = _
                          simp only [Act.put, List.setIfInBounds_toArray, List.set_cons_zero, List.set_cons_succ, i64_w, i32_w]
                          rfl
                        refine one_ (i := 10) (N := some 6) #[true, true, true, true, true, true, true, true, true, true, true, true, false, false] rfl rfl (one_of HT_.out (by kernel_rfl)) (by decide) (fun K hK => ?_)
                        refine value_ (w1 := ?_) (v := ?_) (by rfl) rfl ?_ ?_
                        rotate_left 2
                        · go_simp
                          constructor
                          · rfl
                          · rfl
                        have n2_ := below_alloc n_ (.cells #[.int .u32 0, .int .u32 0, .slice none 0 0, .int .u32 0, .int .u32 0, .slice none 0 0] 38)
                        refine hK.out _ _ n2_ (fun hHeld => ?_)
                        clear hK K
                        refine norm_ (a' := ?_) ?_ ?_
                        rotate_left
                        · show Act.put _ (some 6) _ = _
                          simp only [Act.put, List.setIfInBounds_toArray, List.set_cons_zero, List.set_cons_succ, i64_w, i32_w]
                          rfl
                        exact hcont (_, _) _ ⟨⟨two_allocs' HBd.out⟩, ⟨n2_⟩⟩
                    obtain ⟨g6, g7⟩ := s0_
                    obtain ⟨HN, HB6⟩ := HF
                    refine norm_ (a' := ?_) ?_ ?_
                    rotate_left
                    · simp only [putAll, Act.put, List.setIfInBounds_toArray, List.set_cons_zero, List.set_cons_succ, i64_w, i32_w]
                      rfl
                    refine one_ (i := 12) (N := none) #[true, true, true, true, true, true, true, true, true, true, true, true, true, false] rfl rfl (one_of HT_.out (by kernel_rfl)) (by decide) (fun K hK => ?_)
                    rw [if_pos (by rfl)]
                    refine wp_store_row 38 (.tmp 6) (.tmp 43) rfl g6 #[.int .u32 s.entry, .int .u32 s.exit, .slice A1 s.held.length c1, .int .u32 s.le, .int .u32 s.lx, .slice B1 s.live.length c1'] rfl rfl 38 #[.int .u32 0, .int .u32 0, .slice none 0 0, .int .u32 0, .int .u32 0, .slice none 0 0] HN.out.1 size38 rfl (sec_one _ _ _ _ _ _ _ _ _ _) ?_
                    have HB12 := Aside0.mk (below_setRow HB6.out HN.out.2.2.2.1 #[.int .u32 s.entry, .int .u32 s.exit, .slice A1 s.held.length c1, .int .u32 s.le, .int .u32 s.lx, .slice B1 s.live.length c1'])
                    have G6 := Aside0.mk (setRow_heap wj g6 _ #[.int .u32 s.entry, .int .u32 s.exit, .slice A1 s.held.length c1, .int .u32 s.le, .int .u32 s.lx, .slice B1 s.live.length c1'] 38 (0, 0) HN.out.1)
                    have G7 := Aside0.mk ((setRow_other wj g6 g7 #[.int .u32 s.entry, .int .u32 s.exit, .slice A1 s.held.length c1, .int .u32 s.le, .int .u32 s.lx, .slice B1 s.live.length c1'] (Ne.symm HN.out.2.2.1)).trans HN.out.2.1)
                    refine hK.out _ _ HB12.out (fun hHeld => ?_)
                    clear hK K
                    refine norm_ (a' := ?_) ?_ ?_
                    rotate_left
                    · show Act.put _ (none) _ = _
                      simp only [Act.put, List.setIfInBounds_toArray, List.set_cons_zero, List.set_cons_succ, i64_w, i32_w]
                      rfl
                    refine one_ (i := 13) (N := none) #[true, true, true, true, true, true, true, true, true, true, true, true, true, true] rfl rfl (one_of HT_.out (by kernel_rfl)) (by decide) (fun K hK => ?_)
                    rw [if_pos (by rfl)]
                    refine wp_store_row 38 (.tmp 7) (.tmp 48) rfl g7 #[.int .u32 t.entry, .int .u32 t.exit, .slice A2 t.held.length c2, .int .u32 t.le, .int .u32 t.lx, .slice B2 t.live.length c2'] rfl rfl 38 #[.int .u32 0, .int .u32 0, .slice none 0 0, .int .u32 0, .int .u32 0, .slice none 0 0] G7.out size38 rfl (sec_one _ _ _ _ _ _ _ _ _ _) ?_
                    have HB13 := Aside0.mk (below_setRow HB12.out HN.out.2.2.2.2 #[.int .u32 t.entry, .int .u32 t.exit, .slice A2 t.held.length c2, .int .u32 t.le, .int .u32 t.lx, .slice B2 t.live.length c2'])
                    have J7 := Aside0.mk (setRow_heap _ g7 _ #[.int .u32 t.entry, .int .u32 t.exit, .slice A2 t.held.length c2, .int .u32 t.le, .int .u32 t.lx, .slice B2 t.live.length c2'] 38 (0, 0) G7.out)
                    have J6 := Aside0.mk ((setRow_other (wj.setRow g6 #[.int .u32 s.entry, .int .u32 s.exit, .slice A1 s.held.length c1, .int .u32 s.le, .int .u32 s.lx, .slice B1 s.live.length c1']) g7 g6 #[.int .u32 t.entry, .int .u32 t.exit, .slice A2 t.held.length c2, .int .u32 t.le, .int .u32 t.lx, .slice B2 t.live.length c2'] HN.out.2.2.1).trans G6.out)
                    refine hK.out _ _ HB13.out (fun hHeld => ?_)
                    clear hK K
                    refine norm_ (a' := ?_) ?_ ?_
                    rotate_left
                    · show Act.put _ (none) _ = _
                      simp only [Act.put, List.setIfInBounds_toArray, List.set_cons_zero, List.set_cons_succ, i64_w, i32_w]
                      rfl
                    refine done_ (done_of HT_.out (by kernel_rfl)) ?_
                    have hsx := six_cells J6.out
                    have htx := six_cells J7.out
                    obtain ⟨x0, x1, x2, x3, x4, x5⟩ := hsx
                    obtain ⟨y0, y1, y2, y3, y4, y5⟩ := htx
                    try clear hHeld
                    go_wp2_with (first | (go_at_call 21; (with_reducible refine (masks_any A1 A2 c1 c2 s.held t.held true _ (Kd.C_below T2.out.1 (below_step HW2.out (by repeat (first | exact HB13.out | apply pw_below_drewN | apply below_drew1)))) T2.out.2.1 (Kd.C_below T2.out.2.2.1 (below_step HW2.out (by repeat (first | exact HB13.out | apply pw_below_drewN | apply below_drew1)))) T2.out.2.2.2.1 T2.out.2.2.2.2 E4.out).mono ?_); rintro e w' ⟨rfl, ⟨nd, rfl⟩⟩) | (go_at_call 21; (with_reducible refine (masks_any B1 B2 c1' c2' s.live t.live false _ (Kd.C_below T5.out.1 (below_step HW2.out (by repeat (first | exact HB13.out | apply pw_below_drewN | apply below_drew1)))) T5.out.2.1 (Kd.C_below T5.out.2.2.1 (below_step HW2.out (by repeat (first | exact HB13.out | apply pw_below_drewN | apply below_drew1)))) T5.out.2.2.2.1 T5.out.2.2.2.2 E5.out).mono ?_); rintro e w' ⟨rfl, ⟨nd, rfl⟩⟩))
                    go_ret
                    exact ⟨by rw [HXX.out]; first | rfl | (simp; done), by repeat (first | exact below_step HW2.out HB13.out | apply pw_below_drewN | apply below_drew1)⟩
                · have hne : s ≠ t := fun h => hc4 (by rw [h])
                  have hx2 : eqB c.secs c'.secs = false := by rw [← hx]; exact eqB_false (fun h => hne (List.cons.inj h).1)
                  have HXX := Aside0.mk hx2
                  have f0 : (s.entry != t.entry) = false := by rw [hc0]; simp
                  have f1 : (s.exit != t.exit) = false := by rw [hc1]; simp
                  have f2 : (s.le != t.le) = false := by rw [hc2]; simp
                  have f3 : (s.lx != t.lx) = false := by rw [hc3]; simp
                  have E4 := Aside0.mk (eqB_false hc4)
                  clear hx2 hne hc0 hc1 hc2 hc3 hc4
                  clear hx hw q0 q1 q2 q3 q4 q5 p0 p1 p2 p3 p4 p5 r1 r2 r3 r4 t1 t2 t3 t4 i0 i1 ik hi hi' hs ht h100
                  go_wp2
                  refine start_any (n := 14) (S := fun w' => Below ((w.alloc (.cells (litC dg (.slice (some ad) c.secs.length a) (.slice B c.justs.length b)) 26)).alloc (.cells (litC dg' (.slice (some ad') c'.secs.length a') (.slice B' c'.justs.length b')) 26)).heap.size ((w.alloc (.cells (litC dg (.slice (some ad) c.secs.length a) (.slice B c.justs.length b)) 26)).alloc (.cells (litC dg' (.slice (some ad') c'.secs.length a') (.slice B' c'.justs.length b')) 26)) w') (ds := []) #[false, false, false, false, false, false, false, false, false, false, false, false, false, false] (by kernel_rfl) rfl rfl (below_drew1 HB.out) (fun wd hHeld => ?_); refine with_tabW rs.tab6 rs.bits6 (fun HT_ HW_ => ?_)
                  have HBd := Aside0.mk hHeld
                  refine pure_ (i := 0) (N := some 39) (v := ?_) (a' := ?_) #[true, false, false, false, false, false, false, false, false, false, false, false, false, false] rfl rfl (any_of HT_.out (by kernel_rfl)) (fun _ _ _ h => h) (Or.inl ⟨by rfl, ?_⟩) ?_ ?_
                  rotate_left
                  · intro w'
                    go_simp
                    with_reducible rfl
                  rotate_left
                  · simp only [Act.put, List.setIfInBounds_toArray, List.set_cons_zero, List.set_cons_succ, i64_w, i32_w]
                    rfl
                  refine take_ (i := 1) (N := some 40) (v := ?_) (a' := ?_) #[true, true, false, false, false, false, false, false, false, false, false, false, false, false] rfl rfl (take_ofW HT_.out HW_.out (by kernel_rfl)) (fun _ _ _ h => h) (Or.inl ⟨by rfl, ?_⟩) hHeld ?_ ?_
                  rotate_left
                  · intro w' hw'
                    have hq := Q32.out w' hw'
                    go_simp
                    with_reducible rfl
                  rotate_left
                  · simp only [Act.put, List.setIfInBounds_toArray, List.set_cons_zero, List.set_cons_succ, i64_w, i32_w]
                    rfl
                  refine pure_ (i := 2) (N := some 41) (v := ?_) (a' := ?_) #[true, true, true, false, false, false, false, false, false, false, false, false, false, false] rfl rfl (any_of HT_.out (by kernel_rfl)) (fun _ _ _ h => h) (Or.inl ⟨by rfl, ?_⟩) ?_ ?_
                  rotate_left
                  · intro w'
                    go_simp
                    with_reducible rfl
                  rotate_left
                  · simp only [Act.put, List.setIfInBounds_toArray, List.set_cons_zero, List.set_cons_succ, i64_w, i32_w]
                    rfl
                  refine pure_ (i := 3) (N := some 42) (v := ?_) (a' := ?_) #[true, true, true, true, false, false, false, false, false, false, false, false, false, false] rfl rfl (any_of HT_.out (by kernel_rfl)) (fun _ _ _ h => h) (Or.inl ⟨by rfl, ?_⟩) ?_ ?_
                  rotate_left
                  · intro w'
                    go_simp
                    with_reducible rfl
                  rotate_left
                  · simp only [Act.put, List.setIfInBounds_toArray, List.set_cons_zero, List.set_cons_succ, i64_w, i32_w]
                    rfl
                  refine take_ (i := 4) (N := some 43) (v := ?_) (a' := ?_) #[true, true, true, true, true, false, false, false, false, false, false, false, false, false] rfl rfl (take_ofW HT_.out HW_.out (by kernel_rfl)) (fun _ _ _ h => h) (Or.inl ⟨by rfl, ?_⟩) hHeld ?_ ?_
                  rotate_left
                  · intro w' hw'
                    have hq0 := K0.out w' hw'
                    have hq1 := K1.out w' hw'
                    have hq2 := K2.out w' hw'
                    have hq3 := K3.out w' hw'
                    have hq4 := K4.out w' hw'
                    have hq5 := K5.out w' hw'
                    go_simp
                    with_reducible rfl
                  rotate_left
                  · simp only [Act.put, List.setIfInBounds_toArray, List.set_cons_zero, List.set_cons_succ, i64_w, i32_w]
                    rfl
                  refine pure_ (i := 5) (N := some 44) (v := ?_) (a' := ?_) #[true, true, true, true, true, true, false, false, false, false, false, false, false, false] rfl rfl (any_of HT_.out (by kernel_rfl)) (fun _ _ _ h => h) (Or.inl ⟨by rfl, ?_⟩) ?_ ?_
                  rotate_left
                  · intro w'
                    go_simp
                    with_reducible rfl
                  rotate_left
                  · simp only [Act.put, List.setIfInBounds_toArray, List.set_cons_zero, List.set_cons_succ, i64_w, i32_w]
                    rfl
                  refine take_ (i := 6) (N := some 45) (v := ?_) (a' := ?_) #[true, true, true, true, true, true, true, false, false, false, false, false, false, false] rfl rfl (take_ofW HT_.out HW_.out (by kernel_rfl)) (fun _ _ _ h => h) (Or.inl ⟨by rfl, ?_⟩) hHeld ?_ ?_
                  rotate_left
                  · intro w' hw'
                    have hq := P32.out w' hw'
                    go_simp
                    with_reducible rfl
                  rotate_left
                  · simp only [Act.put, List.setIfInBounds_toArray, List.set_cons_zero, List.set_cons_succ, i64_w, i32_w]
                    rfl
                  refine pure_ (i := 7) (N := some 46) (v := ?_) (a' := ?_) #[true, true, true, true, true, true, true, true, false, false, false, false, false, false] rfl rfl (any_of HT_.out (by kernel_rfl)) (fun _ _ _ h => h) (Or.inl ⟨by rfl, ?_⟩) ?_ ?_
                  rotate_left
                  · intro w'
                    go_simp
                    with_reducible rfl
                  rotate_left
                  · simp only [Act.put, List.setIfInBounds_toArray, List.set_cons_zero, List.set_cons_succ, i64_w, i32_w]
                    rfl
                  refine pure_ (i := 8) (N := some 47) (v := ?_) (a' := ?_) #[true, true, true, true, true, true, true, true, true, false, false, false, false, false] rfl rfl (any_of HT_.out (by kernel_rfl)) (fun _ _ _ h => h) (Or.inl ⟨by rfl, ?_⟩) ?_ ?_
                  rotate_left
                  · intro w'
                    go_simp
                    with_reducible rfl
                  rotate_left
                  · simp only [Act.put, List.setIfInBounds_toArray, List.set_cons_zero, List.set_cons_succ, i64_w, i32_w]
                    rfl
                  refine take_ (i := 9) (N := some 48) (v := ?_) (a' := ?_) #[true, true, true, true, true, true, true, true, true, true, false, false, false, false] rfl rfl (take_ofW HT_.out HW_.out (by kernel_rfl)) (fun _ _ _ h => h) (Or.inl ⟨by rfl, ?_⟩) hHeld ?_ ?_
                  rotate_left
                  · intro w' hw'
                    have hq0 := M0.out w' hw'
                    have hq1 := M1.out w' hw'
                    have hq2 := M2.out w' hw'
                    have hq3 := M3.out w' hw'
                    have hq4 := M4.out w' hw'
                    have hq5 := M5.out w' hw'
                    go_simp
                    with_reducible rfl
                  rotate_left
                  · simp only [Act.put, List.setIfInBounds_toArray, List.set_cons_zero, List.set_cons_succ, i64_w, i32_w]
                    rfl
                  refine join_ (σ := Nat × Nat) 2 #[true, true, true, true, true, true, true, true, true, true, true, true, false, false] (fun s => [(6, .pointer (some ⟨s.1, 0, none⟩)), (7, .pointer (some ⟨s.2, 0, none⟩))]) (fun s w' => Aside0 (w'.heap[s.1]? = some (.cells #[.int .u32 0, .int .u32 0, .slice none 0 0, .int .u32 0, .int .u32 0, .slice none 0 0] 38) ∧ w'.heap[s.2]? = some (.cells #[.int .u32 0, .int .u32 0, .slice none 0 0, .int .u32 0, .int .u32 0, .slice none 0 0] 38) ∧ s.1 ≠ s.2 ∧ ((w.alloc (.cells (litC dg (.slice (some ad) c.secs.length a) (.slice B c.justs.length b)) 26)).alloc (.cells (litC dg' (.slice (some ad') c'.secs.length a') (.slice B' c'.justs.length b')) 26)).heap.size ≤ s.1 ∧ ((w.alloc (.cells (litC dg (.slice (some ad) c.secs.length a) (.slice B c.justs.length b)) 26)).alloc (.cells (litC dg' (.slice (some ad') c'.secs.length a') (.slice B' c'.justs.length b')) 26)).heap.size ≤ s.2) ∧ Aside0 (Below ((w.alloc (.cells (litC dg (.slice (some ad) c.secs.length a) (.slice B c.justs.length b)) 26)).alloc (.cells (litC dg' (.slice (some ad') c'.secs.length a') (.slice B' c'.justs.length b')) 26)).heap.size ((w.alloc (.cells (litC dg (.slice (some ad) c.secs.length a) (.slice B c.justs.length b)) 26)).alloc (.cells (litC dg' (.slice (some ad') c'.secs.length a') (.slice B' c'.justs.length b')) 26)) w')) (fun s0_ wj HF => ?_) (fun hcont => ?_)
                  rotate_left
                  · refine two_ (i := 10) (j := 11) (Ni := some 6) (Nj := some 7) #[true, true, true, true, true, true, true, true, true, true, true, false, false, false] #[true, true, true, true, true, true, true, true, true, true, false, true, false, false] rfl rfl rfl rfl (two_of HT_.out (by kernel_rfl)) (by decide) (by decide) (fun K hK => ?_) (fun K hK => ?_)
                    · refine value_ (w1 := ?_) (v := ?_) (by rfl) rfl ?_ ?_
                      rotate_left 2
                      · go_simp
                        constructor
                        · rfl
                        · rfl
                      have n_ := below_alloc HBd.out (.cells #[.int .u32 0, .int .u32 0, .slice none 0 0, .int .u32 0, .int .u32 0, .slice none 0 0] 38)
                      refine hK.out _ _ n_ (fun hHeld => ?_)
                      clear hK K
                      refine norm_ (a' := ?_) ?_ ?_
                      rotate_left
                      · show Act.put _ (some 6) _ = _
                        simp only [Act.put, List.setIfInBounds_toArray, List.set_cons_zero, List.set_cons_succ, i64_w, i32_w]
                        rfl
                      refine one_ (i := 11) (N := some 7) #[true, true, true, true, true, true, true, true, true, true, true, true, false, false] rfl rfl (one_of HT_.out (by kernel_rfl)) (by decide) (fun K hK => ?_)
                      refine value_ (w1 := ?_) (v := ?_) (by rfl) rfl ?_ ?_
                      rotate_left 2
                      · go_simp
                        constructor
                        · rfl
                        · rfl
                      have n2_ := below_alloc n_ (.cells #[.int .u32 0, .int .u32 0, .slice none 0 0, .int .u32 0, .int .u32 0, .slice none 0 0] 38)
                      refine hK.out _ _ n2_ (fun hHeld => ?_)
                      clear hK K
                      refine norm_ (a' := ?_) ?_ ?_
                      rotate_left
                      · show Act.put _ (some 7) _ = _
                        simp only [Act.put, List.setIfInBounds_toArray, List.set_cons_zero, List.set_cons_succ, i64_w, i32_w]
                        rfl
                      exact hcont (_, _) _ ⟨⟨two_allocs HBd.out⟩, ⟨n2_⟩⟩
                    · refine value_ (w1 := ?_) (v := ?_) (by rfl) rfl ?_ ?_
                      rotate_left 2
                      · go_simp
                        constructor
                        · rfl
                        · rfl
                      have n_ := below_alloc HBd.out (.cells #[.int .u32 0, .int .u32 0, .slice none 0 0, .int .u32 0, .int .u32 0, .slice none 0 0] 38)
                      refine hK.out _ _ n_ (fun hHeld => ?_)
                      clear hK K
                      refine norm_ (a' := ?_) ?_ ?_
                      rotate_left
                      · show Act.put _ (some 7) _ = _
                        simp only [Act.put, List.setIfInBounds_toArray, List.set_cons_zero, List.set_cons_succ, i64_w, i32_w]
                        rfl
                      refine one_ (i := 10) (N := some 6) #[true, true, true, true, true, true, true, true, true, true, true, true, false, false] rfl rfl (one_of HT_.out (by kernel_rfl)) (by decide) (fun K hK => ?_)
                      refine value_ (w1 := ?_) (v := ?_) (by rfl) rfl ?_ ?_
                      rotate_left 2
                      · go_simp
                        constructor
                        · rfl
                        · rfl
                      have n2_ := below_alloc n_ (.cells #[.int .u32 0, .int .u32 0, .slice none 0 0, .int .u32 0, .int .u32 0, .slice none 0 0] 38)
                      refine hK.out _ _ n2_ (fun hHeld => ?_)
                      clear hK K
                      refine norm_ (a' := ?_) ?_ ?_
                      rotate_left
                      · show Act.put _ (some 6) _ = _
                        simp only [Act.put, List.setIfInBounds_toArray, List.set_cons_zero, List.set_cons_succ, i64_w, i32_w]
                        rfl
                      exact hcont (_, _) _ ⟨⟨two_allocs' HBd.out⟩, ⟨n2_⟩⟩
                  obtain ⟨g6, g7⟩ := s0_
                  obtain ⟨HN, HB6⟩ := HF
                  refine norm_ (a' := ?_) ?_ ?_
                  rotate_left
                  · simp only [putAll, Act.put, List.setIfInBounds_toArray, List.set_cons_zero, List.set_cons_succ, i64_w, i32_w]
                    rfl
                  refine one_ (i := 12) (N := none) #[true, true, true, true, true, true, true, true, true, true, true, true, true, false] rfl rfl (one_of HT_.out (by kernel_rfl)) (by decide) (fun K hK => ?_)
                  rw [if_pos (by rfl)]
                  refine wp_store_row 38 (.tmp 6) (.tmp 43) rfl g6 #[.int .u32 s.entry, .int .u32 s.exit, .slice A1 s.held.length c1, .int .u32 s.le, .int .u32 s.lx, .slice B1 s.live.length c1'] rfl rfl 38 #[.int .u32 0, .int .u32 0, .slice none 0 0, .int .u32 0, .int .u32 0, .slice none 0 0] HN.out.1 size38 rfl (sec_one _ _ _ _ _ _ _ _ _ _) ?_
                  have HB12 := Aside0.mk (below_setRow HB6.out HN.out.2.2.2.1 #[.int .u32 s.entry, .int .u32 s.exit, .slice A1 s.held.length c1, .int .u32 s.le, .int .u32 s.lx, .slice B1 s.live.length c1'])
                  have G6 := Aside0.mk (setRow_heap wj g6 _ #[.int .u32 s.entry, .int .u32 s.exit, .slice A1 s.held.length c1, .int .u32 s.le, .int .u32 s.lx, .slice B1 s.live.length c1'] 38 (0, 0) HN.out.1)
                  have G7 := Aside0.mk ((setRow_other wj g6 g7 #[.int .u32 s.entry, .int .u32 s.exit, .slice A1 s.held.length c1, .int .u32 s.le, .int .u32 s.lx, .slice B1 s.live.length c1'] (Ne.symm HN.out.2.2.1)).trans HN.out.2.1)
                  refine hK.out _ _ HB12.out (fun hHeld => ?_)
                  clear hK K
                  refine norm_ (a' := ?_) ?_ ?_
                  rotate_left
                  · show Act.put _ (none) _ = _
                    simp only [Act.put, List.setIfInBounds_toArray, List.set_cons_zero, List.set_cons_succ, i64_w, i32_w]
                    rfl
                  refine one_ (i := 13) (N := none) #[true, true, true, true, true, true, true, true, true, true, true, true, true, true] rfl rfl (one_of HT_.out (by kernel_rfl)) (by decide) (fun K hK => ?_)
                  rw [if_pos (by rfl)]
                  refine wp_store_row 38 (.tmp 7) (.tmp 48) rfl g7 #[.int .u32 t.entry, .int .u32 t.exit, .slice A2 t.held.length c2, .int .u32 t.le, .int .u32 t.lx, .slice B2 t.live.length c2'] rfl rfl 38 #[.int .u32 0, .int .u32 0, .slice none 0 0, .int .u32 0, .int .u32 0, .slice none 0 0] G7.out size38 rfl (sec_one _ _ _ _ _ _ _ _ _ _) ?_
                  have HB13 := Aside0.mk (below_setRow HB12.out HN.out.2.2.2.2 #[.int .u32 t.entry, .int .u32 t.exit, .slice A2 t.held.length c2, .int .u32 t.le, .int .u32 t.lx, .slice B2 t.live.length c2'])
                  have J7 := Aside0.mk (setRow_heap _ g7 _ #[.int .u32 t.entry, .int .u32 t.exit, .slice A2 t.held.length c2, .int .u32 t.le, .int .u32 t.lx, .slice B2 t.live.length c2'] 38 (0, 0) G7.out)
                  have J6 := Aside0.mk ((setRow_other (wj.setRow g6 #[.int .u32 s.entry, .int .u32 s.exit, .slice A1 s.held.length c1, .int .u32 s.le, .int .u32 s.lx, .slice B1 s.live.length c1']) g7 g6 #[.int .u32 t.entry, .int .u32 t.exit, .slice A2 t.held.length c2, .int .u32 t.le, .int .u32 t.lx, .slice B2 t.live.length c2'] HN.out.2.2.1).trans G6.out)
                  refine hK.out _ _ HB13.out (fun hHeld => ?_)
                  clear hK K
                  refine norm_ (a' := ?_) ?_ ?_
                  rotate_left
                  · show Act.put _ (none) _ = _
                    simp only [Act.put, List.setIfInBounds_toArray, List.set_cons_zero, List.set_cons_succ, i64_w, i32_w]
                    rfl
                  refine done_ (done_of HT_.out (by kernel_rfl)) ?_
                  have hsx := six_cells J6.out
                  have htx := six_cells J7.out
                  obtain ⟨x0, x1, x2, x3, x4, x5⟩ := hsx
                  obtain ⟨y0, y1, y2, y3, y4, y5⟩ := htx
                  try clear hHeld
                  go_wp2_with (first | (go_at_call 21; (with_reducible refine (masks_any A1 A2 c1 c2 s.held t.held false _ (Kd.C_below T2.out.1 (below_step HW2.out (by repeat (first | exact HB13.out | apply pw_below_drewN | apply below_drew1)))) T2.out.2.1 (Kd.C_below T2.out.2.2.1 (below_step HW2.out (by repeat (first | exact HB13.out | apply pw_below_drewN | apply below_drew1)))) T2.out.2.2.2.1 T2.out.2.2.2.2 E4.out).mono ?_); rintro e w' ⟨rfl, ⟨nd, rfl⟩⟩))
                  go_ret
                  exact ⟨by rw [HXX.out]; first | rfl | (simp; done), by repeat (first | exact below_step HW2.out HB13.out | apply pw_below_drewN | apply below_drew1)⟩
              · have hne : s ≠ t := fun h => hc3 (by rw [h])
                have hx2 : eqB c.secs c'.secs = false := by rw [← hx]; exact eqB_false (fun h => hne (List.cons.inj h).1)
                have HXX := Aside0.mk hx2
                have f0 : (s.entry != t.entry) = false := by rw [hc0]; simp
                have f1 : (s.exit != t.exit) = false := by rw [hc1]; simp
                have f2 : (s.le != t.le) = false := by rw [hc2]; simp
                have f3 : (s.lx != t.lx) = true := bne_iff_ne.mpr hc3
                clear hx2 hne hc0 hc1 hc2 hc3
                clear hx hw q0 q1 q2 q3 q4 q5 p0 p1 p2 p3 p4 p5 r1 r2 r3 r4 t1 t2 t3 t4 i0 i1 ik hi hi' hs ht h100
                go_wp2
                refine start_any (n := 14) (S := fun w' => Below ((w.alloc (.cells (litC dg (.slice (some ad) c.secs.length a) (.slice B c.justs.length b)) 26)).alloc (.cells (litC dg' (.slice (some ad') c'.secs.length a') (.slice B' c'.justs.length b')) 26)).heap.size ((w.alloc (.cells (litC dg (.slice (some ad) c.secs.length a) (.slice B c.justs.length b)) 26)).alloc (.cells (litC dg' (.slice (some ad') c'.secs.length a') (.slice B' c'.justs.length b')) 26)) w') (ds := []) #[false, false, false, false, false, false, false, false, false, false, false, false, false, false] (by kernel_rfl) rfl rfl (below_drew1 HB.out) (fun wd hHeld => ?_); refine with_tabW rs.tab6 rs.bits6 (fun HT_ HW_ => ?_)
                have HBd := Aside0.mk hHeld
                refine pure_ (i := 0) (N := some 39) (v := ?_) (a' := ?_) #[true, false, false, false, false, false, false, false, false, false, false, false, false, false] rfl rfl (any_of HT_.out (by kernel_rfl)) (fun _ _ _ h => h) (Or.inl ⟨by rfl, ?_⟩) ?_ ?_
                rotate_left
                · intro w'
                  go_simp
                  with_reducible rfl
                rotate_left
                · simp only [Act.put, List.setIfInBounds_toArray, List.set_cons_zero, List.set_cons_succ, i64_w, i32_w]
                  rfl
                refine take_ (i := 1) (N := some 40) (v := ?_) (a' := ?_) #[true, true, false, false, false, false, false, false, false, false, false, false, false, false] rfl rfl (take_ofW HT_.out HW_.out (by kernel_rfl)) (fun _ _ _ h => h) (Or.inl ⟨by rfl, ?_⟩) hHeld ?_ ?_
                rotate_left
                · intro w' hw'
                  have hq := Q32.out w' hw'
                  go_simp
                  with_reducible rfl
                rotate_left
                · simp only [Act.put, List.setIfInBounds_toArray, List.set_cons_zero, List.set_cons_succ, i64_w, i32_w]
                  rfl
                refine pure_ (i := 2) (N := some 41) (v := ?_) (a' := ?_) #[true, true, true, false, false, false, false, false, false, false, false, false, false, false] rfl rfl (any_of HT_.out (by kernel_rfl)) (fun _ _ _ h => h) (Or.inl ⟨by rfl, ?_⟩) ?_ ?_
                rotate_left
                · intro w'
                  go_simp
                  with_reducible rfl
                rotate_left
                · simp only [Act.put, List.setIfInBounds_toArray, List.set_cons_zero, List.set_cons_succ, i64_w, i32_w]
                  rfl
                refine pure_ (i := 3) (N := some 42) (v := ?_) (a' := ?_) #[true, true, true, true, false, false, false, false, false, false, false, false, false, false] rfl rfl (any_of HT_.out (by kernel_rfl)) (fun _ _ _ h => h) (Or.inl ⟨by rfl, ?_⟩) ?_ ?_
                rotate_left
                · intro w'
                  go_simp
                  with_reducible rfl
                rotate_left
                · simp only [Act.put, List.setIfInBounds_toArray, List.set_cons_zero, List.set_cons_succ, i64_w, i32_w]
                  rfl
                refine take_ (i := 4) (N := some 43) (v := ?_) (a' := ?_) #[true, true, true, true, true, false, false, false, false, false, false, false, false, false] rfl rfl (take_ofW HT_.out HW_.out (by kernel_rfl)) (fun _ _ _ h => h) (Or.inl ⟨by rfl, ?_⟩) hHeld ?_ ?_
                rotate_left
                · intro w' hw'
                  have hq0 := K0.out w' hw'
                  have hq1 := K1.out w' hw'
                  have hq2 := K2.out w' hw'
                  have hq3 := K3.out w' hw'
                  have hq4 := K4.out w' hw'
                  have hq5 := K5.out w' hw'
                  go_simp
                  with_reducible rfl
                rotate_left
                · simp only [Act.put, List.setIfInBounds_toArray, List.set_cons_zero, List.set_cons_succ, i64_w, i32_w]
                  rfl
                refine pure_ (i := 5) (N := some 44) (v := ?_) (a' := ?_) #[true, true, true, true, true, true, false, false, false, false, false, false, false, false] rfl rfl (any_of HT_.out (by kernel_rfl)) (fun _ _ _ h => h) (Or.inl ⟨by rfl, ?_⟩) ?_ ?_
                rotate_left
                · intro w'
                  go_simp
                  with_reducible rfl
                rotate_left
                · simp only [Act.put, List.setIfInBounds_toArray, List.set_cons_zero, List.set_cons_succ, i64_w, i32_w]
                  rfl
                refine take_ (i := 6) (N := some 45) (v := ?_) (a' := ?_) #[true, true, true, true, true, true, true, false, false, false, false, false, false, false] rfl rfl (take_ofW HT_.out HW_.out (by kernel_rfl)) (fun _ _ _ h => h) (Or.inl ⟨by rfl, ?_⟩) hHeld ?_ ?_
                rotate_left
                · intro w' hw'
                  have hq := P32.out w' hw'
                  go_simp
                  with_reducible rfl
                rotate_left
                · simp only [Act.put, List.setIfInBounds_toArray, List.set_cons_zero, List.set_cons_succ, i64_w, i32_w]
                  rfl
                refine pure_ (i := 7) (N := some 46) (v := ?_) (a' := ?_) #[true, true, true, true, true, true, true, true, false, false, false, false, false, false] rfl rfl (any_of HT_.out (by kernel_rfl)) (fun _ _ _ h => h) (Or.inl ⟨by rfl, ?_⟩) ?_ ?_
                rotate_left
                · intro w'
                  go_simp
                  with_reducible rfl
                rotate_left
                · simp only [Act.put, List.setIfInBounds_toArray, List.set_cons_zero, List.set_cons_succ, i64_w, i32_w]
                  rfl
                refine pure_ (i := 8) (N := some 47) (v := ?_) (a' := ?_) #[true, true, true, true, true, true, true, true, true, false, false, false, false, false] rfl rfl (any_of HT_.out (by kernel_rfl)) (fun _ _ _ h => h) (Or.inl ⟨by rfl, ?_⟩) ?_ ?_
                rotate_left
                · intro w'
                  go_simp
                  with_reducible rfl
                rotate_left
                · simp only [Act.put, List.setIfInBounds_toArray, List.set_cons_zero, List.set_cons_succ, i64_w, i32_w]
                  rfl
                refine take_ (i := 9) (N := some 48) (v := ?_) (a' := ?_) #[true, true, true, true, true, true, true, true, true, true, false, false, false, false] rfl rfl (take_ofW HT_.out HW_.out (by kernel_rfl)) (fun _ _ _ h => h) (Or.inl ⟨by rfl, ?_⟩) hHeld ?_ ?_
                rotate_left
                · intro w' hw'
                  have hq0 := M0.out w' hw'
                  have hq1 := M1.out w' hw'
                  have hq2 := M2.out w' hw'
                  have hq3 := M3.out w' hw'
                  have hq4 := M4.out w' hw'
                  have hq5 := M5.out w' hw'
                  go_simp
                  with_reducible rfl
                rotate_left
                · simp only [Act.put, List.setIfInBounds_toArray, List.set_cons_zero, List.set_cons_succ, i64_w, i32_w]
                  rfl
                refine join_ (σ := Nat × Nat) 2 #[true, true, true, true, true, true, true, true, true, true, true, true, false, false] (fun s => [(6, .pointer (some ⟨s.1, 0, none⟩)), (7, .pointer (some ⟨s.2, 0, none⟩))]) (fun s w' => Aside0 (w'.heap[s.1]? = some (.cells #[.int .u32 0, .int .u32 0, .slice none 0 0, .int .u32 0, .int .u32 0, .slice none 0 0] 38) ∧ w'.heap[s.2]? = some (.cells #[.int .u32 0, .int .u32 0, .slice none 0 0, .int .u32 0, .int .u32 0, .slice none 0 0] 38) ∧ s.1 ≠ s.2 ∧ ((w.alloc (.cells (litC dg (.slice (some ad) c.secs.length a) (.slice B c.justs.length b)) 26)).alloc (.cells (litC dg' (.slice (some ad') c'.secs.length a') (.slice B' c'.justs.length b')) 26)).heap.size ≤ s.1 ∧ ((w.alloc (.cells (litC dg (.slice (some ad) c.secs.length a) (.slice B c.justs.length b)) 26)).alloc (.cells (litC dg' (.slice (some ad') c'.secs.length a') (.slice B' c'.justs.length b')) 26)).heap.size ≤ s.2) ∧ Aside0 (Below ((w.alloc (.cells (litC dg (.slice (some ad) c.secs.length a) (.slice B c.justs.length b)) 26)).alloc (.cells (litC dg' (.slice (some ad') c'.secs.length a') (.slice B' c'.justs.length b')) 26)).heap.size ((w.alloc (.cells (litC dg (.slice (some ad) c.secs.length a) (.slice B c.justs.length b)) 26)).alloc (.cells (litC dg' (.slice (some ad') c'.secs.length a') (.slice B' c'.justs.length b')) 26)) w')) (fun s0_ wj HF => ?_) (fun hcont => ?_)
                rotate_left
                · refine two_ (i := 10) (j := 11) (Ni := some 6) (Nj := some 7) #[true, true, true, true, true, true, true, true, true, true, true, false, false, false] #[true, true, true, true, true, true, true, true, true, true, false, true, false, false] rfl rfl rfl rfl (two_of HT_.out (by kernel_rfl)) (by decide) (by decide) (fun K hK => ?_) (fun K hK => ?_)
                  · refine value_ (w1 := ?_) (v := ?_) (by rfl) rfl ?_ ?_
                    rotate_left 2
                    · go_simp
                      constructor
                      · rfl
                      · rfl
                    have n_ := below_alloc HBd.out (.cells #[.int .u32 0, .int .u32 0, .slice none 0 0, .int .u32 0, .int .u32 0, .slice none 0 0] 38)
                    refine hK.out _ _ n_ (fun hHeld => ?_)
                    clear hK K
                    refine norm_ (a' := ?_) ?_ ?_
                    rotate_left
                    · show Act.put _ (some 6) _ = _
                      simp only [Act.put, List.setIfInBounds_toArray, List.set_cons_zero, List.set_cons_succ, i64_w, i32_w]
                      rfl
                    refine one_ (i := 11) (N := some 7) #[true, true, true, true, true, true, true, true, true, true, true, true, false, false] rfl rfl (one_of HT_.out (by kernel_rfl)) (by decide) (fun K hK => ?_)
                    refine value_ (w1 := ?_) (v := ?_) (by rfl) rfl ?_ ?_
                    rotate_left 2
                    · go_simp
                      constructor
                      · rfl
                      · rfl
                    have n2_ := below_alloc n_ (.cells #[.int .u32 0, .int .u32 0, .slice none 0 0, .int .u32 0, .int .u32 0, .slice none 0 0] 38)
                    refine hK.out _ _ n2_ (fun hHeld => ?_)
                    clear hK K
                    refine norm_ (a' := ?_) ?_ ?_
                    rotate_left
                    · show Act.put _ (some 7) _ = _
                      simp only [Act.put, List.setIfInBounds_toArray, List.set_cons_zero, List.set_cons_succ, i64_w, i32_w]
                      rfl
                    exact hcont (_, _) _ ⟨⟨two_allocs HBd.out⟩, ⟨n2_⟩⟩
                  · refine value_ (w1 := ?_) (v := ?_) (by rfl) rfl ?_ ?_
                    rotate_left 2
                    · go_simp
                      constructor
                      · rfl
                      · rfl
                    have n_ := below_alloc HBd.out (.cells #[.int .u32 0, .int .u32 0, .slice none 0 0, .int .u32 0, .int .u32 0, .slice none 0 0] 38)
                    refine hK.out _ _ n_ (fun hHeld => ?_)
                    clear hK K
                    refine norm_ (a' := ?_) ?_ ?_
                    rotate_left
                    · show Act.put _ (some 7) _ = _
                      simp only [Act.put, List.setIfInBounds_toArray, List.set_cons_zero, List.set_cons_succ, i64_w, i32_w]
                      rfl
                    refine one_ (i := 10) (N := some 6) #[true, true, true, true, true, true, true, true, true, true, true, true, false, false] rfl rfl (one_of HT_.out (by kernel_rfl)) (by decide) (fun K hK => ?_)
                    refine value_ (w1 := ?_) (v := ?_) (by rfl) rfl ?_ ?_
                    rotate_left 2
                    · go_simp
                      constructor
                      · rfl
                      · rfl
                    have n2_ := below_alloc n_ (.cells #[.int .u32 0, .int .u32 0, .slice none 0 0, .int .u32 0, .int .u32 0, .slice none 0 0] 38)
                    refine hK.out _ _ n2_ (fun hHeld => ?_)
                    clear hK K
                    refine norm_ (a' := ?_) ?_ ?_
                    rotate_left
                    · show Act.put _ (some 6) _ = _
                      simp only [Act.put, List.setIfInBounds_toArray, List.set_cons_zero, List.set_cons_succ, i64_w, i32_w]
                      rfl
                    exact hcont (_, _) _ ⟨⟨two_allocs' HBd.out⟩, ⟨n2_⟩⟩
                obtain ⟨g6, g7⟩ := s0_
                obtain ⟨HN, HB6⟩ := HF
                refine norm_ (a' := ?_) ?_ ?_
                rotate_left
                · simp only [putAll, Act.put, List.setIfInBounds_toArray, List.set_cons_zero, List.set_cons_succ, i64_w, i32_w]
                  rfl
                refine one_ (i := 12) (N := none) #[true, true, true, true, true, true, true, true, true, true, true, true, true, false] rfl rfl (one_of HT_.out (by kernel_rfl)) (by decide) (fun K hK => ?_)
                rw [if_pos (by rfl)]
                refine wp_store_row 38 (.tmp 6) (.tmp 43) rfl g6 #[.int .u32 s.entry, .int .u32 s.exit, .slice A1 s.held.length c1, .int .u32 s.le, .int .u32 s.lx, .slice B1 s.live.length c1'] rfl rfl 38 #[.int .u32 0, .int .u32 0, .slice none 0 0, .int .u32 0, .int .u32 0, .slice none 0 0] HN.out.1 size38 rfl (sec_one _ _ _ _ _ _ _ _ _ _) ?_
                have HB12 := Aside0.mk (below_setRow HB6.out HN.out.2.2.2.1 #[.int .u32 s.entry, .int .u32 s.exit, .slice A1 s.held.length c1, .int .u32 s.le, .int .u32 s.lx, .slice B1 s.live.length c1'])
                have G6 := Aside0.mk (setRow_heap wj g6 _ #[.int .u32 s.entry, .int .u32 s.exit, .slice A1 s.held.length c1, .int .u32 s.le, .int .u32 s.lx, .slice B1 s.live.length c1'] 38 (0, 0) HN.out.1)
                have G7 := Aside0.mk ((setRow_other wj g6 g7 #[.int .u32 s.entry, .int .u32 s.exit, .slice A1 s.held.length c1, .int .u32 s.le, .int .u32 s.lx, .slice B1 s.live.length c1'] (Ne.symm HN.out.2.2.1)).trans HN.out.2.1)
                refine hK.out _ _ HB12.out (fun hHeld => ?_)
                clear hK K
                refine norm_ (a' := ?_) ?_ ?_
                rotate_left
                · show Act.put _ (none) _ = _
                  simp only [Act.put, List.setIfInBounds_toArray, List.set_cons_zero, List.set_cons_succ, i64_w, i32_w]
                  rfl
                refine one_ (i := 13) (N := none) #[true, true, true, true, true, true, true, true, true, true, true, true, true, true] rfl rfl (one_of HT_.out (by kernel_rfl)) (by decide) (fun K hK => ?_)
                rw [if_pos (by rfl)]
                refine wp_store_row 38 (.tmp 7) (.tmp 48) rfl g7 #[.int .u32 t.entry, .int .u32 t.exit, .slice A2 t.held.length c2, .int .u32 t.le, .int .u32 t.lx, .slice B2 t.live.length c2'] rfl rfl 38 #[.int .u32 0, .int .u32 0, .slice none 0 0, .int .u32 0, .int .u32 0, .slice none 0 0] G7.out size38 rfl (sec_one _ _ _ _ _ _ _ _ _ _) ?_
                have HB13 := Aside0.mk (below_setRow HB12.out HN.out.2.2.2.2 #[.int .u32 t.entry, .int .u32 t.exit, .slice A2 t.held.length c2, .int .u32 t.le, .int .u32 t.lx, .slice B2 t.live.length c2'])
                have J7 := Aside0.mk (setRow_heap _ g7 _ #[.int .u32 t.entry, .int .u32 t.exit, .slice A2 t.held.length c2, .int .u32 t.le, .int .u32 t.lx, .slice B2 t.live.length c2'] 38 (0, 0) G7.out)
                have J6 := Aside0.mk ((setRow_other (wj.setRow g6 #[.int .u32 s.entry, .int .u32 s.exit, .slice A1 s.held.length c1, .int .u32 s.le, .int .u32 s.lx, .slice B1 s.live.length c1']) g7 g6 #[.int .u32 t.entry, .int .u32 t.exit, .slice A2 t.held.length c2, .int .u32 t.le, .int .u32 t.lx, .slice B2 t.live.length c2'] HN.out.2.2.1).trans G6.out)
                refine hK.out _ _ HB13.out (fun hHeld => ?_)
                clear hK K
                refine norm_ (a' := ?_) ?_ ?_
                rotate_left
                · show Act.put _ (none) _ = _
                  simp only [Act.put, List.setIfInBounds_toArray, List.set_cons_zero, List.set_cons_succ, i64_w, i32_w]
                  rfl
                refine done_ (done_of HT_.out (by kernel_rfl)) ?_
                have hsx := six_cells J6.out
                have htx := six_cells J7.out
                obtain ⟨x0, x1, x2, x3, x4, x5⟩ := hsx
                obtain ⟨y0, y1, y2, y3, y4, y5⟩ := htx
                try clear hHeld
                go_wp2_with (first | fail)
                go_ret
                exact ⟨by rw [HXX.out]; first | rfl | (simp; done), by repeat (first | exact below_step HW2.out HB13.out | apply pw_below_drewN | apply below_drew1)⟩
            · have hne : s ≠ t := fun h => hc2 (by rw [h])
              have hx2 : eqB c.secs c'.secs = false := by rw [← hx]; exact eqB_false (fun h => hne (List.cons.inj h).1)
              have HXX := Aside0.mk hx2
              have f0 : (s.entry != t.entry) = false := by rw [hc0]; simp
              have f1 : (s.exit != t.exit) = false := by rw [hc1]; simp
              have f2 : (s.le != t.le) = true := bne_iff_ne.mpr hc2
              clear hx2 hne hc0 hc1 hc2
              clear hx hw q0 q1 q2 q3 q4 q5 p0 p1 p2 p3 p4 p5 r1 r2 r3 r4 t1 t2 t3 t4 i0 i1 ik hi hi' hs ht h100
              go_wp2
              refine start_any (n := 14) (S := fun w' => Below ((w.alloc (.cells (litC dg (.slice (some ad) c.secs.length a) (.slice B c.justs.length b)) 26)).alloc (.cells (litC dg' (.slice (some ad') c'.secs.length a') (.slice B' c'.justs.length b')) 26)).heap.size ((w.alloc (.cells (litC dg (.slice (some ad) c.secs.length a) (.slice B c.justs.length b)) 26)).alloc (.cells (litC dg' (.slice (some ad') c'.secs.length a') (.slice B' c'.justs.length b')) 26)) w') (ds := []) #[false, false, false, false, false, false, false, false, false, false, false, false, false, false] (by kernel_rfl) rfl rfl (below_drew1 HB.out) (fun wd hHeld => ?_); refine with_tabW rs.tab6 rs.bits6 (fun HT_ HW_ => ?_)
              have HBd := Aside0.mk hHeld
              refine pure_ (i := 0) (N := some 39) (v := ?_) (a' := ?_) #[true, false, false, false, false, false, false, false, false, false, false, false, false, false] rfl rfl (any_of HT_.out (by kernel_rfl)) (fun _ _ _ h => h) (Or.inl ⟨by rfl, ?_⟩) ?_ ?_
              rotate_left
              · intro w'
                go_simp
                with_reducible rfl
              rotate_left
              · simp only [Act.put, List.setIfInBounds_toArray, List.set_cons_zero, List.set_cons_succ, i64_w, i32_w]
                rfl
              refine take_ (i := 1) (N := some 40) (v := ?_) (a' := ?_) #[true, true, false, false, false, false, false, false, false, false, false, false, false, false] rfl rfl (take_ofW HT_.out HW_.out (by kernel_rfl)) (fun _ _ _ h => h) (Or.inl ⟨by rfl, ?_⟩) hHeld ?_ ?_
              rotate_left
              · intro w' hw'
                have hq := Q32.out w' hw'
                go_simp
                with_reducible rfl
              rotate_left
              · simp only [Act.put, List.setIfInBounds_toArray, List.set_cons_zero, List.set_cons_succ, i64_w, i32_w]
                rfl
              refine pure_ (i := 2) (N := some 41) (v := ?_) (a' := ?_) #[true, true, true, false, false, false, false, false, false, false, false, false, false, false] rfl rfl (any_of HT_.out (by kernel_rfl)) (fun _ _ _ h => h) (Or.inl ⟨by rfl, ?_⟩) ?_ ?_
              rotate_left
              · intro w'
                go_simp
                with_reducible rfl
              rotate_left
              · simp only [Act.put, List.setIfInBounds_toArray, List.set_cons_zero, List.set_cons_succ, i64_w, i32_w]
                rfl
              refine pure_ (i := 3) (N := some 42) (v := ?_) (a' := ?_) #[true, true, true, true, false, false, false, false, false, false, false, false, false, false] rfl rfl (any_of HT_.out (by kernel_rfl)) (fun _ _ _ h => h) (Or.inl ⟨by rfl, ?_⟩) ?_ ?_
              rotate_left
              · intro w'
                go_simp
                with_reducible rfl
              rotate_left
              · simp only [Act.put, List.setIfInBounds_toArray, List.set_cons_zero, List.set_cons_succ, i64_w, i32_w]
                rfl
              refine take_ (i := 4) (N := some 43) (v := ?_) (a' := ?_) #[true, true, true, true, true, false, false, false, false, false, false, false, false, false] rfl rfl (take_ofW HT_.out HW_.out (by kernel_rfl)) (fun _ _ _ h => h) (Or.inl ⟨by rfl, ?_⟩) hHeld ?_ ?_
              rotate_left
              · intro w' hw'
                have hq0 := K0.out w' hw'
                have hq1 := K1.out w' hw'
                have hq2 := K2.out w' hw'
                have hq3 := K3.out w' hw'
                have hq4 := K4.out w' hw'
                have hq5 := K5.out w' hw'
                go_simp
                with_reducible rfl
              rotate_left
              · simp only [Act.put, List.setIfInBounds_toArray, List.set_cons_zero, List.set_cons_succ, i64_w, i32_w]
                rfl
              refine pure_ (i := 5) (N := some 44) (v := ?_) (a' := ?_) #[true, true, true, true, true, true, false, false, false, false, false, false, false, false] rfl rfl (any_of HT_.out (by kernel_rfl)) (fun _ _ _ h => h) (Or.inl ⟨by rfl, ?_⟩) ?_ ?_
              rotate_left
              · intro w'
                go_simp
                with_reducible rfl
              rotate_left
              · simp only [Act.put, List.setIfInBounds_toArray, List.set_cons_zero, List.set_cons_succ, i64_w, i32_w]
                rfl
              refine take_ (i := 6) (N := some 45) (v := ?_) (a' := ?_) #[true, true, true, true, true, true, true, false, false, false, false, false, false, false] rfl rfl (take_ofW HT_.out HW_.out (by kernel_rfl)) (fun _ _ _ h => h) (Or.inl ⟨by rfl, ?_⟩) hHeld ?_ ?_
              rotate_left
              · intro w' hw'
                have hq := P32.out w' hw'
                go_simp
                with_reducible rfl
              rotate_left
              · simp only [Act.put, List.setIfInBounds_toArray, List.set_cons_zero, List.set_cons_succ, i64_w, i32_w]
                rfl
              refine pure_ (i := 7) (N := some 46) (v := ?_) (a' := ?_) #[true, true, true, true, true, true, true, true, false, false, false, false, false, false] rfl rfl (any_of HT_.out (by kernel_rfl)) (fun _ _ _ h => h) (Or.inl ⟨by rfl, ?_⟩) ?_ ?_
              rotate_left
              · intro w'
                go_simp
                with_reducible rfl
              rotate_left
              · simp only [Act.put, List.setIfInBounds_toArray, List.set_cons_zero, List.set_cons_succ, i64_w, i32_w]
                rfl
              refine pure_ (i := 8) (N := some 47) (v := ?_) (a' := ?_) #[true, true, true, true, true, true, true, true, true, false, false, false, false, false] rfl rfl (any_of HT_.out (by kernel_rfl)) (fun _ _ _ h => h) (Or.inl ⟨by rfl, ?_⟩) ?_ ?_
              rotate_left
              · intro w'
                go_simp
                with_reducible rfl
              rotate_left
              · simp only [Act.put, List.setIfInBounds_toArray, List.set_cons_zero, List.set_cons_succ, i64_w, i32_w]
                rfl
              refine take_ (i := 9) (N := some 48) (v := ?_) (a' := ?_) #[true, true, true, true, true, true, true, true, true, true, false, false, false, false] rfl rfl (take_ofW HT_.out HW_.out (by kernel_rfl)) (fun _ _ _ h => h) (Or.inl ⟨by rfl, ?_⟩) hHeld ?_ ?_
              rotate_left
              · intro w' hw'
                have hq0 := M0.out w' hw'
                have hq1 := M1.out w' hw'
                have hq2 := M2.out w' hw'
                have hq3 := M3.out w' hw'
                have hq4 := M4.out w' hw'
                have hq5 := M5.out w' hw'
                go_simp
                with_reducible rfl
              rotate_left
              · simp only [Act.put, List.setIfInBounds_toArray, List.set_cons_zero, List.set_cons_succ, i64_w, i32_w]
                rfl
              refine join_ (σ := Nat × Nat) 2 #[true, true, true, true, true, true, true, true, true, true, true, true, false, false] (fun s => [(6, .pointer (some ⟨s.1, 0, none⟩)), (7, .pointer (some ⟨s.2, 0, none⟩))]) (fun s w' => Aside0 (w'.heap[s.1]? = some (.cells #[.int .u32 0, .int .u32 0, .slice none 0 0, .int .u32 0, .int .u32 0, .slice none 0 0] 38) ∧ w'.heap[s.2]? = some (.cells #[.int .u32 0, .int .u32 0, .slice none 0 0, .int .u32 0, .int .u32 0, .slice none 0 0] 38) ∧ s.1 ≠ s.2 ∧ ((w.alloc (.cells (litC dg (.slice (some ad) c.secs.length a) (.slice B c.justs.length b)) 26)).alloc (.cells (litC dg' (.slice (some ad') c'.secs.length a') (.slice B' c'.justs.length b')) 26)).heap.size ≤ s.1 ∧ ((w.alloc (.cells (litC dg (.slice (some ad) c.secs.length a) (.slice B c.justs.length b)) 26)).alloc (.cells (litC dg' (.slice (some ad') c'.secs.length a') (.slice B' c'.justs.length b')) 26)).heap.size ≤ s.2) ∧ Aside0 (Below ((w.alloc (.cells (litC dg (.slice (some ad) c.secs.length a) (.slice B c.justs.length b)) 26)).alloc (.cells (litC dg' (.slice (some ad') c'.secs.length a') (.slice B' c'.justs.length b')) 26)).heap.size ((w.alloc (.cells (litC dg (.slice (some ad) c.secs.length a) (.slice B c.justs.length b)) 26)).alloc (.cells (litC dg' (.slice (some ad') c'.secs.length a') (.slice B' c'.justs.length b')) 26)) w')) (fun s0_ wj HF => ?_) (fun hcont => ?_)
              rotate_left
              · refine two_ (i := 10) (j := 11) (Ni := some 6) (Nj := some 7) #[true, true, true, true, true, true, true, true, true, true, true, false, false, false] #[true, true, true, true, true, true, true, true, true, true, false, true, false, false] rfl rfl rfl rfl (two_of HT_.out (by kernel_rfl)) (by decide) (by decide) (fun K hK => ?_) (fun K hK => ?_)
                · refine value_ (w1 := ?_) (v := ?_) (by rfl) rfl ?_ ?_
                  rotate_left 2
                  · go_simp
                    constructor
                    · rfl
                    · rfl
                  have n_ := below_alloc HBd.out (.cells #[.int .u32 0, .int .u32 0, .slice none 0 0, .int .u32 0, .int .u32 0, .slice none 0 0] 38)
                  refine hK.out _ _ n_ (fun hHeld => ?_)
                  clear hK K
                  refine norm_ (a' := ?_) ?_ ?_
                  rotate_left
                  · show Act.put _ (some 6) _ = _
                    simp only [Act.put, List.setIfInBounds_toArray, List.set_cons_zero, List.set_cons_succ, i64_w, i32_w]
                    rfl
                  refine one_ (i := 11) (N := some 7) #[true, true, true, true, true, true, true, true, true, true, true, true, false, false] rfl rfl (one_of HT_.out (by kernel_rfl)) (by decide) (fun K hK => ?_)
                  refine value_ (w1 := ?_) (v := ?_) (by rfl) rfl ?_ ?_
                  rotate_left 2
                  · go_simp
                    constructor
                    · rfl
                    · rfl
                  have n2_ := below_alloc n_ (.cells #[.int .u32 0, .int .u32 0, .slice none 0 0, .int .u32 0, .int .u32 0, .slice none 0 0] 38)
                  refine hK.out _ _ n2_ (fun hHeld => ?_)
                  clear hK K
                  refine norm_ (a' := ?_) ?_ ?_
                  rotate_left
                  · show Act.put _ (some 7) _ = _
                    simp only [Act.put, List.setIfInBounds_toArray, List.set_cons_zero, List.set_cons_succ, i64_w, i32_w]
                    rfl
                  exact hcont (_, _) _ ⟨⟨two_allocs HBd.out⟩, ⟨n2_⟩⟩
                · refine value_ (w1 := ?_) (v := ?_) (by rfl) rfl ?_ ?_
                  rotate_left 2
                  · go_simp
                    constructor
                    · rfl
                    · rfl
                  have n_ := below_alloc HBd.out (.cells #[.int .u32 0, .int .u32 0, .slice none 0 0, .int .u32 0, .int .u32 0, .slice none 0 0] 38)
                  refine hK.out _ _ n_ (fun hHeld => ?_)
                  clear hK K
                  refine norm_ (a' := ?_) ?_ ?_
                  rotate_left
                  · show Act.put _ (some 7) _ = _
                    simp only [Act.put, List.setIfInBounds_toArray, List.set_cons_zero, List.set_cons_succ, i64_w, i32_w]
                    rfl
                  refine one_ (i := 10) (N := some 6) #[true, true, true, true, true, true, true, true, true, true, true, true, false, false] rfl rfl (one_of HT_.out (by kernel_rfl)) (by decide) (fun K hK => ?_)
                  refine value_ (w1 := ?_) (v := ?_) (by rfl) rfl ?_ ?_
                  rotate_left 2
                  · go_simp
                    constructor
                    · rfl
                    · rfl
                  have n2_ := below_alloc n_ (.cells #[.int .u32 0, .int .u32 0, .slice none 0 0, .int .u32 0, .int .u32 0, .slice none 0 0] 38)
                  refine hK.out _ _ n2_ (fun hHeld => ?_)
                  clear hK K
                  refine norm_ (a' := ?_) ?_ ?_
                  rotate_left
                  · show Act.put _ (some 6) _ = _
                    simp only [Act.put, List.setIfInBounds_toArray, List.set_cons_zero, List.set_cons_succ, i64_w, i32_w]
                    rfl
                  exact hcont (_, _) _ ⟨⟨two_allocs' HBd.out⟩, ⟨n2_⟩⟩
              obtain ⟨g6, g7⟩ := s0_
              obtain ⟨HN, HB6⟩ := HF
              refine norm_ (a' := ?_) ?_ ?_
              rotate_left
              · simp only [putAll, Act.put, List.setIfInBounds_toArray, List.set_cons_zero, List.set_cons_succ, i64_w, i32_w]
                rfl
              refine one_ (i := 12) (N := none) #[true, true, true, true, true, true, true, true, true, true, true, true, true, false] rfl rfl (one_of HT_.out (by kernel_rfl)) (by decide) (fun K hK => ?_)
              rw [if_pos (by rfl)]
              refine wp_store_row 38 (.tmp 6) (.tmp 43) rfl g6 #[.int .u32 s.entry, .int .u32 s.exit, .slice A1 s.held.length c1, .int .u32 s.le, .int .u32 s.lx, .slice B1 s.live.length c1'] rfl rfl 38 #[.int .u32 0, .int .u32 0, .slice none 0 0, .int .u32 0, .int .u32 0, .slice none 0 0] HN.out.1 size38 rfl (sec_one _ _ _ _ _ _ _ _ _ _) ?_
              have HB12 := Aside0.mk (below_setRow HB6.out HN.out.2.2.2.1 #[.int .u32 s.entry, .int .u32 s.exit, .slice A1 s.held.length c1, .int .u32 s.le, .int .u32 s.lx, .slice B1 s.live.length c1'])
              have G6 := Aside0.mk (setRow_heap wj g6 _ #[.int .u32 s.entry, .int .u32 s.exit, .slice A1 s.held.length c1, .int .u32 s.le, .int .u32 s.lx, .slice B1 s.live.length c1'] 38 (0, 0) HN.out.1)
              have G7 := Aside0.mk ((setRow_other wj g6 g7 #[.int .u32 s.entry, .int .u32 s.exit, .slice A1 s.held.length c1, .int .u32 s.le, .int .u32 s.lx, .slice B1 s.live.length c1'] (Ne.symm HN.out.2.2.1)).trans HN.out.2.1)
              refine hK.out _ _ HB12.out (fun hHeld => ?_)
              clear hK K
              refine norm_ (a' := ?_) ?_ ?_
              rotate_left
              · show Act.put _ (none) _ = _
                simp only [Act.put, List.setIfInBounds_toArray, List.set_cons_zero, List.set_cons_succ, i64_w, i32_w]
                rfl
              refine one_ (i := 13) (N := none) #[true, true, true, true, true, true, true, true, true, true, true, true, true, true] rfl rfl (one_of HT_.out (by kernel_rfl)) (by decide) (fun K hK => ?_)
              rw [if_pos (by rfl)]
              refine wp_store_row 38 (.tmp 7) (.tmp 48) rfl g7 #[.int .u32 t.entry, .int .u32 t.exit, .slice A2 t.held.length c2, .int .u32 t.le, .int .u32 t.lx, .slice B2 t.live.length c2'] rfl rfl 38 #[.int .u32 0, .int .u32 0, .slice none 0 0, .int .u32 0, .int .u32 0, .slice none 0 0] G7.out size38 rfl (sec_one _ _ _ _ _ _ _ _ _ _) ?_
              have HB13 := Aside0.mk (below_setRow HB12.out HN.out.2.2.2.2 #[.int .u32 t.entry, .int .u32 t.exit, .slice A2 t.held.length c2, .int .u32 t.le, .int .u32 t.lx, .slice B2 t.live.length c2'])
              have J7 := Aside0.mk (setRow_heap _ g7 _ #[.int .u32 t.entry, .int .u32 t.exit, .slice A2 t.held.length c2, .int .u32 t.le, .int .u32 t.lx, .slice B2 t.live.length c2'] 38 (0, 0) G7.out)
              have J6 := Aside0.mk ((setRow_other (wj.setRow g6 #[.int .u32 s.entry, .int .u32 s.exit, .slice A1 s.held.length c1, .int .u32 s.le, .int .u32 s.lx, .slice B1 s.live.length c1']) g7 g6 #[.int .u32 t.entry, .int .u32 t.exit, .slice A2 t.held.length c2, .int .u32 t.le, .int .u32 t.lx, .slice B2 t.live.length c2'] HN.out.2.2.1).trans G6.out)
              refine hK.out _ _ HB13.out (fun hHeld => ?_)
              clear hK K
              refine norm_ (a' := ?_) ?_ ?_
              rotate_left
              · show Act.put _ (none) _ = _
                simp only [Act.put, List.setIfInBounds_toArray, List.set_cons_zero, List.set_cons_succ, i64_w, i32_w]
                rfl
              refine done_ (done_of HT_.out (by kernel_rfl)) ?_
              have hsx := six_cells J6.out
              have htx := six_cells J7.out
              obtain ⟨x0, x1, x2, x3, x4, x5⟩ := hsx
              obtain ⟨y0, y1, y2, y3, y4, y5⟩ := htx
              try clear hHeld
              go_wp2_with (first | fail)
              go_ret
              exact ⟨by rw [HXX.out]; first | rfl | (simp; done), by repeat (first | exact below_step HW2.out HB13.out | apply pw_below_drewN | apply below_drew1)⟩
          · have hne : s ≠ t := fun h => hc1 (by rw [h])
            have hx2 : eqB c.secs c'.secs = false := by rw [← hx]; exact eqB_false (fun h => hne (List.cons.inj h).1)
            have HXX := Aside0.mk hx2
            have f0 : (s.entry != t.entry) = false := by rw [hc0]; simp
            have f1 : (s.exit != t.exit) = true := bne_iff_ne.mpr hc1
            clear hx2 hne hc0 hc1
            clear hx hw q0 q1 q2 q3 q4 q5 p0 p1 p2 p3 p4 p5 r1 r2 r3 r4 t1 t2 t3 t4 i0 i1 ik hi hi' hs ht h100
            go_wp2
            refine start_any (n := 14) (S := fun w' => Below ((w.alloc (.cells (litC dg (.slice (some ad) c.secs.length a) (.slice B c.justs.length b)) 26)).alloc (.cells (litC dg' (.slice (some ad') c'.secs.length a') (.slice B' c'.justs.length b')) 26)).heap.size ((w.alloc (.cells (litC dg (.slice (some ad) c.secs.length a) (.slice B c.justs.length b)) 26)).alloc (.cells (litC dg' (.slice (some ad') c'.secs.length a') (.slice B' c'.justs.length b')) 26)) w') (ds := []) #[false, false, false, false, false, false, false, false, false, false, false, false, false, false] (by kernel_rfl) rfl rfl (below_drew1 HB.out) (fun wd hHeld => ?_); refine with_tabW rs.tab6 rs.bits6 (fun HT_ HW_ => ?_)
            have HBd := Aside0.mk hHeld
            refine pure_ (i := 0) (N := some 39) (v := ?_) (a' := ?_) #[true, false, false, false, false, false, false, false, false, false, false, false, false, false] rfl rfl (any_of HT_.out (by kernel_rfl)) (fun _ _ _ h => h) (Or.inl ⟨by rfl, ?_⟩) ?_ ?_
            rotate_left
            · intro w'
              go_simp
              with_reducible rfl
            rotate_left
            · simp only [Act.put, List.setIfInBounds_toArray, List.set_cons_zero, List.set_cons_succ, i64_w, i32_w]
              rfl
            refine take_ (i := 1) (N := some 40) (v := ?_) (a' := ?_) #[true, true, false, false, false, false, false, false, false, false, false, false, false, false] rfl rfl (take_ofW HT_.out HW_.out (by kernel_rfl)) (fun _ _ _ h => h) (Or.inl ⟨by rfl, ?_⟩) hHeld ?_ ?_
            rotate_left
            · intro w' hw'
              have hq := Q32.out w' hw'
              go_simp
              with_reducible rfl
            rotate_left
            · simp only [Act.put, List.setIfInBounds_toArray, List.set_cons_zero, List.set_cons_succ, i64_w, i32_w]
              rfl
            refine pure_ (i := 2) (N := some 41) (v := ?_) (a' := ?_) #[true, true, true, false, false, false, false, false, false, false, false, false, false, false] rfl rfl (any_of HT_.out (by kernel_rfl)) (fun _ _ _ h => h) (Or.inl ⟨by rfl, ?_⟩) ?_ ?_
            rotate_left
            · intro w'
              go_simp
              with_reducible rfl
            rotate_left
            · simp only [Act.put, List.setIfInBounds_toArray, List.set_cons_zero, List.set_cons_succ, i64_w, i32_w]
              rfl
            refine pure_ (i := 3) (N := some 42) (v := ?_) (a' := ?_) #[true, true, true, true, false, false, false, false, false, false, false, false, false, false] rfl rfl (any_of HT_.out (by kernel_rfl)) (fun _ _ _ h => h) (Or.inl ⟨by rfl, ?_⟩) ?_ ?_
            rotate_left
            · intro w'
              go_simp
              with_reducible rfl
            rotate_left
            · simp only [Act.put, List.setIfInBounds_toArray, List.set_cons_zero, List.set_cons_succ, i64_w, i32_w]
              rfl
            refine take_ (i := 4) (N := some 43) (v := ?_) (a' := ?_) #[true, true, true, true, true, false, false, false, false, false, false, false, false, false] rfl rfl (take_ofW HT_.out HW_.out (by kernel_rfl)) (fun _ _ _ h => h) (Or.inl ⟨by rfl, ?_⟩) hHeld ?_ ?_
            rotate_left
            · intro w' hw'
              have hq0 := K0.out w' hw'
              have hq1 := K1.out w' hw'
              have hq2 := K2.out w' hw'
              have hq3 := K3.out w' hw'
              have hq4 := K4.out w' hw'
              have hq5 := K5.out w' hw'
              go_simp
              with_reducible rfl
            rotate_left
            · simp only [Act.put, List.setIfInBounds_toArray, List.set_cons_zero, List.set_cons_succ, i64_w, i32_w]
              rfl
            refine pure_ (i := 5) (N := some 44) (v := ?_) (a' := ?_) #[true, true, true, true, true, true, false, false, false, false, false, false, false, false] rfl rfl (any_of HT_.out (by kernel_rfl)) (fun _ _ _ h => h) (Or.inl ⟨by rfl, ?_⟩) ?_ ?_
            rotate_left
            · intro w'
              go_simp
              with_reducible rfl
            rotate_left
            · simp only [Act.put, List.setIfInBounds_toArray, List.set_cons_zero, List.set_cons_succ, i64_w, i32_w]
              rfl
            refine take_ (i := 6) (N := some 45) (v := ?_) (a' := ?_) #[true, true, true, true, true, true, true, false, false, false, false, false, false, false] rfl rfl (take_ofW HT_.out HW_.out (by kernel_rfl)) (fun _ _ _ h => h) (Or.inl ⟨by rfl, ?_⟩) hHeld ?_ ?_
            rotate_left
            · intro w' hw'
              have hq := P32.out w' hw'
              go_simp
              with_reducible rfl
            rotate_left
            · simp only [Act.put, List.setIfInBounds_toArray, List.set_cons_zero, List.set_cons_succ, i64_w, i32_w]
              rfl
            refine pure_ (i := 7) (N := some 46) (v := ?_) (a' := ?_) #[true, true, true, true, true, true, true, true, false, false, false, false, false, false] rfl rfl (any_of HT_.out (by kernel_rfl)) (fun _ _ _ h => h) (Or.inl ⟨by rfl, ?_⟩) ?_ ?_
            rotate_left
            · intro w'
              go_simp
              with_reducible rfl
            rotate_left
            · simp only [Act.put, List.setIfInBounds_toArray, List.set_cons_zero, List.set_cons_succ, i64_w, i32_w]
              rfl
            refine pure_ (i := 8) (N := some 47) (v := ?_) (a' := ?_) #[true, true, true, true, true, true, true, true, true, false, false, false, false, false] rfl rfl (any_of HT_.out (by kernel_rfl)) (fun _ _ _ h => h) (Or.inl ⟨by rfl, ?_⟩) ?_ ?_
            rotate_left
            · intro w'
              go_simp
              with_reducible rfl
            rotate_left
            · simp only [Act.put, List.setIfInBounds_toArray, List.set_cons_zero, List.set_cons_succ, i64_w, i32_w]
              rfl
            refine take_ (i := 9) (N := some 48) (v := ?_) (a' := ?_) #[true, true, true, true, true, true, true, true, true, true, false, false, false, false] rfl rfl (take_ofW HT_.out HW_.out (by kernel_rfl)) (fun _ _ _ h => h) (Or.inl ⟨by rfl, ?_⟩) hHeld ?_ ?_
            rotate_left
            · intro w' hw'
              have hq0 := M0.out w' hw'
              have hq1 := M1.out w' hw'
              have hq2 := M2.out w' hw'
              have hq3 := M3.out w' hw'
              have hq4 := M4.out w' hw'
              have hq5 := M5.out w' hw'
              go_simp
              with_reducible rfl
            rotate_left
            · simp only [Act.put, List.setIfInBounds_toArray, List.set_cons_zero, List.set_cons_succ, i64_w, i32_w]
              rfl
            refine join_ (σ := Nat × Nat) 2 #[true, true, true, true, true, true, true, true, true, true, true, true, false, false] (fun s => [(6, .pointer (some ⟨s.1, 0, none⟩)), (7, .pointer (some ⟨s.2, 0, none⟩))]) (fun s w' => Aside0 (w'.heap[s.1]? = some (.cells #[.int .u32 0, .int .u32 0, .slice none 0 0, .int .u32 0, .int .u32 0, .slice none 0 0] 38) ∧ w'.heap[s.2]? = some (.cells #[.int .u32 0, .int .u32 0, .slice none 0 0, .int .u32 0, .int .u32 0, .slice none 0 0] 38) ∧ s.1 ≠ s.2 ∧ ((w.alloc (.cells (litC dg (.slice (some ad) c.secs.length a) (.slice B c.justs.length b)) 26)).alloc (.cells (litC dg' (.slice (some ad') c'.secs.length a') (.slice B' c'.justs.length b')) 26)).heap.size ≤ s.1 ∧ ((w.alloc (.cells (litC dg (.slice (some ad) c.secs.length a) (.slice B c.justs.length b)) 26)).alloc (.cells (litC dg' (.slice (some ad') c'.secs.length a') (.slice B' c'.justs.length b')) 26)).heap.size ≤ s.2) ∧ Aside0 (Below ((w.alloc (.cells (litC dg (.slice (some ad) c.secs.length a) (.slice B c.justs.length b)) 26)).alloc (.cells (litC dg' (.slice (some ad') c'.secs.length a') (.slice B' c'.justs.length b')) 26)).heap.size ((w.alloc (.cells (litC dg (.slice (some ad) c.secs.length a) (.slice B c.justs.length b)) 26)).alloc (.cells (litC dg' (.slice (some ad') c'.secs.length a') (.slice B' c'.justs.length b')) 26)) w')) (fun s0_ wj HF => ?_) (fun hcont => ?_)
            rotate_left
            · refine two_ (i := 10) (j := 11) (Ni := some 6) (Nj := some 7) #[true, true, true, true, true, true, true, true, true, true, true, false, false, false] #[true, true, true, true, true, true, true, true, true, true, false, true, false, false] rfl rfl rfl rfl (two_of HT_.out (by kernel_rfl)) (by decide) (by decide) (fun K hK => ?_) (fun K hK => ?_)
              · refine value_ (w1 := ?_) (v := ?_) (by rfl) rfl ?_ ?_
                rotate_left 2
                · go_simp
                  constructor
                  · rfl
                  · rfl
                have n_ := below_alloc HBd.out (.cells #[.int .u32 0, .int .u32 0, .slice none 0 0, .int .u32 0, .int .u32 0, .slice none 0 0] 38)
                refine hK.out _ _ n_ (fun hHeld => ?_)
                clear hK K
                refine norm_ (a' := ?_) ?_ ?_
                rotate_left
                · show Act.put _ (some 6) _ = _
                  simp only [Act.put, List.setIfInBounds_toArray, List.set_cons_zero, List.set_cons_succ, i64_w, i32_w]
                  rfl
                refine one_ (i := 11) (N := some 7) #[true, true, true, true, true, true, true, true, true, true, true, true, false, false] rfl rfl (one_of HT_.out (by kernel_rfl)) (by decide) (fun K hK => ?_)
                refine value_ (w1 := ?_) (v := ?_) (by rfl) rfl ?_ ?_
                rotate_left 2
                · go_simp
                  constructor
                  · rfl
                  · rfl
                have n2_ := below_alloc n_ (.cells #[.int .u32 0, .int .u32 0, .slice none 0 0, .int .u32 0, .int .u32 0, .slice none 0 0] 38)
                refine hK.out _ _ n2_ (fun hHeld => ?_)
                clear hK K
                refine norm_ (a' := ?_) ?_ ?_
                rotate_left
                · show Act.put _ (some 7) _ = _
                  simp only [Act.put, List.setIfInBounds_toArray, List.set_cons_zero, List.set_cons_succ, i64_w, i32_w]
                  rfl
                exact hcont (_, _) _ ⟨⟨two_allocs HBd.out⟩, ⟨n2_⟩⟩
              · refine value_ (w1 := ?_) (v := ?_) (by rfl) rfl ?_ ?_
                rotate_left 2
                · go_simp
                  constructor
                  · rfl
                  · rfl
                have n_ := below_alloc HBd.out (.cells #[.int .u32 0, .int .u32 0, .slice none 0 0, .int .u32 0, .int .u32 0, .slice none 0 0] 38)
                refine hK.out _ _ n_ (fun hHeld => ?_)
                clear hK K
                refine norm_ (a' := ?_) ?_ ?_
                rotate_left
                · show Act.put _ (some 7) _ = _
                  simp only [Act.put, List.setIfInBounds_toArray, List.set_cons_zero, List.set_cons_succ, i64_w, i32_w]
                  rfl
                refine one_ (i := 10) (N := some 6) #[true, true, true, true, true, true, true, true, true, true, true, true, false, false] rfl rfl (one_of HT_.out (by kernel_rfl)) (by decide) (fun K hK => ?_)
                refine value_ (w1 := ?_) (v := ?_) (by rfl) rfl ?_ ?_
                rotate_left 2
                · go_simp
                  constructor
                  · rfl
                  · rfl
                have n2_ := below_alloc n_ (.cells #[.int .u32 0, .int .u32 0, .slice none 0 0, .int .u32 0, .int .u32 0, .slice none 0 0] 38)
                refine hK.out _ _ n2_ (fun hHeld => ?_)
                clear hK K
                refine norm_ (a' := ?_) ?_ ?_
                rotate_left
                · show Act.put _ (some 6) _ = _
                  simp only [Act.put, List.setIfInBounds_toArray, List.set_cons_zero, List.set_cons_succ, i64_w, i32_w]
                  rfl
                exact hcont (_, _) _ ⟨⟨two_allocs' HBd.out⟩, ⟨n2_⟩⟩
            obtain ⟨g6, g7⟩ := s0_
            obtain ⟨HN, HB6⟩ := HF
            refine norm_ (a' := ?_) ?_ ?_
            rotate_left
            · simp only [putAll, Act.put, List.setIfInBounds_toArray, List.set_cons_zero, List.set_cons_succ, i64_w, i32_w]
              rfl
            refine one_ (i := 12) (N := none) #[true, true, true, true, true, true, true, true, true, true, true, true, true, false] rfl rfl (one_of HT_.out (by kernel_rfl)) (by decide) (fun K hK => ?_)
            rw [if_pos (by rfl)]
            refine wp_store_row 38 (.tmp 6) (.tmp 43) rfl g6 #[.int .u32 s.entry, .int .u32 s.exit, .slice A1 s.held.length c1, .int .u32 s.le, .int .u32 s.lx, .slice B1 s.live.length c1'] rfl rfl 38 #[.int .u32 0, .int .u32 0, .slice none 0 0, .int .u32 0, .int .u32 0, .slice none 0 0] HN.out.1 size38 rfl (sec_one _ _ _ _ _ _ _ _ _ _) ?_
            have HB12 := Aside0.mk (below_setRow HB6.out HN.out.2.2.2.1 #[.int .u32 s.entry, .int .u32 s.exit, .slice A1 s.held.length c1, .int .u32 s.le, .int .u32 s.lx, .slice B1 s.live.length c1'])
            have G6 := Aside0.mk (setRow_heap wj g6 _ #[.int .u32 s.entry, .int .u32 s.exit, .slice A1 s.held.length c1, .int .u32 s.le, .int .u32 s.lx, .slice B1 s.live.length c1'] 38 (0, 0) HN.out.1)
            have G7 := Aside0.mk ((setRow_other wj g6 g7 #[.int .u32 s.entry, .int .u32 s.exit, .slice A1 s.held.length c1, .int .u32 s.le, .int .u32 s.lx, .slice B1 s.live.length c1'] (Ne.symm HN.out.2.2.1)).trans HN.out.2.1)
            refine hK.out _ _ HB12.out (fun hHeld => ?_)
            clear hK K
            refine norm_ (a' := ?_) ?_ ?_
            rotate_left
            · show Act.put _ (none) _ = _
              simp only [Act.put, List.setIfInBounds_toArray, List.set_cons_zero, List.set_cons_succ, i64_w, i32_w]
              rfl
            refine one_ (i := 13) (N := none) #[true, true, true, true, true, true, true, true, true, true, true, true, true, true] rfl rfl (one_of HT_.out (by kernel_rfl)) (by decide) (fun K hK => ?_)
            rw [if_pos (by rfl)]
            refine wp_store_row 38 (.tmp 7) (.tmp 48) rfl g7 #[.int .u32 t.entry, .int .u32 t.exit, .slice A2 t.held.length c2, .int .u32 t.le, .int .u32 t.lx, .slice B2 t.live.length c2'] rfl rfl 38 #[.int .u32 0, .int .u32 0, .slice none 0 0, .int .u32 0, .int .u32 0, .slice none 0 0] G7.out size38 rfl (sec_one _ _ _ _ _ _ _ _ _ _) ?_
            have HB13 := Aside0.mk (below_setRow HB12.out HN.out.2.2.2.2 #[.int .u32 t.entry, .int .u32 t.exit, .slice A2 t.held.length c2, .int .u32 t.le, .int .u32 t.lx, .slice B2 t.live.length c2'])
            have J7 := Aside0.mk (setRow_heap _ g7 _ #[.int .u32 t.entry, .int .u32 t.exit, .slice A2 t.held.length c2, .int .u32 t.le, .int .u32 t.lx, .slice B2 t.live.length c2'] 38 (0, 0) G7.out)
            have J6 := Aside0.mk ((setRow_other (wj.setRow g6 #[.int .u32 s.entry, .int .u32 s.exit, .slice A1 s.held.length c1, .int .u32 s.le, .int .u32 s.lx, .slice B1 s.live.length c1']) g7 g6 #[.int .u32 t.entry, .int .u32 t.exit, .slice A2 t.held.length c2, .int .u32 t.le, .int .u32 t.lx, .slice B2 t.live.length c2'] HN.out.2.2.1).trans G6.out)
            refine hK.out _ _ HB13.out (fun hHeld => ?_)
            clear hK K
            refine norm_ (a' := ?_) ?_ ?_
            rotate_left
            · show Act.put _ (none) _ = _
              simp only [Act.put, List.setIfInBounds_toArray, List.set_cons_zero, List.set_cons_succ, i64_w, i32_w]
              rfl
            refine done_ (done_of HT_.out (by kernel_rfl)) ?_
            have hsx := six_cells J6.out
            have htx := six_cells J7.out
            obtain ⟨x0, x1, x2, x3, x4, x5⟩ := hsx
            obtain ⟨y0, y1, y2, y3, y4, y5⟩ := htx
            try clear hHeld
            go_wp2_with (first | fail)
            go_ret
            exact ⟨by rw [HXX.out]; first | rfl | (simp; done), by repeat (first | exact below_step HW2.out HB13.out | apply pw_below_drewN | apply below_drew1)⟩
        · have hne : s ≠ t := fun h => hc0 (by rw [h])
          have hx2 : eqB c.secs c'.secs = false := by rw [← hx]; exact eqB_false (fun h => hne (List.cons.inj h).1)
          have HXX := Aside0.mk hx2
          have f0 : (s.entry != t.entry) = true := bne_iff_ne.mpr hc0
          clear hx2 hne hc0
          clear hx hw q0 q1 q2 q3 q4 q5 p0 p1 p2 p3 p4 p5 r1 r2 r3 r4 t1 t2 t3 t4 i0 i1 ik hi hi' hs ht h100
          go_wp2
          refine start_any (n := 14) (S := fun w' => Below ((w.alloc (.cells (litC dg (.slice (some ad) c.secs.length a) (.slice B c.justs.length b)) 26)).alloc (.cells (litC dg' (.slice (some ad') c'.secs.length a') (.slice B' c'.justs.length b')) 26)).heap.size ((w.alloc (.cells (litC dg (.slice (some ad) c.secs.length a) (.slice B c.justs.length b)) 26)).alloc (.cells (litC dg' (.slice (some ad') c'.secs.length a') (.slice B' c'.justs.length b')) 26)) w') (ds := []) #[false, false, false, false, false, false, false, false, false, false, false, false, false, false] (by kernel_rfl) rfl rfl (below_drew1 HB.out) (fun wd hHeld => ?_); refine with_tabW rs.tab6 rs.bits6 (fun HT_ HW_ => ?_)
          have HBd := Aside0.mk hHeld
          refine pure_ (i := 0) (N := some 39) (v := ?_) (a' := ?_) #[true, false, false, false, false, false, false, false, false, false, false, false, false, false] rfl rfl (any_of HT_.out (by kernel_rfl)) (fun _ _ _ h => h) (Or.inl ⟨by rfl, ?_⟩) ?_ ?_
          rotate_left
          · intro w'
            go_simp
            with_reducible rfl
          rotate_left
          · simp only [Act.put, List.setIfInBounds_toArray, List.set_cons_zero, List.set_cons_succ, i64_w, i32_w]
            rfl
          refine take_ (i := 1) (N := some 40) (v := ?_) (a' := ?_) #[true, true, false, false, false, false, false, false, false, false, false, false, false, false] rfl rfl (take_ofW HT_.out HW_.out (by kernel_rfl)) (fun _ _ _ h => h) (Or.inl ⟨by rfl, ?_⟩) hHeld ?_ ?_
          rotate_left
          · intro w' hw'
            have hq := Q32.out w' hw'
            go_simp
            with_reducible rfl
          rotate_left
          · simp only [Act.put, List.setIfInBounds_toArray, List.set_cons_zero, List.set_cons_succ, i64_w, i32_w]
            rfl
          refine pure_ (i := 2) (N := some 41) (v := ?_) (a' := ?_) #[true, true, true, false, false, false, false, false, false, false, false, false, false, false] rfl rfl (any_of HT_.out (by kernel_rfl)) (fun _ _ _ h => h) (Or.inl ⟨by rfl, ?_⟩) ?_ ?_
          rotate_left
          · intro w'
            go_simp
            with_reducible rfl
          rotate_left
          · simp only [Act.put, List.setIfInBounds_toArray, List.set_cons_zero, List.set_cons_succ, i64_w, i32_w]
            rfl
          refine pure_ (i := 3) (N := some 42) (v := ?_) (a' := ?_) #[true, true, true, true, false, false, false, false, false, false, false, false, false, false] rfl rfl (any_of HT_.out (by kernel_rfl)) (fun _ _ _ h => h) (Or.inl ⟨by rfl, ?_⟩) ?_ ?_
          rotate_left
          · intro w'
            go_simp
            with_reducible rfl
          rotate_left
          · simp only [Act.put, List.setIfInBounds_toArray, List.set_cons_zero, List.set_cons_succ, i64_w, i32_w]
            rfl
          refine take_ (i := 4) (N := some 43) (v := ?_) (a' := ?_) #[true, true, true, true, true, false, false, false, false, false, false, false, false, false] rfl rfl (take_ofW HT_.out HW_.out (by kernel_rfl)) (fun _ _ _ h => h) (Or.inl ⟨by rfl, ?_⟩) hHeld ?_ ?_
          rotate_left
          · intro w' hw'
            have hq0 := K0.out w' hw'
            have hq1 := K1.out w' hw'
            have hq2 := K2.out w' hw'
            have hq3 := K3.out w' hw'
            have hq4 := K4.out w' hw'
            have hq5 := K5.out w' hw'
            go_simp
            with_reducible rfl
          rotate_left
          · simp only [Act.put, List.setIfInBounds_toArray, List.set_cons_zero, List.set_cons_succ, i64_w, i32_w]
            rfl
          refine pure_ (i := 5) (N := some 44) (v := ?_) (a' := ?_) #[true, true, true, true, true, true, false, false, false, false, false, false, false, false] rfl rfl (any_of HT_.out (by kernel_rfl)) (fun _ _ _ h => h) (Or.inl ⟨by rfl, ?_⟩) ?_ ?_
          rotate_left
          · intro w'
            go_simp
            with_reducible rfl
          rotate_left
          · simp only [Act.put, List.setIfInBounds_toArray, List.set_cons_zero, List.set_cons_succ, i64_w, i32_w]
            rfl
          refine take_ (i := 6) (N := some 45) (v := ?_) (a' := ?_) #[true, true, true, true, true, true, true, false, false, false, false, false, false, false] rfl rfl (take_ofW HT_.out HW_.out (by kernel_rfl)) (fun _ _ _ h => h) (Or.inl ⟨by rfl, ?_⟩) hHeld ?_ ?_
          rotate_left
          · intro w' hw'
            have hq := P32.out w' hw'
            go_simp
            with_reducible rfl
          rotate_left
          · simp only [Act.put, List.setIfInBounds_toArray, List.set_cons_zero, List.set_cons_succ, i64_w, i32_w]
            rfl
          refine pure_ (i := 7) (N := some 46) (v := ?_) (a' := ?_) #[true, true, true, true, true, true, true, true, false, false, false, false, false, false] rfl rfl (any_of HT_.out (by kernel_rfl)) (fun _ _ _ h => h) (Or.inl ⟨by rfl, ?_⟩) ?_ ?_
          rotate_left
          · intro w'
            go_simp
            with_reducible rfl
          rotate_left
          · simp only [Act.put, List.setIfInBounds_toArray, List.set_cons_zero, List.set_cons_succ, i64_w, i32_w]
            rfl
          refine pure_ (i := 8) (N := some 47) (v := ?_) (a' := ?_) #[true, true, true, true, true, true, true, true, true, false, false, false, false, false] rfl rfl (any_of HT_.out (by kernel_rfl)) (fun _ _ _ h => h) (Or.inl ⟨by rfl, ?_⟩) ?_ ?_
          rotate_left
          · intro w'
            go_simp
            with_reducible rfl
          rotate_left
          · simp only [Act.put, List.setIfInBounds_toArray, List.set_cons_zero, List.set_cons_succ, i64_w, i32_w]
            rfl
          refine take_ (i := 9) (N := some 48) (v := ?_) (a' := ?_) #[true, true, true, true, true, true, true, true, true, true, false, false, false, false] rfl rfl (take_ofW HT_.out HW_.out (by kernel_rfl)) (fun _ _ _ h => h) (Or.inl ⟨by rfl, ?_⟩) hHeld ?_ ?_
          rotate_left
          · intro w' hw'
            have hq0 := M0.out w' hw'
            have hq1 := M1.out w' hw'
            have hq2 := M2.out w' hw'
            have hq3 := M3.out w' hw'
            have hq4 := M4.out w' hw'
            have hq5 := M5.out w' hw'
            go_simp
            with_reducible rfl
          rotate_left
          · simp only [Act.put, List.setIfInBounds_toArray, List.set_cons_zero, List.set_cons_succ, i64_w, i32_w]
            rfl
          refine join_ (σ := Nat × Nat) 2 #[true, true, true, true, true, true, true, true, true, true, true, true, false, false] (fun s => [(6, .pointer (some ⟨s.1, 0, none⟩)), (7, .pointer (some ⟨s.2, 0, none⟩))]) (fun s w' => Aside0 (w'.heap[s.1]? = some (.cells #[.int .u32 0, .int .u32 0, .slice none 0 0, .int .u32 0, .int .u32 0, .slice none 0 0] 38) ∧ w'.heap[s.2]? = some (.cells #[.int .u32 0, .int .u32 0, .slice none 0 0, .int .u32 0, .int .u32 0, .slice none 0 0] 38) ∧ s.1 ≠ s.2 ∧ ((w.alloc (.cells (litC dg (.slice (some ad) c.secs.length a) (.slice B c.justs.length b)) 26)).alloc (.cells (litC dg' (.slice (some ad') c'.secs.length a') (.slice B' c'.justs.length b')) 26)).heap.size ≤ s.1 ∧ ((w.alloc (.cells (litC dg (.slice (some ad) c.secs.length a) (.slice B c.justs.length b)) 26)).alloc (.cells (litC dg' (.slice (some ad') c'.secs.length a') (.slice B' c'.justs.length b')) 26)).heap.size ≤ s.2) ∧ Aside0 (Below ((w.alloc (.cells (litC dg (.slice (some ad) c.secs.length a) (.slice B c.justs.length b)) 26)).alloc (.cells (litC dg' (.slice (some ad') c'.secs.length a') (.slice B' c'.justs.length b')) 26)).heap.size ((w.alloc (.cells (litC dg (.slice (some ad) c.secs.length a) (.slice B c.justs.length b)) 26)).alloc (.cells (litC dg' (.slice (some ad') c'.secs.length a') (.slice B' c'.justs.length b')) 26)) w')) (fun s0_ wj HF => ?_) (fun hcont => ?_)
          rotate_left
          · refine two_ (i := 10) (j := 11) (Ni := some 6) (Nj := some 7) #[true, true, true, true, true, true, true, true, true, true, true, false, false, false] #[true, true, true, true, true, true, true, true, true, true, false, true, false, false] rfl rfl rfl rfl (two_of HT_.out (by kernel_rfl)) (by decide) (by decide) (fun K hK => ?_) (fun K hK => ?_)
            · refine value_ (w1 := ?_) (v := ?_) (by rfl) rfl ?_ ?_
              rotate_left 2
              · go_simp
                constructor
                · rfl
                · rfl
              have n_ := below_alloc HBd.out (.cells #[.int .u32 0, .int .u32 0, .slice none 0 0, .int .u32 0, .int .u32 0, .slice none 0 0] 38)
              refine hK.out _ _ n_ (fun hHeld => ?_)
              clear hK K
              refine norm_ (a' := ?_) ?_ ?_
              rotate_left
              · show Act.put _ (some 6) _ = _
                simp only [Act.put, List.setIfInBounds_toArray, List.set_cons_zero, List.set_cons_succ, i64_w, i32_w]
                rfl
              refine one_ (i := 11) (N := some 7) #[true, true, true, true, true, true, true, true, true, true, true, true, false, false] rfl rfl (one_of HT_.out (by kernel_rfl)) (by decide) (fun K hK => ?_)
              refine value_ (w1 := ?_) (v := ?_) (by rfl) rfl ?_ ?_
              rotate_left 2
              · go_simp
                constructor
                · rfl
                · rfl
              have n2_ := below_alloc n_ (.cells #[.int .u32 0, .int .u32 0, .slice none 0 0, .int .u32 0, .int .u32 0, .slice none 0 0] 38)
              refine hK.out _ _ n2_ (fun hHeld => ?_)
              clear hK K
              refine norm_ (a' := ?_) ?_ ?_
              rotate_left
              · show Act.put _ (some 7) _ = _
                simp only [Act.put, List.setIfInBounds_toArray, List.set_cons_zero, List.set_cons_succ, i64_w, i32_w]
                rfl
              exact hcont (_, _) _ ⟨⟨two_allocs HBd.out⟩, ⟨n2_⟩⟩
            · refine value_ (w1 := ?_) (v := ?_) (by rfl) rfl ?_ ?_
              rotate_left 2
              · go_simp
                constructor
                · rfl
                · rfl
              have n_ := below_alloc HBd.out (.cells #[.int .u32 0, .int .u32 0, .slice none 0 0, .int .u32 0, .int .u32 0, .slice none 0 0] 38)
              refine hK.out _ _ n_ (fun hHeld => ?_)
              clear hK K
              refine norm_ (a' := ?_) ?_ ?_
              rotate_left
              · show Act.put _ (some 7) _ = _
                simp only [Act.put, List.setIfInBounds_toArray, List.set_cons_zero, List.set_cons_succ, i64_w, i32_w]
                rfl
              refine one_ (i := 10) (N := some 6) #[true, true, true, true, true, true, true, true, true, true, true, true, false, false] rfl rfl (one_of HT_.out (by kernel_rfl)) (by decide) (fun K hK => ?_)
              refine value_ (w1 := ?_) (v := ?_) (by rfl) rfl ?_ ?_
              rotate_left 2
              · go_simp
                constructor
                · rfl
                · rfl
              have n2_ := below_alloc n_ (.cells #[.int .u32 0, .int .u32 0, .slice none 0 0, .int .u32 0, .int .u32 0, .slice none 0 0] 38)
              refine hK.out _ _ n2_ (fun hHeld => ?_)
              clear hK K
              refine norm_ (a' := ?_) ?_ ?_
              rotate_left
              · show Act.put _ (some 6) _ = _
                simp only [Act.put, List.setIfInBounds_toArray, List.set_cons_zero, List.set_cons_succ, i64_w, i32_w]
                rfl
              exact hcont (_, _) _ ⟨⟨two_allocs' HBd.out⟩, ⟨n2_⟩⟩
          obtain ⟨g6, g7⟩ := s0_
          obtain ⟨HN, HB6⟩ := HF
          refine norm_ (a' := ?_) ?_ ?_
          rotate_left
          · simp only [putAll, Act.put, List.setIfInBounds_toArray, List.set_cons_zero, List.set_cons_succ, i64_w, i32_w]
            rfl
          refine one_ (i := 12) (N := none) #[true, true, true, true, true, true, true, true, true, true, true, true, true, false] rfl rfl (one_of HT_.out (by kernel_rfl)) (by decide) (fun K hK => ?_)
          rw [if_pos (by rfl)]
          refine wp_store_row 38 (.tmp 6) (.tmp 43) rfl g6 #[.int .u32 s.entry, .int .u32 s.exit, .slice A1 s.held.length c1, .int .u32 s.le, .int .u32 s.lx, .slice B1 s.live.length c1'] rfl rfl 38 #[.int .u32 0, .int .u32 0, .slice none 0 0, .int .u32 0, .int .u32 0, .slice none 0 0] HN.out.1 size38 rfl (sec_one _ _ _ _ _ _ _ _ _ _) ?_
          have HB12 := Aside0.mk (below_setRow HB6.out HN.out.2.2.2.1 #[.int .u32 s.entry, .int .u32 s.exit, .slice A1 s.held.length c1, .int .u32 s.le, .int .u32 s.lx, .slice B1 s.live.length c1'])
          have G6 := Aside0.mk (setRow_heap wj g6 _ #[.int .u32 s.entry, .int .u32 s.exit, .slice A1 s.held.length c1, .int .u32 s.le, .int .u32 s.lx, .slice B1 s.live.length c1'] 38 (0, 0) HN.out.1)
          have G7 := Aside0.mk ((setRow_other wj g6 g7 #[.int .u32 s.entry, .int .u32 s.exit, .slice A1 s.held.length c1, .int .u32 s.le, .int .u32 s.lx, .slice B1 s.live.length c1'] (Ne.symm HN.out.2.2.1)).trans HN.out.2.1)
          refine hK.out _ _ HB12.out (fun hHeld => ?_)
          clear hK K
          refine norm_ (a' := ?_) ?_ ?_
          rotate_left
          · show Act.put _ (none) _ = _
            simp only [Act.put, List.setIfInBounds_toArray, List.set_cons_zero, List.set_cons_succ, i64_w, i32_w]
            rfl
          refine one_ (i := 13) (N := none) #[true, true, true, true, true, true, true, true, true, true, true, true, true, true] rfl rfl (one_of HT_.out (by kernel_rfl)) (by decide) (fun K hK => ?_)
          rw [if_pos (by rfl)]
          refine wp_store_row 38 (.tmp 7) (.tmp 48) rfl g7 #[.int .u32 t.entry, .int .u32 t.exit, .slice A2 t.held.length c2, .int .u32 t.le, .int .u32 t.lx, .slice B2 t.live.length c2'] rfl rfl 38 #[.int .u32 0, .int .u32 0, .slice none 0 0, .int .u32 0, .int .u32 0, .slice none 0 0] G7.out size38 rfl (sec_one _ _ _ _ _ _ _ _ _ _) ?_
          have HB13 := Aside0.mk (below_setRow HB12.out HN.out.2.2.2.2 #[.int .u32 t.entry, .int .u32 t.exit, .slice A2 t.held.length c2, .int .u32 t.le, .int .u32 t.lx, .slice B2 t.live.length c2'])
          have J7 := Aside0.mk (setRow_heap _ g7 _ #[.int .u32 t.entry, .int .u32 t.exit, .slice A2 t.held.length c2, .int .u32 t.le, .int .u32 t.lx, .slice B2 t.live.length c2'] 38 (0, 0) G7.out)
          have J6 := Aside0.mk ((setRow_other (wj.setRow g6 #[.int .u32 s.entry, .int .u32 s.exit, .slice A1 s.held.length c1, .int .u32 s.le, .int .u32 s.lx, .slice B1 s.live.length c1']) g7 g6 #[.int .u32 t.entry, .int .u32 t.exit, .slice A2 t.held.length c2, .int .u32 t.le, .int .u32 t.lx, .slice B2 t.live.length c2'] HN.out.2.2.1).trans G6.out)
          refine hK.out _ _ HB13.out (fun hHeld => ?_)
          clear hK K
          refine norm_ (a' := ?_) ?_ ?_
          rotate_left
          · show Act.put _ (none) _ = _
            simp only [Act.put, List.setIfInBounds_toArray, List.set_cons_zero, List.set_cons_succ, i64_w, i32_w]
            rfl
          refine done_ (done_of HT_.out (by kernel_rfl)) ?_
          have hsx := six_cells J6.out
          have htx := six_cells J7.out
          obtain ⟨x0, x1, x2, x3, x4, x5⟩ := hsx
          obtain ⟨y0, y1, y2, y3, y4, y5⟩ := htx
          try clear hHeld
          go_wp2_with (first | fail)
          go_ret
          exact ⟨by rw [HXX.out]; first | rfl | (simp; done), by repeat (first | exact below_step HW2.out HB13.out | apply pw_below_drewN | apply below_drew1)⟩
      · have ei : i = c.secs.length := by omega
        have hx0 : eqB c.secs c'.secs = true := by
          rw [← hx, ei]
          have e1 : c'.secs.drop (c.secs.length : Int).toNat = [] := List.drop_eq_nil_of_le (by have := HL.out.1; omega)
          have e2 : c.secs.drop (c.secs.length : Int).toNat = [] := List.drop_eq_nil_of_le (by omega)
          rw [e1, e2]; exact eqB_self _
        have HXS := Aside0.mk hx0
        have c1d : decide (i < (c.secs.length : Int)) = false := decide_eq_false hi
        clear hx ei hi i0 i1 ik hx0 HI
        have zu2 := Q33.out _ HB.out
        go_wp2
        go_loopg [8] (c.justs.length + 1) (fun kq v8 w' => ∃ j : Int, v8 = .int .i64 j ∧ Aside0 (0 ≤ j ∧ j ≤ c.justs.length ∧ c.justs.length - j < kq ∧ eqB (c.justs.drop j.toNat) (c'.justs.drop j.toNat) = eqB c.justs c'.justs) ∧ Aside0 (Below ((w.alloc (.cells (litC dg (.slice A c.secs.length a) (.slice B c.justs.length b)) 26)).alloc (.cells (litC dg' (.slice A' c'.secs.length a') (.slice B' c'.justs.length b')) 26)).heap.size ((w.alloc (.cells (litC dg (.slice A c.secs.length a) (.slice B c.justs.length b)) 26)).alloc (.cells (litC dg' (.slice A' c'.secs.length a') (.slice B' c'.justs.length b')) 26)) w'))
        case atStart => exact ⟨0, rfl, ⟨by omega, by omega, by omega, rfl⟩, HB⟩
        case round =>
          clear zu1 zu2 HB
          obtain ⟨j, rfl, HI, HB⟩ := hrel
          cases gk with
          | zero => exact absurd HI.out (by omega)
          | succ k3 =>
            obtain ⟨j0, j1, jk, hx⟩ := HI.out
            have zu2 := Q33.out _ HB.out
            by_cases hj : j < c.justs.length
            · have hj' : j < c'.justs.length := by have := HL.out.2; omega
              rw [drop_rdJ c.justs j j0 hj, drop_rdJ c'.justs j j0 hj'] at hx
              obtain ⟨ad, e133, q0, q1⟩ := at_T40 HV.out.hB j j0 hj
              cases e133
              obtain ⟨ad', e134, p0, p1⟩ := at_T40 HV'.out.hB j j0 hj'
              cases e134
              have c1j : decide (j < (c.justs.length : Int)) = true := decide_eq_true hj
              have s1 := eq_true j0
              have s2 := eq_true hj
              have s3 := eq_true hj'
              have hw : wrap64 (j + 1) = j + 1 := by have := HJ40.out; unfold wrap64; omega
              have HW := Aside0.mk hw
              obtain ⟨s, hs⟩ : ∃ s, s = rd_T40 c.justs j := ⟨_, rfl⟩
              obtain ⟨t, ht⟩ : ∃ t, t = rd_T40 c'.justs j := ⟨_, rfl⟩
              rw [← hs] at q0 q1 hx
              rw [← ht] at p0 p1 hx
              have hjq := fun W => eq40 s.f0 s.f1 t.f0 t.f1 W
              have K0 := Aside0.mk (fun w' (hb : Below ((w.alloc (.cells (litC dg (.slice A c.secs.length a) (.slice (some ad) c.justs.length b)) 26)).alloc (.cells (litC dg' (.slice A' c'.secs.length a') (.slice (some ad') c'.justs.length b')) 26)).heap.size ((w.alloc (.cells (litC dg (.slice A c.secs.length a) (.slice (some ad) c.justs.length b)) 26)).alloc (.cells (litC dg' (.slice A' c'.secs.length a') (.slice (some ad') c'.justs.length b')) 26)) w') => ((below_step HW2.out hb).cell (World.block_lt_of_cell? w _ q0)).trans q0)
              have K1 := Aside0.mk (fun w' (hb : Below ((w.alloc (.cells (litC dg (.slice A c.secs.length a) (.slice (some ad) c.justs.length b)) 26)).alloc (.cells (litC dg' (.slice A' c'.secs.length a') (.slice (some ad') c'.justs.length b')) 26)).heap.size ((w.alloc (.cells (litC dg (.slice A c.secs.length a) (.slice (some ad) c.justs.length b)) 26)).alloc (.cells (litC dg' (.slice A' c'.secs.length a') (.slice (some ad') c'.justs.length b')) 26)) w') => ((below_step HW2.out hb).cell (World.block_lt_of_cell? w _ q1)).trans q1)
              have M0 := Aside0.mk (fun w' (hb : Below ((w.alloc (.cells (litC dg (.slice A c.secs.length a) (.slice (some ad) c.justs.length b)) 26)).alloc (.cells (litC dg' (.slice A' c'.secs.length a') (.slice (some ad') c'.justs.length b')) 26)).heap.size ((w.alloc (.cells (litC dg (.slice A c.secs.length a) (.slice (some ad) c.justs.length b)) 26)).alloc (.cells (litC dg' (.slice A' c'.secs.length a') (.slice (some ad') c'.justs.length b')) 26)) w') => ((below_step HW2.out hb).cell (World.block_lt_of_cell? w _ p0)).trans p0)
              have M1 := Aside0.mk (fun w' (hb : Below ((w.alloc (.cells (litC dg (.slice A c.secs.length a) (.slice (some ad) c.justs.length b)) 26)).alloc (.cells (litC dg' (.slice A' c'.secs.length a') (.slice (some ad') c'.justs.length b')) 26)).heap.size ((w.alloc (.cells (litC dg (.slice A c.secs.length a) (.slice (some ad) c.justs.length b)) 26)).alloc (.cells (litC dg' (.slice A' c'.secs.length a') (.slice (some ad') c'.justs.length b')) 26)) w') => ((below_step HW2.out hb).cell (World.block_lt_of_cell? w _ p1)).trans p1)
              by_cases hst : s = t
              · have hx2 : eqB (c.justs.drop (j + 1).toNat) (c'.justs.drop (j + 1).toNat) = eqB c.justs c'.justs := by
                  rw [← hx]; exact eqB_congr (by rw [List.cons.injEq]; exact ⟨fun h => ⟨hst, h⟩, fun h => h.2⟩)
                have HXX := Aside0.mk hx2
                have hb1 : (s.f0 == t.f0 && s.f1 == t.f1) = true := by rw [hst]; simp
                rw [hb1] at hjq
                clear hx hx2 hst hw q0 q1 p0 p1 j0 j1 jk hj hj' hs ht hb1
                go_wp2
                refine start_any (n := 11) (S := fun w' => Below ((w.alloc (.cells (litC dg (.slice A c.secs.length a) (.slice (some ad) c.justs.length b)) 26)).alloc (.cells (litC dg' (.slice A' c'.secs.length a') (.slice (some ad') c'.justs.length b')) 26)).heap.size ((w.alloc (.cells (litC dg (.slice A c.secs.length a) (.slice (some ad) c.justs.length b)) 26)).alloc (.cells (litC dg' (.slice A' c'.secs.length a') (.slice (some ad') c'.justs.length b')) 26)) w') (ds := []) #[false, false, false, false, false, false, false, false, false, false, false] (by kernel_rfl) rfl rfl (below_drew1 HB.out) (fun wd hHeld => ?_); refine with_tabW rs.tab12 rs.bits12 (fun HT_ HW_ => ?_)
                refine pure_ (i := 0) (N := some 98) (v := ?_) (a' := ?_) #[true, false, false, false, false, false, false, false, false, false, false] rfl rfl (any_of HT_.out (by kernel_rfl)) (fun _ _ _ h => h) (Or.inl ⟨by rfl, ?_⟩) ?_ ?_
                rotate_left
                · intro w'
                  go_simp
                  with_reducible rfl
                rotate_left
                · simp only [Act.put, List.setIfInBounds_toArray, List.set_cons_zero, List.set_cons_succ, i64_w, i32_w]
                  rfl
                refine take_ (i := 1) (N := some 99) (v := ?_) (a' := ?_) #[true, true, false, false, false, false, false, false, false, false, false] rfl rfl (take_ofW HT_.out HW_.out (by kernel_rfl)) (fun _ _ _ h => h) (Or.inl ⟨by rfl, ?_⟩) hHeld ?_ ?_
                rotate_left
                · intro w' hw'
                  have hq := Q33.out w' hw'
                  go_simp
                  with_reducible rfl
                rotate_left
                · simp only [Act.put, List.setIfInBounds_toArray, List.set_cons_zero, List.set_cons_succ, i64_w, i32_w]
                  rfl
                refine pure_ (i := 2) (N := some 100) (v := ?_) (a' := ?_) #[true, true, true, false, false, false, false, false, false, false, false] rfl rfl (any_of HT_.out (by kernel_rfl)) (fun _ _ _ h => h) (Or.inl ⟨by rfl, ?_⟩) ?_ ?_
                rotate_left
                · intro w'
                  go_simp
                  with_reducible rfl
                rotate_left
                · simp only [Act.put, List.setIfInBounds_toArray, List.set_cons_zero, List.set_cons_succ, i64_w, i32_w]
                  rfl
                refine pure_ (i := 3) (N := some 101) (v := ?_) (a' := ?_) #[true, true, true, true, false, false, false, false, false, false, false] rfl rfl (any_of HT_.out (by kernel_rfl)) (fun _ _ _ h => h) (Or.inl ⟨by rfl, ?_⟩) ?_ ?_
                rotate_left
                · intro w'
                  go_simp
                  with_reducible rfl
                rotate_left
                · simp only [Act.put, List.setIfInBounds_toArray, List.set_cons_zero, List.set_cons_succ, i64_w, i32_w]
                  rfl
                refine take_ (i := 4) (N := some 102) (v := ?_) (a' := ?_) #[true, true, true, true, true, false, false, false, false, false, false] rfl rfl (take_ofW HT_.out HW_.out (by kernel_rfl)) (fun _ _ _ h => h) (Or.inl ⟨by rfl, ?_⟩) hHeld ?_ ?_
                rotate_left
                · intro w' hw'
                  have hq0 := K0.out w' hw'
                  have hq1 := K1.out w' hw'
                  go_simp
                  with_reducible rfl
                rotate_left
                · simp only [Act.put, List.setIfInBounds_toArray, List.set_cons_zero, List.set_cons_succ, i64_w, i32_w]
                  rfl
                refine pure_ (i := 5) (N := some 103) (v := ?_) (a' := ?_) #[true, true, true, true, true, true, false, false, false, false, false] rfl rfl (any_of HT_.out (by kernel_rfl)) (fun _ _ _ h => h) (Or.inl ⟨by rfl, ?_⟩) ?_ ?_
                rotate_left
                · intro w'
                  go_simp
                  with_reducible rfl
                rotate_left
                · simp only [Act.put, List.setIfInBounds_toArray, List.set_cons_zero, List.set_cons_succ, i64_w, i32_w]
                  rfl
                refine take_ (i := 6) (N := some 104) (v := ?_) (a' := ?_) #[true, true, true, true, true, true, true, false, false, false, false] rfl rfl (take_ofW HT_.out HW_.out (by kernel_rfl)) (fun _ _ _ h => h) (Or.inl ⟨by rfl, ?_⟩) hHeld ?_ ?_
                rotate_left
                · intro w' hw'
                  have hq := P33.out w' hw'
                  go_simp
                  with_reducible rfl
                rotate_left
                · simp only [Act.put, List.setIfInBounds_toArray, List.set_cons_zero, List.set_cons_succ, i64_w, i32_w]
                  rfl
                refine pure_ (i := 7) (N := some 105) (v := ?_) (a' := ?_) #[true, true, true, true, true, true, true, true, false, false, false] rfl rfl (any_of HT_.out (by kernel_rfl)) (fun _ _ _ h => h) (Or.inl ⟨by rfl, ?_⟩) ?_ ?_
                rotate_left
                · intro w'
                  go_simp
                  with_reducible rfl
                rotate_left
                · simp only [Act.put, List.setIfInBounds_toArray, List.set_cons_zero, List.set_cons_succ, i64_w, i32_w]
                  rfl
                refine pure_ (i := 8) (N := some 106) (v := ?_) (a' := ?_) #[true, true, true, true, true, true, true, true, true, false, false] rfl rfl (any_of HT_.out (by kernel_rfl)) (fun _ _ _ h => h) (Or.inl ⟨by rfl, ?_⟩) ?_ ?_
                rotate_left
                · intro w'
                  go_simp
                  with_reducible rfl
                rotate_left
                · simp only [Act.put, List.setIfInBounds_toArray, List.set_cons_zero, List.set_cons_succ, i64_w, i32_w]
                  rfl
                refine take_ (i := 9) (N := some 107) (v := ?_) (a' := ?_) #[true, true, true, true, true, true, true, true, true, true, false] rfl rfl (take_ofW HT_.out HW_.out (by kernel_rfl)) (fun _ _ _ h => h) (Or.inl ⟨by rfl, ?_⟩) hHeld ?_ ?_
                rotate_left
                · intro w' hw'
                  have hq0 := M0.out w' hw'
                  have hq1 := M1.out w' hw'
                  go_simp
                  with_reducible rfl
                rotate_left
                · simp only [Act.put, List.setIfInBounds_toArray, List.set_cons_zero, List.set_cons_succ, i64_w, i32_w]
                  rfl
                refine pure_ (i := 10) (N := some 108) (v := ?_) (a' := ?_) #[true, true, true, true, true, true, true, true, true, true, true] rfl rfl (any_of HT_.out (by kernel_rfl)) (fun _ _ _ h => h) (Or.inl ⟨by rfl, ?_⟩) ?_ ?_
                rotate_left
                · intro w'
                  go_simp
                  with_reducible rfl
                rotate_left
                · simp only [Act.put, List.setIfInBounds_toArray, List.set_cons_zero, List.set_cons_succ, i64_w, i32_w]
                  rfl
                refine done_ (done_of HT_.out (by kernel_rfl)) ?_
                go_wp2
                go_roundg k3
                case measure => omega
                case rel => exact ⟨j + 1, (by rw [HW.out]), ⟨by have := HI.out; omega, by have := HI.out; have := of_eq_true s2; omega, by have := HI.out; omega, HXX.out⟩, ⟨hHeld⟩⟩
              · have hx2 : eqB c.justs c'.justs = false := by rw [← hx]; exact eqB_false (fun h => hst (List.cons.inj h).1)
                have HXX := Aside0.mk hx2
                have hb1 : (s.f0 == t.f0 && s.f1 == t.f1) = false := by
                  cases hq : (s.f0 == t.f0 && s.f1 == t.f1) with
                  | false => rfl
                  | true =>
                    simp at hq
                    exact absurd (by cases s; cases t; simp only at hq; rw [hq.1, hq.2]) hst
                rw [hb1] at hjq
                clear hx hx2 hst hw q0 q1 p0 p1 j0 j1 jk hj hj' hs ht hb1
                go_wp2
                refine start_any (n := 11) (S := fun w' => Below ((w.alloc (.cells (litC dg (.slice A c.secs.length a) (.slice (some ad) c.justs.length b)) 26)).alloc (.cells (litC dg' (.slice A' c'.secs.length a') (.slice (some ad') c'.justs.length b')) 26)).heap.size ((w.alloc (.cells (litC dg (.slice A c.secs.length a) (.slice (some ad) c.justs.length b)) 26)).alloc (.cells (litC dg' (.slice A' c'.secs.length a') (.slice (some ad') c'.justs.length b')) 26)) w') (ds := []) #[false, false, false, false, false, false, false, false, false, false, false] (by kernel_rfl) rfl rfl (below_drew1 HB.out) (fun wd hHeld => ?_); refine with_tabW rs.tab12 rs.bits12 (fun HT_ HW_ => ?_)
                refine pure_ (i := 0) (N := some 98) (v := ?_) (a' := ?_) #[true, false, false, false, false, false, false, false, false, false, false] rfl rfl (any_of HT_.out (by kernel_rfl)) (fun _ _ _ h => h) (Or.inl ⟨by rfl, ?_⟩) ?_ ?_
                rotate_left
                · intro w'
                  go_simp
                  with_reducible rfl
                rotate_left
                · simp only [Act.put, List.setIfInBounds_toArray, List.set_cons_zero, List.set_cons_succ, i64_w, i32_w]
                  rfl
                refine take_ (i := 1) (N := some 99) (v := ?_) (a' := ?_) #[true, true, false, false, false, false, false, false, false, false, false] rfl rfl (take_ofW HT_.out HW_.out (by kernel_rfl)) (fun _ _ _ h => h) (Or.inl ⟨by rfl, ?_⟩) hHeld ?_ ?_
                rotate_left
                · intro w' hw'
                  have hq := Q33.out w' hw'
                  go_simp
                  with_reducible rfl
                rotate_left
                · simp only [Act.put, List.setIfInBounds_toArray, List.set_cons_zero, List.set_cons_succ, i64_w, i32_w]
                  rfl
                refine pure_ (i := 2) (N := some 100) (v := ?_) (a' := ?_) #[true, true, true, false, false, false, false, false, false, false, false] rfl rfl (any_of HT_.out (by kernel_rfl)) (fun _ _ _ h => h) (Or.inl ⟨by rfl, ?_⟩) ?_ ?_
                rotate_left
                · intro w'
                  go_simp
                  with_reducible rfl
                rotate_left
                · simp only [Act.put, List.setIfInBounds_toArray, List.set_cons_zero, List.set_cons_succ, i64_w, i32_w]
                  rfl
                refine pure_ (i := 3) (N := some 101) (v := ?_) (a' := ?_) #[true, true, true, true, false, false, false, false, false, false, false] rfl rfl (any_of HT_.out (by kernel_rfl)) (fun _ _ _ h => h) (Or.inl ⟨by rfl, ?_⟩) ?_ ?_
                rotate_left
                · intro w'
                  go_simp
                  with_reducible rfl
                rotate_left
                · simp only [Act.put, List.setIfInBounds_toArray, List.set_cons_zero, List.set_cons_succ, i64_w, i32_w]
                  rfl
                refine take_ (i := 4) (N := some 102) (v := ?_) (a' := ?_) #[true, true, true, true, true, false, false, false, false, false, false] rfl rfl (take_ofW HT_.out HW_.out (by kernel_rfl)) (fun _ _ _ h => h) (Or.inl ⟨by rfl, ?_⟩) hHeld ?_ ?_
                rotate_left
                · intro w' hw'
                  have hq0 := K0.out w' hw'
                  have hq1 := K1.out w' hw'
                  go_simp
                  with_reducible rfl
                rotate_left
                · simp only [Act.put, List.setIfInBounds_toArray, List.set_cons_zero, List.set_cons_succ, i64_w, i32_w]
                  rfl
                refine pure_ (i := 5) (N := some 103) (v := ?_) (a' := ?_) #[true, true, true, true, true, true, false, false, false, false, false] rfl rfl (any_of HT_.out (by kernel_rfl)) (fun _ _ _ h => h) (Or.inl ⟨by rfl, ?_⟩) ?_ ?_
                rotate_left
                · intro w'
                  go_simp
                  with_reducible rfl
                rotate_left
                · simp only [Act.put, List.setIfInBounds_toArray, List.set_cons_zero, List.set_cons_succ, i64_w, i32_w]
                  rfl
                refine take_ (i := 6) (N := some 104) (v := ?_) (a' := ?_) #[true, true, true, true, true, true, true, false, false, false, false] rfl rfl (take_ofW HT_.out HW_.out (by kernel_rfl)) (fun _ _ _ h => h) (Or.inl ⟨by rfl, ?_⟩) hHeld ?_ ?_
                rotate_left
                · intro w' hw'
                  have hq := P33.out w' hw'
                  go_simp
                  with_reducible rfl
                rotate_left
                · simp only [Act.put, List.setIfInBounds_toArray, List.set_cons_zero, List.set_cons_succ, i64_w, i32_w]
                  rfl
                refine pure_ (i := 7) (N := some 105) (v := ?_) (a' := ?_) #[true, true, true, true, true, true, true, true, false, false, false] rfl rfl (any_of HT_.out (by kernel_rfl)) (fun _ _ _ h => h) (Or.inl ⟨by rfl, ?_⟩) ?_ ?_
                rotate_left
                · intro w'
                  go_simp
                  with_reducible rfl
                rotate_left
                · simp only [Act.put, List.setIfInBounds_toArray, List.set_cons_zero, List.set_cons_succ, i64_w, i32_w]
                  rfl
                refine pure_ (i := 8) (N := some 106) (v := ?_) (a' := ?_) #[true, true, true, true, true, true, true, true, true, false, false] rfl rfl (any_of HT_.out (by kernel_rfl)) (fun _ _ _ h => h) (Or.inl ⟨by rfl, ?_⟩) ?_ ?_
                rotate_left
                · intro w'
                  go_simp
                  with_reducible rfl
                rotate_left
                · simp only [Act.put, List.setIfInBounds_toArray, List.set_cons_zero, List.set_cons_succ, i64_w, i32_w]
                  rfl
                refine take_ (i := 9) (N := some 107) (v := ?_) (a' := ?_) #[true, true, true, true, true, true, true, true, true, true, false] rfl rfl (take_ofW HT_.out HW_.out (by kernel_rfl)) (fun _ _ _ h => h) (Or.inl ⟨by rfl, ?_⟩) hHeld ?_ ?_
                rotate_left
                · intro w' hw'
                  have hq0 := M0.out w' hw'
                  have hq1 := M1.out w' hw'
                  go_simp
                  with_reducible rfl
                rotate_left
                · simp only [Act.put, List.setIfInBounds_toArray, List.set_cons_zero, List.set_cons_succ, i64_w, i32_w]
                  rfl
                refine pure_ (i := 10) (N := some 108) (v := ?_) (a' := ?_) #[true, true, true, true, true, true, true, true, true, true, true] rfl rfl (any_of HT_.out (by kernel_rfl)) (fun _ _ _ h => h) (Or.inl ⟨by rfl, ?_⟩) ?_ ?_
                rotate_left
                · intro w'
                  go_simp
                  with_reducible rfl
                rotate_left
                · simp only [Act.put, List.setIfInBounds_toArray, List.set_cons_zero, List.set_cons_succ, i64_w, i32_w]
                  rfl
                refine done_ (done_of HT_.out (by kernel_rfl)) ?_
                go_wp2
                go_ret
                exact ⟨by rw [HXX.out]; first | rfl | (simp; done), below_step HW2.out hHeld⟩
            · have ej : j = c.justs.length := by omega
              have hx0 : eqB c.justs c'.justs = true := by
                rw [← hx, ej]
                have e1 : c'.justs.drop (c.justs.length : Int).toNat = [] := List.drop_eq_nil_of_le (by have := HL.out.2; omega)
                have e2 : c.justs.drop (c.justs.length : Int).toNat = [] := List.drop_eq_nil_of_le (by omega)
                rw [e1, e2]; exact eqB_self _
              have HXX := Aside0.mk hx0
              have c1j : decide (j < (c.justs.length : Int)) = false := decide_eq_false hj
              clear hx ej hj j0 j1 jk hx0 HI
              go_wp2
              go_ret
              exact ⟨by rw [HXS.out, HXX.out]; first | rfl | (simp; done), below_step HW2.out HB.out⟩

theorem rsame_any (c c' : Crt) (dg dg' : Nat → Int) (A B A' B' : Option Addr) (a b a' b' : Nat) (w : World) (h : CrtVal w c (litC dg (.slice A c.secs.length a) (.slice B c.justs.length b)) A a B b) (h' : CrtVal w c' (litC dg' (.slice A' c'.secs.length a') (.slice B' c'.justs.length b')) A' a' B' b') (h40 : c.secs.length ≤ 40) (hj40 : c.justs.length ≤ 40) (hS : SmallS c.secs) (hy : Byt dg) (hy' : Byt dg') :
    Calls Try.prog 13 #[.agg #[.int .u8 (dg 0), .int .u8 (dg 1), .int .u8 (dg 2), .int .u8 (dg 3), .int .u8 (dg 4), .int .u8 (dg 5), .int .u8 (dg 6), .int .u8 (dg 7), .int .u8 (dg 8), .int .u8 (dg 9), .int .u8 (dg 10), .int .u8 (dg 11), .int .u8 (dg 12), .int .u8 (dg 13), .int .u8 (dg 14), .int .u8 (dg 15), .int .u8 (dg 16), .int .u8 (dg 17), .int .u8 (dg 18), .int .u8 (dg 19), .int .u8 (dg 20), .int .u8 (dg 21), .int .u8 (dg 22), .int .u8 (dg 23), .int .u8 (dg 24), .int .u8 (dg 25), .int .u8 (dg 26), .int .u8 (dg 27), .int .u8 (dg 28), .int .u8 (dg 29), .int .u8 (dg 30), .int .u8 (dg 31), .slice A c.secs.length a, .slice B c.justs.length b], .agg #[.int .u8 (dg' 0), .int .u8 (dg' 1), .int .u8 (dg' 2), .int .u8 (dg' 3), .int .u8 (dg' 4), .int .u8 (dg' 5), .int .u8 (dg' 6), .int .u8 (dg' 7), .int .u8 (dg' 8), .int .u8 (dg' 9), .int .u8 (dg' 10), .int .u8 (dg' 11), .int .u8 (dg' 12), .int .u8 (dg' 13), .int .u8 (dg' 14), .int .u8 (dg' 15), .int .u8 (dg' 16), .int .u8 (dg' 17), .int .u8 (dg' 18), .int .u8 (dg' 19), .int .u8 (dg' 20), .int .u8 (dg' 21), .int .u8 (dg' 22), .int .u8 (dg' 23), .int .u8 (dg' 24), .int .u8 (dg' 25), .int .u8 (dg' 26), .int .u8 (dg' 27), .int .u8 (dg' 28), .int .u8 (dg' 29), .int .u8 (dg' 30), .int .u8 (dg' 31), .slice A' c'.secs.length a', .slice B' c'.justs.length b']] w fun e w' => e = .returned (.bool (eqB (dl dg) (dl dg') && eqB c.secs c'.secs && eqB c.justs c'.justs)) ∧ Below w.heap.size w w' := by
  cases he : eqB (dl dg) (dl dg') with
  | false => simpa using rsame_0 c c' dg dg' A B A' B' a b a' b' w h h' h40 hj40 hS hy hy' he
  | true =>
    by_cases hn : c.secs.length = c'.secs.length
    · by_cases hm : c.justs.length = c'.justs.length
      · simpa using rsame_main c c' dg dg' A B A' B' a b a' b' w h h' h40 hj40 hS hy hy' he hn hm
      · have e : eqB c.justs c'.justs = false := eqB_false (fun h => hm (by rw [h]))
        rw [e]; simpa using rsame_2 c c' dg dg' A B A' B' a b a' b' w h h' h40 hj40 hS hy hy' he hn hm
    · have e : eqB c.secs c'.secs = false := eqB_false (fun h => hn (by rw [h]))
      rw [e]; simpa using rsame_1 c c' dg dg' A B A' B' a b a' b' w h h' h40 hj40 hS hy hy' he hn
end Go.Proofs.Ytbemdnjcnmponaa.RefSame
