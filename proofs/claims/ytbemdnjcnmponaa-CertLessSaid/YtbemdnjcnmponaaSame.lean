/- Whether two certificates are alike (cert.Same): its contract; for small certificates. -/
import Derived.Test.YtbemdnjcnmponaaSameP
namespace Go.Proofs.Ytbemdnjcnmponaa.Same
open Go.RowKit Go.Proofs.YtbemdnjcnmponaaW.PrintWords Go.Proofs.YtbemdnjcnmponaaW.PrintLast Go.Proofs.YtbemdnjcnmponaaW.PrintMore Go.Proofs.Ytbemdnjcnmponaa.PCertSame Go.Proofs.Ytbemdnjcnmponaa.Data Go.Proofs.Ytbemdnjcnmponaa.Within Go.Proofs.Ytbemdnjcnmponaa.Check Go.Proofs.Ytbemdnjcnmponaa.Laws1 Go.Proofs.Ytbemdnjcnmponaa.Lit Go.Proofs.Ytbemdnjcnmponaa.SameP
set_option linter.unusedVariables false
set_option linter.unusedSimpArgs false

/-- bytes -/
def Byt (dg : Nat → Int) : Prop := ∀ i, 0 ≤ dg i ∧ dg i < 256
def dl (dg : Nat → Int) : List Int := (List.range 32).map dg
def bl (dg : Nat → Int) : List UInt8 := (List.range 32).map fun i => UInt8.ofNat (dg i).toNat

theorem bl_cells (dg : Nat → Int) (h : Byt dg) : ((bl dg).map Extern.Stop.cell).toArray = litD dg := by
  have e : (bl dg).map Extern.Stop.cell = (List.range 32).map (fun i => Value.int .u8 (dg i)) := by
    unfold bl
    rw [List.map_map]
    refine List.map_congr_left (fun i _ => ?_)
    have := h i
    simp only [Function.comp, Extern.Stop.cell]
    congr 1
    simp
    omega
  rw [e]; rfl
theorem bl_eq (dg dg' : Nat → Int) (h : Byt dg) (h' : Byt dg') : (bl dg == bl dg') = eqB (dl dg) (dl dg') := by
  rw [Bool.eq_iff_iff, beq_iff_eq, eqB_iff]
  constructor
  · intro e
    unfold bl at e
    unfold dl
    refine List.map_congr_left (fun i hi => ?_)
    have e2 := List.map_inj_left.1 e i hi
    have h1 := h i
    have h2 := h' i
    have e3 := congrArg UInt8.toNat e2
    simp at e3
    omega
  · intro e
    unfold bl
    unfold dl at e
    refine List.map_congr_left (fun i hi => ?_)
    rw [List.map_inj_left.1 e i hi]
theorem dig_eq (dg dg' : Nat → Int) (h : Byt dg) (h' : Byt dg') : ∀ W, (Op.equalIn 10000 22 (.agg (litD dg)) (.agg (litD dg'))).run Try.prog W = .ok (eqB (dl dg) (dl dg')) W := by
  intro W
  rw [← bl_eq dg dg' h h', ← bl_cells dg h, ← bl_cells dg' h']
  exact run_equalIn_bytes W 9998 22 5 32 Try.underlying22 Try.underlying5 (fun w => by kernel_rfl) (bl dg) (bl dg') (by simp [bl]) (by simp [bl])

theorem just_any (A B : Option Addr) (a b : Nat) (l l' : List S40) (r : Bool) (w : World) (hA : Kd.C k40 w A l.length l) (ha : l.length ≤ a) (hB : Kd.C k40 w B l'.length l') (hb : l'.length ≤ b) (h40 : l.length ≤ 40) (hr : eqB l l' = r) :
    Calls Try.prog 24 #[.slice A l.length a, .slice B l'.length b] w fun e w' => e = .returned (.bool r) ∧ Drawn0 w w' := by
  rw [← hr]; exact api_Just_24.calls 100 A a l B b l' _ w hA ha hB hb (just_f l l' 100 (by omega) (by omega))
theorem equalfunc_is (A B : Option Addr) (a b : Nat) (l l' : List Sec) (r : Bool) (w : World) (hA : Kd.C kSec w A l.length l) (hB : Kd.C kSec w B l'.length l') (h40 : l.length ≤ 40) (hS : SmallS l) (hr : eqB l l' = r) :
    Calls Try.prog 22 #[.slice A l.length a, .slice B l'.length b, .func (.func 23) #[] #[]] w fun e w' => e = .returned (.bool r) ∧ Below w.heap.size w w' := by
  rw [← hr]; exact equalfunc_any A B a b l l' w hA hB h40 hS


set_option maxHeartbeats 4000000 in
set_option maxRecDepth 100000 in
theorem same_0 (c c' : Crt) (dg dg' : Nat → Int) (A B A' B' : Option Addr) (a b a' b' : Nat) (w : World) (h : CrtVal w c (litC dg (.slice A c.secs.length a) (.slice B c.justs.length b)) A a B b) (h' : CrtVal w c' (litC dg' (.slice A' c'.secs.length a') (.slice B' c'.justs.length b')) A' a' B' b') (h40 : c.secs.length ≤ 40) (hj40 : c.justs.length ≤ 40) (hS : SmallS c.secs) (hy : Byt dg) (hy' : Byt dg') (he : eqB (dl dg) (dl dg') = false) :
    Calls Try.prog 14 #[.agg #[.int .u8 (dg 0), .int .u8 (dg 1), .int .u8 (dg 2), .int .u8 (dg 3), .int .u8 (dg 4), .int .u8 (dg 5), .int .u8 (dg 6), .int .u8 (dg 7), .int .u8 (dg 8), .int .u8 (dg 9), .int .u8 (dg 10), .int .u8 (dg 11), .int .u8 (dg 12), .int .u8 (dg 13), .int .u8 (dg 14), .int .u8 (dg 15), .int .u8 (dg 16), .int .u8 (dg 17), .int .u8 (dg 18), .int .u8 (dg 19), .int .u8 (dg 20), .int .u8 (dg 21), .int .u8 (dg 22), .int .u8 (dg 23), .int .u8 (dg 24), .int .u8 (dg 25), .int .u8 (dg 26), .int .u8 (dg 27), .int .u8 (dg 28), .int .u8 (dg 29), .int .u8 (dg 30), .int .u8 (dg 31), .slice A c.secs.length a, .slice B c.justs.length b], .agg #[.int .u8 (dg' 0), .int .u8 (dg' 1), .int .u8 (dg' 2), .int .u8 (dg' 3), .int .u8 (dg' 4), .int .u8 (dg' 5), .int .u8 (dg' 6), .int .u8 (dg' 7), .int .u8 (dg' 8), .int .u8 (dg' 9), .int .u8 (dg' 10), .int .u8 (dg' 11), .int .u8 (dg' 12), .int .u8 (dg' 13), .int .u8 (dg' 14), .int .u8 (dg' 15), .int .u8 (dg' 16), .int .u8 (dg' 17), .int .u8 (dg' 18), .int .u8 (dg' 19), .int .u8 (dg' 20), .int .u8 (dg' 21), .int .u8 (dg' 22), .int .u8 (dg' 23), .int .u8 (dg' 24), .int .u8 (dg' 25), .int .u8 (dg' 26), .int .u8 (dg' 27), .int .u8 (dg' 28), .int .u8 (dg' 29), .int .u8 (dg' 30), .int .u8 (dg' 31), .slice A' c'.secs.length a', .slice B' c'.justs.length b']] w fun e w' => e = .returned (.bool false) ∧ Below w.heap.size w w' := by
  have HV := Aside0.mk h
  have HV' := Aside0.mk h'
  have H40 := Aside0.mk h40
  have HJ40 := Aside0.mk hj40
  have HSS := Aside0.mk hS
  have HW2 := Aside0.mk (below_alloc (below_alloc (Below.refl w.heap.size w) (.cells (litC dg (.slice A c.secs.length a) (.slice B c.justs.length b)) 26)) (.cells (litC dg' (.slice A' c'.secs.length a') (.slice B' c'.justs.length b')) 26))
  have HB := Aside0.mk (Below.refl ((w.alloc (.cells (litC dg (.slice A c.secs.length a) (.slice B c.justs.length b)) 26)).alloc (.cells (litC dg' (.slice A' c'.secs.length a') (.slice B' c'.justs.length b')) 26)).heap.size ((w.alloc (.cells (litC dg (.slice A c.secs.length a) (.slice B c.justs.length b)) 26)).alloc (.cells (litC dg' (.slice A' c'.secs.length a') (.slice B' c'.justs.length b')) 26)))
  have hbox : ∀ w', Below ((w.alloc (.cells (litC dg (.slice A c.secs.length a) (.slice B c.justs.length b)) 26)).alloc (.cells (litC dg' (.slice A' c'.secs.length a') (.slice B' c'.justs.length b')) 26)).heap.size ((w.alloc (.cells (litC dg (.slice A c.secs.length a) (.slice B c.justs.length b)) 26)).alloc (.cells (litC dg' (.slice A' c'.secs.length a') (.slice B' c'.justs.length b')) 26)) w' → w'.heap[w.heap.size]? = some (.cells (litC dg (.slice A c.secs.length a) (.slice B c.justs.length b)) 26) := fun w' hb => by
    rw [hb.block w.heap.size (by simp; omega), heap_alloc2_old]
  have hbox' : ∀ w', Below ((w.alloc (.cells (litC dg (.slice A c.secs.length a) (.slice B c.justs.length b)) 26)).alloc (.cells (litC dg' (.slice A' c'.secs.length a') (.slice B' c'.justs.length b')) 26)).heap.size ((w.alloc (.cells (litC dg (.slice A c.secs.length a) (.slice B c.justs.length b)) 26)).alloc (.cells (litC dg' (.slice A' c'.secs.length a') (.slice B' c'.justs.length b')) 26)) w' → w'.heap[w.heap.size + 1]? = some (.cells (litC dg' (.slice A' c'.secs.length a') (.slice B' c'.justs.length b')) 26) := fun w' hb => by
    rw [hb.block (w.heap.size + 1) (by simp), heap_alloc2_new]
  have HX := Aside0.mk hbox
  have HX' := Aside0.mk hbox'
  have q32 : ∀ w', Below ((w.alloc (.cells (litC dg (.slice A c.secs.length a) (.slice B c.justs.length b)) 26)).alloc (.cells (litC dg' (.slice A' c'.secs.length a') (.slice B' c'.justs.length b')) 26)).heap.size ((w.alloc (.cells (litC dg (.slice A c.secs.length a) (.slice B c.justs.length b)) 26)).alloc (.cells (litC dg' (.slice A' c'.secs.length a') (.slice B' c'.justs.length b')) 26)) w' → w'.cell? ⟨w.heap.size, 32, none⟩ = some (.slice A c.secs.length a) := fun w' hb => by rw [cell_of_row w' w.heap.size 32 _ 26 (0, 0) (hbox w' hb)]; rfl
  have q33 : ∀ w', Below ((w.alloc (.cells (litC dg (.slice A c.secs.length a) (.slice B c.justs.length b)) 26)).alloc (.cells (litC dg' (.slice A' c'.secs.length a') (.slice B' c'.justs.length b')) 26)).heap.size ((w.alloc (.cells (litC dg (.slice A c.secs.length a) (.slice B c.justs.length b)) 26)).alloc (.cells (litC dg' (.slice A' c'.secs.length a') (.slice B' c'.justs.length b')) 26)) w' → w'.cell? ⟨w.heap.size, 33, none⟩ = some (.slice B c.justs.length b) := fun w' hb => by rw [cell_of_row w' w.heap.size 33 _ 26 (0, 0) (hbox w' hb)]; rfl
  have p32 : ∀ w', Below ((w.alloc (.cells (litC dg (.slice A c.secs.length a) (.slice B c.justs.length b)) 26)).alloc (.cells (litC dg' (.slice A' c'.secs.length a') (.slice B' c'.justs.length b')) 26)).heap.size ((w.alloc (.cells (litC dg (.slice A c.secs.length a) (.slice B c.justs.length b)) 26)).alloc (.cells (litC dg' (.slice A' c'.secs.length a') (.slice B' c'.justs.length b')) 26)) w' → w'.cell? ⟨w.heap.size + 1, 32, none⟩ = some (.slice A' c'.secs.length a') := fun w' hb => by rw [cell_of_row w' (w.heap.size + 1) 32 _ 26 (0, 0) (hbox' w' hb)]; rfl
  have p33 : ∀ w', Below ((w.alloc (.cells (litC dg (.slice A c.secs.length a) (.slice B c.justs.length b)) 26)).alloc (.cells (litC dg' (.slice A' c'.secs.length a') (.slice B' c'.justs.length b')) 26)).heap.size ((w.alloc (.cells (litC dg (.slice A c.secs.length a) (.slice B c.justs.length b)) 26)).alloc (.cells (litC dg' (.slice A' c'.secs.length a') (.slice B' c'.justs.length b')) 26)) w' → w'.cell? ⟨w.heap.size + 1, 33, none⟩ = some (.slice B' c'.justs.length b') := fun w' hb => by rw [cell_of_row w' (w.heap.size + 1) 33 _ 26 (0, 0) (hbox' w' hb)]; rfl
  have Q32 := Aside0.mk q32
  have Q33 := Aside0.mk q33
  have P32 := Aside0.mk p32
  have P33 := Aside0.mk p33
  have u1 := q32 _ HB.out
  have u2 := q33 _ HB.out
  have u3 := p32 _ HB.out
  have u4 := p33 _ HB.out
  clear q32 q33 p32 p33 hbox hbox' h h' h40 hj40 hS
  have hd := dig_eq dg dg' hy hy'
  rw [he] at hd
  clear he hy hy'
  go_enter Try.func14, Try.ntmps14
  go_wp2_with (first | ((with_reducible refine gate_dst (N := 6) rfl ?_); refine wpList_load_sub rfl 22 (.tmp 5) rfl w.heap.size 0 rfl 26 (litC dg (.slice A c.secs.length a) (.slice B c.justs.length b)) (litD dg) (0, 0) _ (HX.out _ HB.out) (dig_sub dg _ _) Try.underlying22 rfl (size22 dg) ?_) | ((with_reducible refine gate_dst (N := 8) rfl ?_); refine wpList_load_sub rfl 22 (.tmp 7) rfl (w.heap.size + 1) 0 rfl 26 (litC dg' (.slice A' c'.secs.length a') (.slice B' c'.justs.length b')) (litD dg') (0, 0) _ (HX'.out _ HB.out) (dig_sub dg' _ _) Try.underlying22 rfl (size22 dg') ?_))
  go_ret
  exact ⟨by first | rfl | (simp; done) | (simp [*]; done), by repeat (first | exact below_step HW2.out HB.out | apply pw_below_drewN | apply below_drew1)⟩

set_option maxHeartbeats 4000000 in
set_option maxRecDepth 100000 in
theorem same_1 (c c' : Crt) (dg dg' : Nat → Int) (A B A' B' : Option Addr) (a b a' b' : Nat) (w : World) (h : CrtVal w c (litC dg (.slice A c.secs.length a) (.slice B c.justs.length b)) A a B b) (h' : CrtVal w c' (litC dg' (.slice A' c'.secs.length a') (.slice B' c'.justs.length b')) A' a' B' b') (h40 : c.secs.length ≤ 40) (hj40 : c.justs.length ≤ 40) (hS : SmallS c.secs) (hy : Byt dg) (hy' : Byt dg') (he : eqB (dl dg) (dl dg') = true) (hs : eqB c.secs c'.secs = false) :
    Calls Try.prog 14 #[.agg #[.int .u8 (dg 0), .int .u8 (dg 1), .int .u8 (dg 2), .int .u8 (dg 3), .int .u8 (dg 4), .int .u8 (dg 5), .int .u8 (dg 6), .int .u8 (dg 7), .int .u8 (dg 8), .int .u8 (dg 9), .int .u8 (dg 10), .int .u8 (dg 11), .int .u8 (dg 12), .int .u8 (dg 13), .int .u8 (dg 14), .int .u8 (dg 15), .int .u8 (dg 16), .int .u8 (dg 17), .int .u8 (dg 18), .int .u8 (dg 19), .int .u8 (dg 20), .int .u8 (dg 21), .int .u8 (dg 22), .int .u8 (dg 23), .int .u8 (dg 24), .int .u8 (dg 25), .int .u8 (dg 26), .int .u8 (dg 27), .int .u8 (dg 28), .int .u8 (dg 29), .int .u8 (dg 30), .int .u8 (dg 31), .slice A c.secs.length a, .slice B c.justs.length b], .agg #[.int .u8 (dg' 0), .int .u8 (dg' 1), .int .u8 (dg' 2), .int .u8 (dg' 3), .int .u8 (dg' 4), .int .u8 (dg' 5), .int .u8 (dg' 6), .int .u8 (dg' 7), .int .u8 (dg' 8), .int .u8 (dg' 9), .int .u8 (dg' 10), .int .u8 (dg' 11), .int .u8 (dg' 12), .int .u8 (dg' 13), .int .u8 (dg' 14), .int .u8 (dg' 15), .int .u8 (dg' 16), .int .u8 (dg' 17), .int .u8 (dg' 18), .int .u8 (dg' 19), .int .u8 (dg' 20), .int .u8 (dg' 21), .int .u8 (dg' 22), .int .u8 (dg' 23), .int .u8 (dg' 24), .int .u8 (dg' 25), .int .u8 (dg' 26), .int .u8 (dg' 27), .int .u8 (dg' 28), .int .u8 (dg' 29), .int .u8 (dg' 30), .int .u8 (dg' 31), .slice A' c'.secs.length a', .slice B' c'.justs.length b']] w fun e w' => e = .returned (.bool false) ∧ Below w.heap.size w w' := by
  have HV := Aside0.mk h
  have HV' := Aside0.mk h'
  have H40 := Aside0.mk h40
  have HJ40 := Aside0.mk hj40
  have HSS := Aside0.mk hS
  have HW2 := Aside0.mk (below_alloc (below_alloc (Below.refl w.heap.size w) (.cells (litC dg (.slice A c.secs.length a) (.slice B c.justs.length b)) 26)) (.cells (litC dg' (.slice A' c'.secs.length a') (.slice B' c'.justs.length b')) 26))
  have HB := Aside0.mk (Below.refl ((w.alloc (.cells (litC dg (.slice A c.secs.length a) (.slice B c.justs.length b)) 26)).alloc (.cells (litC dg' (.slice A' c'.secs.length a') (.slice B' c'.justs.length b')) 26)).heap.size ((w.alloc (.cells (litC dg (.slice A c.secs.length a) (.slice B c.justs.length b)) 26)).alloc (.cells (litC dg' (.slice A' c'.secs.length a') (.slice B' c'.justs.length b')) 26)))
  have hbox : ∀ w', Below ((w.alloc (.cells (litC dg (.slice A c.secs.length a) (.slice B c.justs.length b)) 26)).alloc (.cells (litC dg' (.slice A' c'.secs.length a') (.slice B' c'.justs.length b')) 26)).heap.size ((w.alloc (.cells (litC dg (.slice A c.secs.length a) (.slice B c.justs.length b)) 26)).alloc (.cells (litC dg' (.slice A' c'.secs.length a') (.slice B' c'.justs.length b')) 26)) w' → w'.heap[w.heap.size]? = some (.cells (litC dg (.slice A c.secs.length a) (.slice B c.justs.length b)) 26) := fun w' hb => by
    rw [hb.block w.heap.size (by simp; omega), heap_alloc2_old]
  have hbox' : ∀ w', Below ((w.alloc (.cells (litC dg (.slice A c.secs.length a) (.slice B c.justs.length b)) 26)).alloc (.cells (litC dg' (.slice A' c'.secs.length a') (.slice B' c'.justs.length b')) 26)).heap.size ((w.alloc (.cells (litC dg (.slice A c.secs.length a) (.slice B c.justs.length b)) 26)).alloc (.cells (litC dg' (.slice A' c'.secs.length a') (.slice B' c'.justs.length b')) 26)) w' → w'.heap[w.heap.size + 1]? = some (.cells (litC dg' (.slice A' c'.secs.length a') (.slice B' c'.justs.length b')) 26) := fun w' hb => by
    rw [hb.block (w.heap.size + 1) (by simp), heap_alloc2_new]
  have HX := Aside0.mk hbox
  have HX' := Aside0.mk hbox'
  have q32 : ∀ w', Below ((w.alloc (.cells (litC dg (.slice A c.secs.length a) (.slice B c.justs.length b)) 26)).alloc (.cells (litC dg' (.slice A' c'.secs.length a') (.slice B' c'.justs.length b')) 26)).heap.size ((w.alloc (.cells (litC dg (.slice A c.secs.length a) (.slice B c.justs.length b)) 26)).alloc (.cells (litC dg' (.slice A' c'.secs.length a') (.slice B' c'.justs.length b')) 26)) w' → w'.cell? ⟨w.heap.size, 32, none⟩ = some (.slice A c.secs.length a) := fun w' hb => by rw [cell_of_row w' w.heap.size 32 _ 26 (0, 0) (hbox w' hb)]; rfl
  have q33 : ∀ w', Below ((w.alloc (.cells (litC dg (.slice A c.secs.length a) (.slice B c.justs.length b)) 26)).alloc (.cells (litC dg' (.slice A' c'.secs.length a') (.slice B' c'.justs.length b')) 26)).heap.size ((w.alloc (.cells (litC dg (.slice A c.secs.length a) (.slice B c.justs.length b)) 26)).alloc (.cells (litC dg' (.slice A' c'.secs.length a') (.slice B' c'.justs.length b')) 26)) w' → w'.cell? ⟨w.heap.size, 33, none⟩ = some (.slice B c.justs.length b) := fun w' hb => by rw [cell_of_row w' w.heap.size 33 _ 26 (0, 0) (hbox w' hb)]; rfl
  have p32 : ∀ w', Below ((w.alloc (.cells (litC dg (.slice A c.secs.length a) (.slice B c.justs.length b)) 26)).alloc (.cells (litC dg' (.slice A' c'.secs.length a') (.slice B' c'.justs.length b')) 26)).heap.size ((w.alloc (.cells (litC dg (.slice A c.secs.length a) (.slice B c.justs.length b)) 26)).alloc (.cells (litC dg' (.slice A' c'.secs.length a') (.slice B' c'.justs.length b')) 26)) w' → w'.cell? ⟨w.heap.size + 1, 32, none⟩ = some (.slice A' c'.secs.length a') := fun w' hb => by rw [cell_of_row w' (w.heap.size + 1) 32 _ 26 (0, 0) (hbox' w' hb)]; rfl
  have p33 : ∀ w', Below ((w.alloc (.cells (litC dg (.slice A c.secs.length a) (.slice B c.justs.length b)) 26)).alloc (.cells (litC dg' (.slice A' c'.secs.length a') (.slice B' c'.justs.length b')) 26)).heap.size ((w.alloc (.cells (litC dg (.slice A c.secs.length a) (.slice B c.justs.length b)) 26)).alloc (.cells (litC dg' (.slice A' c'.secs.length a') (.slice B' c'.justs.length b')) 26)) w' → w'.cell? ⟨w.heap.size + 1, 33, none⟩ = some (.slice B' c'.justs.length b') := fun w' hb => by rw [cell_of_row w' (w.heap.size + 1) 33 _ 26 (0, 0) (hbox' w' hb)]; rfl
  have Q32 := Aside0.mk q32
  have Q33 := Aside0.mk q33
  have P32 := Aside0.mk p32
  have P33 := Aside0.mk p33
  have u1 := q32 _ HB.out
  have u2 := q33 _ HB.out
  have u3 := p32 _ HB.out
  have u4 := p33 _ HB.out
  clear q32 q33 p32 p33 hbox hbox' h h' h40 hj40 hS
  have hd := dig_eq dg dg' hy hy'
  rw [he] at hd
  clear he hy hy'
  have HSB := Aside0.mk hs
  clear hs
  go_enter Try.func14, Try.ntmps14
  go_wp2_with (first | ((with_reducible refine gate_dst (N := 6) rfl ?_); refine wpList_load_sub rfl 22 (.tmp 5) rfl w.heap.size 0 rfl 26 (litC dg (.slice A c.secs.length a) (.slice B c.justs.length b)) (litD dg) (0, 0) _ (HX.out _ HB.out) (dig_sub dg _ _) Try.underlying22 rfl (size22 dg) ?_) | ((with_reducible refine gate_dst (N := 8) rfl ?_); refine wpList_load_sub rfl 22 (.tmp 7) rfl (w.heap.size + 1) 0 rfl 26 (litC dg' (.slice A' c'.secs.length a') (.slice B' c'.justs.length b')) (litD dg') (0, 0) _ (HX'.out _ HB.out) (dig_sub dg' _ _) Try.underlying22 rfl (size22 dg') ?_) | (go_at_call 22; (with_reducible refine (equalfunc_is A A' a a' c.secs c'.secs false _ (Kd.C_below HV.out.hA (below_step HW2.out HB.out)) (Kd.C_below HV'.out.hA (below_step HW2.out HB.out)) H40.out HSS.out HSB.out).mono ?_); rintro e w1 ⟨rfl, hb⟩; have n_ := Aside0.mk (below_step HB.out hb); clear HB; have HB := n_; clear n_ hb; have v2 := Q33.out _ HB.out; have v4 := P33.out _ HB.out))
  go_ret
  exact ⟨by first | rfl | (simp; done) | (simp [*]; done), by repeat (first | exact below_step HW2.out HB.out | apply pw_below_drewN | apply below_drew1)⟩

set_option maxHeartbeats 4000000 in
set_option maxRecDepth 100000 in
theorem same_2 (c c' : Crt) (dg dg' : Nat → Int) (A B A' B' : Option Addr) (a b a' b' : Nat) (w : World) (h : CrtVal w c (litC dg (.slice A c.secs.length a) (.slice B c.justs.length b)) A a B b) (h' : CrtVal w c' (litC dg' (.slice A' c'.secs.length a') (.slice B' c'.justs.length b')) A' a' B' b') (h40 : c.secs.length ≤ 40) (hj40 : c.justs.length ≤ 40) (hS : SmallS c.secs) (hy : Byt dg) (hy' : Byt dg') (he : eqB (dl dg) (dl dg') = true) (hs : eqB c.secs c'.secs = true) :
    Calls Try.prog 14 #[.agg #[.int .u8 (dg 0), .int .u8 (dg 1), .int .u8 (dg 2), .int .u8 (dg 3), .int .u8 (dg 4), .int .u8 (dg 5), .int .u8 (dg 6), .int .u8 (dg 7), .int .u8 (dg 8), .int .u8 (dg 9), .int .u8 (dg 10), .int .u8 (dg 11), .int .u8 (dg 12), .int .u8 (dg 13), .int .u8 (dg 14), .int .u8 (dg 15), .int .u8 (dg 16), .int .u8 (dg 17), .int .u8 (dg 18), .int .u8 (dg 19), .int .u8 (dg 20), .int .u8 (dg 21), .int .u8 (dg 22), .int .u8 (dg 23), .int .u8 (dg 24), .int .u8 (dg 25), .int .u8 (dg 26), .int .u8 (dg 27), .int .u8 (dg 28), .int .u8 (dg 29), .int .u8 (dg 30), .int .u8 (dg 31), .slice A c.secs.length a, .slice B c.justs.length b], .agg #[.int .u8 (dg' 0), .int .u8 (dg' 1), .int .u8 (dg' 2), .int .u8 (dg' 3), .int .u8 (dg' 4), .int .u8 (dg' 5), .int .u8 (dg' 6), .int .u8 (dg' 7), .int .u8 (dg' 8), .int .u8 (dg' 9), .int .u8 (dg' 10), .int .u8 (dg' 11), .int .u8 (dg' 12), .int .u8 (dg' 13), .int .u8 (dg' 14), .int .u8 (dg' 15), .int .u8 (dg' 16), .int .u8 (dg' 17), .int .u8 (dg' 18), .int .u8 (dg' 19), .int .u8 (dg' 20), .int .u8 (dg' 21), .int .u8 (dg' 22), .int .u8 (dg' 23), .int .u8 (dg' 24), .int .u8 (dg' 25), .int .u8 (dg' 26), .int .u8 (dg' 27), .int .u8 (dg' 28), .int .u8 (dg' 29), .int .u8 (dg' 30), .int .u8 (dg' 31), .slice A' c'.secs.length a', .slice B' c'.justs.length b']] w fun e w' => e = .returned (.bool (eqB c.justs c'.justs)) ∧ Below w.heap.size w w' := by
  have HV := Aside0.mk h
  have HV' := Aside0.mk h'
  have H40 := Aside0.mk h40
  have HJ40 := Aside0.mk hj40
  have HSS := Aside0.mk hS
  have HW2 := Aside0.mk (below_alloc (below_alloc (Below.refl w.heap.size w) (.cells (litC dg (.slice A c.secs.length a) (.slice B c.justs.length b)) 26)) (.cells (litC dg' (.slice A' c'.secs.length a') (.slice B' c'.justs.length b')) 26))
  have HB := Aside0.mk (Below.refl ((w.alloc (.cells (litC dg (.slice A c.secs.length a) (.slice B c.justs.length b)) 26)).alloc (.cells (litC dg' (.slice A' c'.secs.length a') (.slice B' c'.justs.length b')) 26)).heap.size ((w.alloc (.cells (litC dg (.slice A c.secs.length a) (.slice B c.justs.length b)) 26)).alloc (.cells (litC dg' (.slice A' c'.secs.length a') (.slice B' c'.justs.length b')) 26)))
  have hbox : ∀ w', Below ((w.alloc (.cells (litC dg (.slice A c.secs.length a) (.slice B c.justs.length b)) 26)).alloc (.cells (litC dg' (.slice A' c'.secs.length a') (.slice B' c'.justs.length b')) 26)).heap.size ((w.alloc (.cells (litC dg (.slice A c.secs.length a) (.slice B c.justs.length b)) 26)).alloc (.cells (litC dg' (.slice A' c'.secs.length a') (.slice B' c'.justs.length b')) 26)) w' → w'.heap[w.heap.size]? = some (.cells (litC dg (.slice A c.secs.length a) (.slice B c.justs.length b)) 26) := fun w' hb => by
    rw [hb.block w.heap.size (by simp; omega), heap_alloc2_old]
  have hbox' : ∀ w', Below ((w.alloc (.cells (litC dg (.slice A c.secs.length a) (.slice B c.justs.length b)) 26)).alloc (.cells (litC dg' (.slice A' c'.secs.length a') (.slice B' c'.justs.length b')) 26)).heap.size ((w.alloc (.cells (litC dg (.slice A c.secs.length a) (.slice B c.justs.length b)) 26)).alloc (.cells (litC dg' (.slice A' c'.secs.length a') (.slice B' c'.justs.length b')) 26)) w' → w'.heap[w.heap.size + 1]? = some (.cells (litC dg' (.slice A' c'.secs.length a') (.slice B' c'.justs.length b')) 26) := fun w' hb => by
    rw [hb.block (w.heap.size + 1) (by simp), heap_alloc2_new]
  have HX := Aside0.mk hbox
  have HX' := Aside0.mk hbox'
  have q32 : ∀ w', Below ((w.alloc (.cells (litC dg (.slice A c.secs.length a) (.slice B c.justs.length b)) 26)).alloc (.cells (litC dg' (.slice A' c'.secs.length a') (.slice B' c'.justs.length b')) 26)).heap.size ((w.alloc (.cells (litC dg (.slice A c.secs.length a) (.slice B c.justs.length b)) 26)).alloc (.cells (litC dg' (.slice A' c'.secs.length a') (.slice B' c'.justs.length b')) 26)) w' → w'.cell? ⟨w.heap.size, 32, none⟩ = some (.slice A c.secs.length a) := fun w' hb => by rw [cell_of_row w' w.heap.size 32 _ 26 (0, 0) (hbox w' hb)]; rfl
  have q33 : ∀ w', Below ((w.alloc (.cells (litC dg (.slice A c.secs.length a) (.slice B c.justs.length b)) 26)).alloc (.cells (litC dg' (.slice A' c'.secs.length a') (.slice B' c'.justs.length b')) 26)).heap.size ((w.alloc (.cells (litC dg (.slice A c.secs.length a) (.slice B c.justs.length b)) 26)).alloc (.cells (litC dg' (.slice A' c'.secs.length a') (.slice B' c'.justs.length b')) 26)) w' → w'.cell? ⟨w.heap.size, 33, none⟩ = some (.slice B c.justs.length b) := fun w' hb => by rw [cell_of_row w' w.heap.size 33 _ 26 (0, 0) (hbox w' hb)]; rfl
  have p32 : ∀ w', Below ((w.alloc (.cells (litC dg (.slice A c.secs.length a) (.slice B c.justs.length b)) 26)).alloc (.cells (litC dg' (.slice A' c'.secs.length a') (.slice B' c'.justs.length b')) 26)).heap.size ((w.alloc (.cells (litC dg (.slice A c.secs.length a) (.slice B c.justs.length b)) 26)).alloc (.cells (litC dg' (.slice A' c'.secs.length a') (.slice B' c'.justs.length b')) 26)) w' → w'.cell? ⟨w.heap.size + 1, 32, none⟩ = some (.slice A' c'.secs.length a') := fun w' hb => by rw [cell_of_row w' (w.heap.size + 1) 32 _ 26 (0, 0) (hbox' w' hb)]; rfl
  have p33 : ∀ w', Below ((w.alloc (.cells (litC dg (.slice A c.secs.length a) (.slice B c.justs.length b)) 26)).alloc (.cells (litC dg' (.slice A' c'.secs.length a') (.slice B' c'.justs.length b')) 26)).heap.size ((w.alloc (.cells (litC dg (.slice A c.secs.length a) (.slice B c.justs.length b)) 26)).alloc (.cells (litC dg' (.slice A' c'.secs.length a') (.slice B' c'.justs.length b')) 26)) w' → w'.cell? ⟨w.heap.size + 1, 33, none⟩ = some (.slice B' c'.justs.length b') := fun w' hb => by rw [cell_of_row w' (w.heap.size + 1) 33 _ 26 (0, 0) (hbox' w' hb)]; rfl
  have Q32 := Aside0.mk q32
  have Q33 := Aside0.mk q33
  have P32 := Aside0.mk p32
  have P33 := Aside0.mk p33
  have u1 := q32 _ HB.out
  have u2 := q33 _ HB.out
  have u3 := p32 _ HB.out
  have u4 := p33 _ HB.out
  clear q32 q33 p32 p33 hbox hbox' h h' h40 hj40 hS
  have hd := dig_eq dg dg' hy hy'
  rw [he] at hd
  clear he hy hy'
  have HSB := Aside0.mk hs
  clear hs
  go_enter Try.func14, Try.ntmps14
  go_wp2_with (first | ((with_reducible refine gate_dst (N := 6) rfl ?_); refine wpList_load_sub rfl 22 (.tmp 5) rfl w.heap.size 0 rfl 26 (litC dg (.slice A c.secs.length a) (.slice B c.justs.length b)) (litD dg) (0, 0) _ (HX.out _ HB.out) (dig_sub dg _ _) Try.underlying22 rfl (size22 dg) ?_) | ((with_reducible refine gate_dst (N := 8) rfl ?_); refine wpList_load_sub rfl 22 (.tmp 7) rfl (w.heap.size + 1) 0 rfl 26 (litC dg' (.slice A' c'.secs.length a') (.slice B' c'.justs.length b')) (litD dg') (0, 0) _ (HX'.out _ HB.out) (dig_sub dg' _ _) Try.underlying22 rfl (size22 dg') ?_) | (go_at_call 22; (with_reducible refine (equalfunc_is A A' a a' c.secs c'.secs true _ (Kd.C_below HV.out.hA (below_step HW2.out HB.out)) (Kd.C_below HV'.out.hA (below_step HW2.out HB.out)) H40.out HSS.out HSB.out).mono ?_); rintro e w1 ⟨rfl, hb⟩; have n_ := Aside0.mk (below_step HB.out hb); clear HB; have HB := n_; clear n_ hb; have v2 := Q33.out _ HB.out; have v4 := P33.out _ HB.out) | (go_at_call 24; (with_reducible refine (just_any B B' b b' c.justs c'.justs _ _ (Kd.C_below HV.out.hB (below_step HW2.out HB.out)) HV.out.hb (Kd.C_below HV'.out.hB (below_step HW2.out HB.out)) HV'.out.hb HJ40.out rfl).mono ?_); rintro e w2 ⟨rfl, ⟨nd, rfl⟩⟩))
  go_ret
  exact ⟨by first | rfl | (simp; done) | (simp [*]; done), by repeat (first | exact below_step HW2.out HB.out | apply pw_below_drewN | apply below_drew1)⟩

theorem same_any (c c' : Crt) (dg dg' : Nat → Int) (A B A' B' : Option Addr) (a b a' b' : Nat) (w : World) (h : CrtVal w c (litC dg (.slice A c.secs.length a) (.slice B c.justs.length b)) A a B b) (h' : CrtVal w c' (litC dg' (.slice A' c'.secs.length a') (.slice B' c'.justs.length b')) A' a' B' b') (h40 : c.secs.length ≤ 40) (hj40 : c.justs.length ≤ 40) (hS : SmallS c.secs) (hy : Byt dg) (hy' : Byt dg') :
    Calls Try.prog 14 #[.agg #[.int .u8 (dg 0), .int .u8 (dg 1), .int .u8 (dg 2), .int .u8 (dg 3), .int .u8 (dg 4), .int .u8 (dg 5), .int .u8 (dg 6), .int .u8 (dg 7), .int .u8 (dg 8), .int .u8 (dg 9), .int .u8 (dg 10), .int .u8 (dg 11), .int .u8 (dg 12), .int .u8 (dg 13), .int .u8 (dg 14), .int .u8 (dg 15), .int .u8 (dg 16), .int .u8 (dg 17), .int .u8 (dg 18), .int .u8 (dg 19), .int .u8 (dg 20), .int .u8 (dg 21), .int .u8 (dg 22), .int .u8 (dg 23), .int .u8 (dg 24), .int .u8 (dg 25), .int .u8 (dg 26), .int .u8 (dg 27), .int .u8 (dg 28), .int .u8 (dg 29), .int .u8 (dg 30), .int .u8 (dg 31), .slice A c.secs.length a, .slice B c.justs.length b], .agg #[.int .u8 (dg' 0), .int .u8 (dg' 1), .int .u8 (dg' 2), .int .u8 (dg' 3), .int .u8 (dg' 4), .int .u8 (dg' 5), .int .u8 (dg' 6), .int .u8 (dg' 7), .int .u8 (dg' 8), .int .u8 (dg' 9), .int .u8 (dg' 10), .int .u8 (dg' 11), .int .u8 (dg' 12), .int .u8 (dg' 13), .int .u8 (dg' 14), .int .u8 (dg' 15), .int .u8 (dg' 16), .int .u8 (dg' 17), .int .u8 (dg' 18), .int .u8 (dg' 19), .int .u8 (dg' 20), .int .u8 (dg' 21), .int .u8 (dg' 22), .int .u8 (dg' 23), .int .u8 (dg' 24), .int .u8 (dg' 25), .int .u8 (dg' 26), .int .u8 (dg' 27), .int .u8 (dg' 28), .int .u8 (dg' 29), .int .u8 (dg' 30), .int .u8 (dg' 31), .slice A' c'.secs.length a', .slice B' c'.justs.length b']] w fun e w' => e = .returned (.bool (eqB (dl dg) (dl dg') && eqB c.secs c'.secs && eqB c.justs c'.justs)) ∧ Below w.heap.size w w' := by
  cases he : eqB (dl dg) (dl dg') with
  | false => simpa using same_0 c c' dg dg' A B A' B' a b a' b' w h h' h40 hj40 hS hy hy' he
  | true =>
    cases hs : eqB c.secs c'.secs with
    | false => simpa using same_1 c c' dg dg' A B A' B' a b a' b' w h h' h40 hj40 hS hy hy' he hs
    | true => simpa using same_2 c c' dg dg' A B A' B' a b a' b' w h h' h40 hj40 hS hy hy' he hs
end Go.Proofs.Ytbemdnjcnmponaa.Same
