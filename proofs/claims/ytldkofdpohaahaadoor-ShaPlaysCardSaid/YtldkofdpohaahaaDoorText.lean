/- Bytes as digits (alibilaw02.text): its contract; for 32 bytes. -/
import Derived.Test.YtldkofdpohaahaaDoorOf
namespace Go.Proofs.YtldkofdpohaahaaDoor.Text
open Go.RowKit Go.Proofs.YtldkofdpohaahaaDoorW.PrintWords Go.Proofs.YtldkofdpohaahaaDoorW.PrintLast Go.Proofs.YtldkofdpohaahaaDoorW.PrintMore Go.Proofs.YtldkofdpohaahaaDoor.New Go.Proofs.YtldkofdpohaahaaDoor.Plain Go.Proofs.YtldkofdpohaahaaDoor.Spread Go.Proofs.YtldkofdpohaahaaDoor.Rounds Go.Proofs.YtldkofdpohaahaaDoor.Mix Go.Proofs.YtldkofdpohaahaaDoor.Eat Go.Proofs.YtldkofdpohaahaaDoor.Pad
open Go.Proofs.YtldkofdpohaahaaDoor.Sum hiding start_any
set_option linter.unusedVariables false
set_option linter.unusedSimpArgs false
def tx5.T5 : Bool × List (List Nat × List Nat) := (true, [([], []), ([], []), ([1], [1]), ([2], [2]), ([3], [3]), ([], []), ([5], [5]), ([6], [6]), ([7], [7]), ([8], [8]), ([4, 9], [4, 9]), ([0, 10], [0, 10]), ([], []), ([12], [12]), ([13], [13]), ([14], [14]), ([], []), ([16], [16]), ([17], [17]), ([18], [18]), ([19], [19]), ([15, 20], [15, 20]), ([11, 21], [11, 21]), ([22, 0, 1, 2, 3, 4, 5, 6, 7, 8, 9, 10, 11, 12, 13, 14, 15, 16, 17, 18, 19, 20, 21, 22], [0, 22])])
def tx5.B5 : List Nat := [0, 0, 2, 6, 14, 0, 32, 96, 224, 480, 1022, 2047, 0, 4096, 12288, 28672, 0, 65536, 196608, 458752, 983040, 2093056, 4194303, 8388607]
theorem tx5.tab5 : rtab .any (opsOf Tryd.f13 5) = tx5.T5 := by kernel_rfl
theorem tx5.bits5 : waitsOk tx5.T5.2 tx5.B5 = true := by kernel_rfl
def digits : ByteArray := { data := #[48, 49, 50, 51, 52, 53, 54, 55, 56, 57, 97, 98, 99, 100, 101, 102] }
def hexd (q : Int) : ByteArray := digits.extract q.toNat (q + 1).toNat
def step (s : ByteArray) (b : Int) : ByteArray := s ++ hexd (b / 16) ++ hexd (b % 16)
def textOf (bs : List Int) : ByteArray := bs.foldl step { data := #[] }
theorem textOf_take (bs : List Int) (i : Nat) (h : i < bs.length) : textOf (bs.take (i + 1)) = step (textOf (bs.take i)) (bs.getD i 0) := by
  unfold textOf
  rw [List.take_succ_eq_append_getElem h, List.foldl_append, show bs.getD i 0 = bs[i] by simp [h]]; rfl
theorem hexd_size (q : Int) (h0 : 0 ≤ q) (h1 : q < 16) : (hexd q).size = 1 := by
  unfold hexd
  rw [ByteArray.size_extract]
  show min (q + 1).toNat 16 - q.toNat = 1; omega
theorem step_size (s : ByteArray) (b : Int) (h0 : 0 ≤ b) (h1 : b < 256) : (step s b).size = s.size + 2 := by
  unfold step
  rw [ByteArray.size_append, ByteArray.size_append, hexd_size _ (by omega) (by omega), hexd_size _ (by omega) (by omega)]
theorem fold_size : ∀ (bs : List Int) (s : ByteArray), Bytes8 bs → (bs.foldl step s).size = s.size + 2 * bs.length
  | [], s, _ => rfl
  | b :: bs, s, h => by
    have hb := h b (List.mem_cons_self ..)
    show (bs.foldl step (step s b)).size = _
    rw [fold_size bs _ (fun x hx => h x (List.mem_cons_of_mem _ hx)), step_size s b hb.1 hb.2, List.length_cons]; omega
theorem textOf_size (bs : List Int) (h : Bytes8 bs) : (textOf bs).size = 2 * bs.length := by
  unfold textOf; rw [fold_size bs _ h]; exact Nat.zero_add _
set_option maxHeartbeats 4000000 in
set_option maxRecDepth 100000 in
theorem text_any (bs : List Int) (w : World) (hl : bs.length = 32) (hb : Bytes8 bs) :
    Calls Tryd.prog 13 #[.agg (rowB bs)] w fun e w' => e = .returned (.string (textOf bs)) ∧ Below w.heap.size w w' := by
  have HL := Aside0.mk hl
  have HBY := Aside0.mk hb
  have hs : (rowB bs).size = 32 := by rw [rowB_size, hl]
  clear hl hb
  go_enter Tryd.func13, Tryd.ntmps13
  go_wp2
  go_loopg [3, 4] 33 (fun kq v3 v4 w' => ∃ i : Nat, v3 = .string (textOf (bs.take i)) ∧ v4 = .int .i64 i ∧ Aside0 (i ≤ 32 ∧ 32 - i < kq) ∧ Aside0 (w'.heap[w.heap.size]? = some (.cells (rowB bs) 24)) ∧ Aside0 (Below w.heap.size w w'))
  case atStart => exact ⟨0, rfl, rfl, ⟨by omega, by omega⟩, ⟨heap_alloc_new w _⟩, ⟨below_alloc (Below.refl _ _) _⟩⟩
  case round =>
    obtain ⟨i, rfl, rfl, HI, HR, HB⟩ := hrel
    cases gk with
    | zero => exact absurd HI.out.2 (by omega)
    | succ k2 =>
      by_cases hi : i < 32
      · have c1 : decide (i < 32) = true := decide_eq_true hi
        obtain ⟨x, hx⟩ : ∃ x, x = bs.getD i 0 := ⟨_, rfl⟩
        obtain ⟨s, hs⟩ : ∃ x, x = textOf (bs.take i) := ⟨_, rfl⟩
        have hlt := (Array.getElem?_eq_some_iff.1 HR.out).1
        have HC : Aside0 (∀ w', Below wr.heap.size wr w' → w'.cell? ⟨w.heap.size, i, none⟩ = some (.int .u8 x)) := ⟨fun w' hw' => (cell_of_row w' _ i _ 24 (0, 0) ((hw'.block _ hlt).trans HR.out)).trans (by rw [rowB_get _ _ (by rw [HL.out]; exact hi), hx])⟩
        have hxb : 0 ≤ x ∧ x < 256 := HBY.out x (by rw [hx, List.getD_eq_getElem?_getD, List.getElem?_eq_getElem (by rw [HL.out]; exact hi)]; exact List.getElem_mem _)
        obtain ⟨x0, x1⟩ := hxb
        obtain ⟨q, hq⟩ : ∃ q, q = x / 16 := ⟨_, rfl⟩
        obtain ⟨r, hr⟩ : ∃ r, r = x % 16 := ⟨_, rfl⟩
        have f1 : IntKind.u8.wrap (x.tdiv 16) = q := by
          show (x.tdiv 16) % 256 = q; rw [Int.tdiv_eq_ediv_of_nonneg x0]; omega
        have f2 : IntKind.u8.wrap (q + 1) = q + 1 := by
          show (q + 1) % 256 = q + 1; omega
        have f3 : x.tmod 16 = r := by rw [Int.tmod_eq_emod_of_nonneg x0]; exact hr.symm
        have f4 : IntKind.u8.wrap (r + 1) = r + 1 := by
          show (r + 1) % 256 = r + 1; omega
        have f5 : ∀ w', (Instr.slice 9 (.string digits) (some (.int .u8 q)) (some (.int .u8 (q + 1))) none).run Tryd.prog w' = .ok (.string (hexd q)) w' := fun w' => run_slice_string w' 9 digits .u8 .u8 q (q + 1) Tryd.underlying9 (by omega) (by omega) (by show q + 1 ≤ 16; omega)
        have f6 : ∀ w', (Instr.slice 9 (.string digits) (some (.int .u8 r)) (some (.int .u8 (r + 1))) none).run Tryd.prog w' = .ok (.string (hexd r)) w' := fun w' => run_slice_string w' 9 digits .u8 .u8 r (r + 1) Tryd.underlying9 (by omega) (by omega) (by show r + 1 ≤ 16; omega)
        have HQ := Aside0.mk (And.intro hq hr)
        have z1 : s.size = 2 * i := by rw [hs, textOf_size _ (fun y hy => HBY.out y (List.mem_of_mem_take hy)), List.length_take, HL.out]; omega
        have z2 := hexd_size q (by omega) (by omega)
        have z3 := hexd_size r (by omega) (by omega)
        have z4 : (s ++ hexd q).size = 2 * i + 1 := by rw [ByteArray.size_append, z1, z2]
        have z5 := eq_false (show ¬ 9223372036854775807 < s.size + (hexd q).size by omega)
        have z6 := eq_false (show ¬ 9223372036854775807 < s.size + (hexd q).size + (hexd r).size by omega)
        clear z1 z2 z3 z4
        unfold digits at f5 f6
        clear hq hr
        have t1 := eq_true (show (0 : Int) ≤ (i : Int) by omega)
        have t2 := eq_true (show (i : Int) < 32 by omega)
        have hw : wrap64 ((i : Int) + 1) = ((i + 1 : Nat) : Int) := by unfold wrap64; omega
        have HW := Aside0.mk hw
        have HI0 := Aside0.mk hi
        rw [← hs]
        have HS := Aside0.mk hs
        have HX := Aside0.mk hx
        clear hx hs hlt hw
        go_wp2
        refine start_any (n := 24) (S := fun w' => Below wr.heap.size wr w') (ds := []) #[false, false, false, false, false, false, false, false, false, false, false, false, false, false, false, false, false, false, false, false, false, false, false, false] (by kernel_rfl) rfl rfl (below_drew1 (Below.refl _ _)) (fun wa hHeld => ?_); refine with_tabW tx5.tab5 tx5.bits5 (fun HT_ HW_ => ?_)
        refine pure_ (i := 0) (N := some 9) (v := ?_) (a' := ?_) #[true, false, false, false, false, false, false, false, false, false, false, false, false, false, false, false, false, false, false, false, false, false, false, false] rfl rfl (any_of HT_.out (by kernel_rfl)) (fun _ _ _ h => h) (Or.inl ⟨by rfl, ?_⟩) ?_ ?_
        rotate_left
        · intro w'
          go_simp
          with_reducible rfl
        rotate_left
        · simp only [Act.put, List.setIfInBounds_toArray, List.set_cons_zero, List.set_cons_succ, i64_w, i32_w]
          rfl
        refine pure_ (i := 1) (N := some 10) (v := ?_) (a' := ?_) #[true, true, false, false, false, false, false, false, false, false, false, false, false, false, false, false, false, false, false, false, false, false, false, false] rfl rfl (any_of HT_.out (by kernel_rfl)) (fun _ _ _ h => h) (Or.inl ⟨by rfl, ?_⟩) ?_ ?_
        rotate_left
        · intro w'
          go_simp
          with_reducible rfl
        rotate_left
        · simp only [Act.put, List.setIfInBounds_toArray, List.set_cons_zero, List.set_cons_succ, i64_w, i32_w]
          rfl
        refine pure_ (i := 2) (N := some 11) (v := ?_) (a' := ?_) #[true, true, true, false, false, false, false, false, false, false, false, false, false, false, false, false, false, false, false, false, false, false, false, false] rfl rfl (any_of HT_.out (by kernel_rfl)) (fun _ _ _ h => h) (Or.inl ⟨by rfl, ?_⟩) ?_ ?_
        rotate_left
        · intro w'
          go_simp
          with_reducible rfl
        rotate_left
        · simp only [Act.put, List.setIfInBounds_toArray, List.set_cons_zero, List.set_cons_succ, i64_w, i32_w]
          rfl
        refine take_ (i := 3) (N := some 12) (v := ?_) (a' := ?_) #[true, true, true, true, false, false, false, false, false, false, false, false, false, false, false, false, false, false, false, false, false, false, false, false] rfl rfl (take_ofW HT_.out HW_.out (by kernel_rfl)) (fun _ _ _ h => h) (Or.inl ⟨by rfl, ?_⟩) hHeld ?_ ?_
        rotate_left
        · intro w' hw'
          have hq := HC.out w' hw'
          go_simp
          with_reducible rfl
        rotate_left
        · simp only [Act.put, List.setIfInBounds_toArray, List.set_cons_zero, List.set_cons_succ, i64_w, i32_w]
          rfl
        refine pure_ (i := 4) (N := some 13) (v := ?_) (a' := ?_) #[true, true, true, true, true, false, false, false, false, false, false, false, false, false, false, false, false, false, false, false, false, false, false, false] rfl rfl (any_of HT_.out (by kernel_rfl)) (fun _ _ _ h => h) (Or.inl ⟨by rfl, ?_⟩) ?_ ?_
        rotate_left
        · intro w'
          go_simp
          with_reducible rfl
        rotate_left
        · simp only [Act.put, List.setIfInBounds_toArray, List.set_cons_zero, List.set_cons_succ, i64_w, i32_w]
          rfl
        refine pure_ (i := 5) (N := some 14) (v := ?_) (a' := ?_) #[true, true, true, true, true, true, false, false, false, false, false, false, false, false, false, false, false, false, false, false, false, false, false, false] rfl rfl (any_of HT_.out (by kernel_rfl)) (fun _ _ _ h => h) (Or.inl ⟨by rfl, ?_⟩) ?_ ?_
        rotate_left
        · intro w'
          go_simp
          with_reducible rfl
        rotate_left
        · simp only [Act.put, List.setIfInBounds_toArray, List.set_cons_zero, List.set_cons_succ, i64_w, i32_w]
          rfl
        refine pure_ (i := 6) (N := some 15) (v := ?_) (a' := ?_) #[true, true, true, true, true, true, true, false, false, false, false, false, false, false, false, false, false, false, false, false, false, false, false, false] rfl rfl (any_of HT_.out (by kernel_rfl)) (fun _ _ _ h => h) (Or.inl ⟨by rfl, ?_⟩) ?_ ?_
        rotate_left
        · intro w'
          go_simp
          with_reducible rfl
        rotate_left
        · simp only [Act.put, List.setIfInBounds_toArray, List.set_cons_zero, List.set_cons_succ, i64_w, i32_w]
          rfl
        refine take_ (i := 7) (N := some 16) (v := ?_) (a' := ?_) #[true, true, true, true, true, true, true, true, false, false, false, false, false, false, false, false, false, false, false, false, false, false, false, false] rfl rfl (take_ofW HT_.out HW_.out (by kernel_rfl)) (fun _ _ _ h => h) (Or.inl ⟨by rfl, ?_⟩) hHeld ?_ ?_
        rotate_left
        · intro w' hw'
          have hq := HC.out w' hw'
          go_simp
          with_reducible rfl
        rotate_left
        · simp only [Act.put, List.setIfInBounds_toArray, List.set_cons_zero, List.set_cons_succ, i64_w, i32_w]
          rfl
        refine pure_ (i := 8) (N := some 17) (v := ?_) (a' := ?_) #[true, true, true, true, true, true, true, true, true, false, false, false, false, false, false, false, false, false, false, false, false, false, false, false] rfl rfl (any_of HT_.out (by kernel_rfl)) (fun _ _ _ h => h) (Or.inl ⟨by rfl, ?_⟩) ?_ ?_
        rotate_left
        · intro w'
          go_simp
          with_reducible rfl
        rotate_left
        · simp only [Act.put, List.setIfInBounds_toArray, List.set_cons_zero, List.set_cons_succ, i64_w, i32_w]
          rfl
        refine pure_ (i := 9) (N := some 18) (v := ?_) (a' := ?_) #[true, true, true, true, true, true, true, true, true, true, false, false, false, false, false, false, false, false, false, false, false, false, false, false] rfl rfl (any_of HT_.out (by kernel_rfl)) (fun _ _ _ h => h) (Or.inl ⟨by rfl, ?_⟩) ?_ ?_
        rotate_left
        · intro w'
          go_simp
          with_reducible rfl
        rotate_left
        · simp only [Act.put, List.setIfInBounds_toArray, List.set_cons_zero, List.set_cons_succ, i64_w, i32_w]
          rfl
        refine pure_ (i := 10) (N := some 19) (v := ?_) (a' := ?_) #[true, true, true, true, true, true, true, true, true, true, true, false, false, false, false, false, false, false, false, false, false, false, false, false] rfl rfl (any_of HT_.out (by kernel_rfl)) (fun _ _ _ h => h) (Or.inl ⟨by rfl, ?_⟩) ?_ ?_
        rotate_left
        · intro w'
          go_simp
          with_reducible rfl
        rotate_left
        · simp only [Act.put, List.setIfInBounds_toArray, List.set_cons_zero, List.set_cons_succ, i64_w, i32_w]
          rfl
        refine pure_ (i := 11) (N := some 20) (v := ?_) (a' := ?_) #[true, true, true, true, true, true, true, true, true, true, true, true, false, false, false, false, false, false, false, false, false, false, false, false] rfl rfl (any_of HT_.out (by kernel_rfl)) (fun _ _ _ h => h) (Or.inl ⟨by rfl, ?_⟩) ?_ ?_
        rotate_left
        · intro w'
          go_simp
          with_reducible rfl
        rotate_left
        · simp only [Act.put, List.setIfInBounds_toArray, List.set_cons_zero, List.set_cons_succ, i64_w, i32_w]
          rfl
        refine pure_ (i := 12) (N := some 21) (v := ?_) (a' := ?_) #[true, true, true, true, true, true, true, true, true, true, true, true, true, false, false, false, false, false, false, false, false, false, false, false] rfl rfl (any_of HT_.out (by kernel_rfl)) (fun _ _ _ h => h) (Or.inl ⟨by rfl, ?_⟩) ?_ ?_
        rotate_left
        · intro w'
          go_simp
          with_reducible rfl
        rotate_left
        · simp only [Act.put, List.setIfInBounds_toArray, List.set_cons_zero, List.set_cons_succ, i64_w, i32_w]
          rfl
        refine pure_ (i := 13) (N := some 22) (v := ?_) (a' := ?_) #[true, true, true, true, true, true, true, true, true, true, true, true, true, true, false, false, false, false, false, false, false, false, false, false] rfl rfl (any_of HT_.out (by kernel_rfl)) (fun _ _ _ h => h) (Or.inl ⟨by rfl, ?_⟩) ?_ ?_
        rotate_left
        · intro w'
          go_simp
          with_reducible rfl
        rotate_left
        · simp only [Act.put, List.setIfInBounds_toArray, List.set_cons_zero, List.set_cons_succ, i64_w, i32_w]
          rfl
        refine take_ (i := 14) (N := some 23) (v := ?_) (a' := ?_) #[true, true, true, true, true, true, true, true, true, true, true, true, true, true, true, false, false, false, false, false, false, false, false, false] rfl rfl (take_ofW HT_.out HW_.out (by kernel_rfl)) (fun _ _ _ h => h) (Or.inl ⟨by rfl, ?_⟩) hHeld ?_ ?_
        rotate_left
        · intro w' hw'
          have hq := HC.out w' hw'
          go_simp
          with_reducible rfl
        rotate_left
        · simp only [Act.put, List.setIfInBounds_toArray, List.set_cons_zero, List.set_cons_succ, i64_w, i32_w]
          rfl
        refine pure_ (i := 15) (N := some 24) (v := ?_) (a' := ?_) #[true, true, true, true, true, true, true, true, true, true, true, true, true, true, true, true, false, false, false, false, false, false, false, false] rfl rfl (any_of HT_.out (by kernel_rfl)) (fun _ _ _ h => h) (Or.inl ⟨by rfl, ?_⟩) ?_ ?_
        rotate_left
        · intro w'
          go_simp
          with_reducible rfl
        rotate_left
        · simp only [Act.put, List.setIfInBounds_toArray, List.set_cons_zero, List.set_cons_succ, i64_w, i32_w]
          rfl
        refine pure_ (i := 16) (N := some 25) (v := ?_) (a' := ?_) #[true, true, true, true, true, true, true, true, true, true, true, true, true, true, true, true, true, false, false, false, false, false, false, false] rfl rfl (any_of HT_.out (by kernel_rfl)) (fun _ _ _ h => h) (Or.inl ⟨by rfl, ?_⟩) ?_ ?_
        rotate_left
        · intro w'
          go_simp
          with_reducible rfl
        rotate_left
        · simp only [Act.put, List.setIfInBounds_toArray, List.set_cons_zero, List.set_cons_succ, i64_w, i32_w]
          rfl
        refine pure_ (i := 17) (N := some 26) (v := ?_) (a' := ?_) #[true, true, true, true, true, true, true, true, true, true, true, true, true, true, true, true, true, true, false, false, false, false, false, false] rfl rfl (any_of HT_.out (by kernel_rfl)) (fun _ _ _ h => h) (Or.inl ⟨by rfl, ?_⟩) ?_ ?_
        rotate_left
        · intro w'
          go_simp
          with_reducible rfl
        rotate_left
        · simp only [Act.put, List.setIfInBounds_toArray, List.set_cons_zero, List.set_cons_succ, i64_w, i32_w]
          rfl
        refine take_ (i := 18) (N := some 27) (v := ?_) (a' := ?_) #[true, true, true, true, true, true, true, true, true, true, true, true, true, true, true, true, true, true, true, false, false, false, false, false] rfl rfl (take_ofW HT_.out HW_.out (by kernel_rfl)) (fun _ _ _ h => h) (Or.inl ⟨by rfl, ?_⟩) hHeld ?_ ?_
        rotate_left
        · intro w' hw'
          have hq := HC.out w' hw'
          go_simp
          with_reducible rfl
        rotate_left
        · simp only [Act.put, List.setIfInBounds_toArray, List.set_cons_zero, List.set_cons_succ, i64_w, i32_w]
          rfl
        refine pure_ (i := 19) (N := some 28) (v := ?_) (a' := ?_) #[true, true, true, true, true, true, true, true, true, true, true, true, true, true, true, true, true, true, true, true, false, false, false, false] rfl rfl (any_of HT_.out (by kernel_rfl)) (fun _ _ _ h => h) (Or.inl ⟨by rfl, ?_⟩) ?_ ?_
        rotate_left
        · intro w'
          go_simp
          with_reducible rfl
        rotate_left
        · simp only [Act.put, List.setIfInBounds_toArray, List.set_cons_zero, List.set_cons_succ, i64_w, i32_w]
          rfl
        refine pure_ (i := 20) (N := some 29) (v := ?_) (a' := ?_) #[true, true, true, true, true, true, true, true, true, true, true, true, true, true, true, true, true, true, true, true, true, false, false, false] rfl rfl (any_of HT_.out (by kernel_rfl)) (fun _ _ _ h => h) (Or.inl ⟨by rfl, ?_⟩) ?_ ?_
        rotate_left
        · intro w'
          go_simp
          with_reducible rfl
        rotate_left
        · simp only [Act.put, List.setIfInBounds_toArray, List.set_cons_zero, List.set_cons_succ, i64_w, i32_w]
          rfl
        refine pure_ (i := 21) (N := some 30) (v := ?_) (a' := ?_) #[true, true, true, true, true, true, true, true, true, true, true, true, true, true, true, true, true, true, true, true, true, true, false, false] rfl rfl (any_of HT_.out (by kernel_rfl)) (fun _ _ _ h => h) (Or.inl ⟨by rfl, ?_⟩) ?_ ?_
        rotate_left
        · intro w'
          go_simp
          with_reducible rfl
        rotate_left
        · simp only [Act.put, List.setIfInBounds_toArray, List.set_cons_zero, List.set_cons_succ, i64_w, i32_w]
          rfl
        refine pure_ (i := 22) (N := some 31) (v := ?_) (a' := ?_) #[true, true, true, true, true, true, true, true, true, true, true, true, true, true, true, true, true, true, true, true, true, true, true, false] rfl rfl (any_of HT_.out (by kernel_rfl)) (fun _ _ _ h => h) (Or.inl ⟨by rfl, ?_⟩) ?_ ?_
        rotate_left
        · intro w'
          go_simp
          with_reducible rfl
        rotate_left
        · simp only [Act.put, List.setIfInBounds_toArray, List.set_cons_zero, List.set_cons_succ, i64_w, i32_w]
          rfl
        refine pure_ (i := 23) (N := some 3) (v := ?_) (a' := ?_) #[true, true, true, true, true, true, true, true, true, true, true, true, true, true, true, true, true, true, true, true, true, true, true, true] rfl rfl (any_of HT_.out (by kernel_rfl)) (fun _ _ _ h => h) (Or.inl ⟨by rfl, ?_⟩) ?_ ?_
        rotate_left
        · intro w'
          go_simp
          with_reducible rfl
        rotate_left
        · simp only [Act.put, List.setIfInBounds_toArray, List.set_cons_zero, List.set_cons_succ, i64_w, i32_w]
          rfl
        refine done_ (done_of HT_.out (by kernel_rfl)) ?_
        go_wp2
        go_roundg k2
        case measure => have := HI.out; omega
        case rel => exact ⟨i + 1, (by rw [textOf_take bs i (by rw [HL.out]; have := HI0.out; omega), ← HS.out, ← HX.out]; unfold step; rw [← HQ.out.1, ← HQ.out.2]), (congrArg _ (by push_cast; rfl)), ⟨by have := HI0.out; omega, by have := HI.out; have := HI0.out; omega⟩, ⟨(hHeld.block _ (Array.getElem?_eq_some_iff.1 HR.out).1).trans HR.out⟩, ⟨below_step HB.out hHeld⟩⟩
      · have c1 : decide (i < 32) = false := decide_eq_false hi
        have ei : i = 32 := by have := HI.out; omega
        subst ei
        clear hi
        have HT := List.take_of_length_le (Nat.le_of_eq HL.out)
        rw [HT]
        clear HT
        go_wp2
        go_ret
        exact ⟨rfl, HB.out⟩
end Go.Proofs.YtldkofdpohaahaaDoor.Text
