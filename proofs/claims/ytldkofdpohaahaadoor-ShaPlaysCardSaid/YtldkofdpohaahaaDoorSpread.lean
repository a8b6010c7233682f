/- The words of the rounds (sha.spread): its contract; for 64 bytes. -/
import Derived.Test.YtldkofdpohaahaaDoorSched
import Derived.Laws.Rows
import Derived.Laws.Tables
namespace Go.Proofs.YtldkofdpohaahaaDoor.Spread
open Go.RowKit Go.Proofs.YtldkofdpohaahaaDoorW.PrintWords Go.Proofs.YtldkofdpohaahaaDoorW.PrintLast Go.Proofs.YtldkofdpohaahaaDoorW.PrintMore Go.Proofs.YtldkofdpohaahaaDoor.Turn Go.Proofs.YtldkofdpohaahaaDoor.Word Go.Proofs.YtldkofdpohaahaaDoor.New Go.Proofs.YtldkofdpohaahaaDoor.Plain Go.Proofs.YtldkofdpohaahaaDoor.Sched
set_option linter.unusedVariables false
set_option linter.unusedSimpArgs false
def sp10.T10 : Bool × List (List Nat × List Nat) := (true, [([], []), ([0], [0]), ([1], [1]), ([2], [2]), ([], []), ([4], [4]), ([5], [5]), ([6], [6]), ([3, 0, 1, 2, 3], [3]), ([7, 8, 0, 1, 2, 3, 4, 5, 6, 7, 8], [7])])
def sp10.B10 : List Nat := [0, 1, 3, 7, 0, 16, 48, 112, 15, 511]
theorem sp10.tab10 : rtab .any (opsOf Tryd.f18 10) = sp10.T10 := by kernel_rfl
theorem sp10.bits10 : waitsOk sp10.T10.2 sp10.B10 = true := by kernel_rfl
def sp11.T11 : Bool × List (List Nat × List Nat) := (true, [([], []), ([], []), ([1], [1]), ([2], [2]), ([3], [3]), ([], []), ([5], [5]), ([], []), ([7, 6], [7]), ([6, 8], [6, 8]), ([], []), ([10], [10]), ([9, 11], [9, 11]), ([4, 12], [4, 12]), ([], []), ([14], [14]), ([15], [15]), ([16], [16]), ([13, 17], [13, 17]), ([], []), ([19, 8], [19]), ([], []), ([21, 20], [21]), ([20, 22], [20, 22]), ([], []), ([24], [24]), ([23, 25], [23, 25]), ([18, 26], [18, 26]), ([0, 0, 1, 2, 3, 4, 5, 6, 7, 8, 9, 10, 11, 12, 13, 14, 15, 16, 17, 18, 19, 20, 21, 22, 23, 24, 25, 26, 27], [0]), ([28, 27, 22, 0, 1, 2, 3, 4, 5, 6, 7, 8, 9, 10, 11, 12, 13, 14, 15, 16, 17, 18, 19, 20, 21, 22, 23, 24, 25, 26, 27], [27, 28])])
def sp11.B11 : List Nat := [0, 0, 2, 6, 14, 0, 32, 0, 224, 480, 0, 1024, 4064, 8190, 0, 16384, 49152, 114688, 262142, 0, 524768, 0, 3670496, 7864800, 0, 16777216, 66585056, 134217726, 268435455, 536870911]
theorem sp11.tab11 : rtab .any (opsOf Tryd.f18 11) = sp11.T11 := by kernel_rfl
theorem sp11.bits11 : waitsOk sp11.T11.2 sp11.B11 = true := by kernel_rfl
theorem start_any {P : Program} {ops : Array Oper} {Q : Exit → Act → World → Prop} {S : World → Prop} {ds : List Nat} {id n : Nat} {a : Act} {w : World} (l : Array Bool) (hm : P.follows .mixedOrders = true) (hn : ops.size = n) (hl : Array.replicate n false = l) (hS : S w.drew)
    (h : ∀ wd, S wd → wpAnyLast P .any ops Q S ds n l a wd) : (Code.region id ops true).wp P Q a w := start_ l hm hn hl hS (fun _ => h _ hS)
def rowOf (ws : List Int) : Array Value := (ws.map (Value.int .u32)).toArray
def z64 : List Int := List.replicate 64 0
theorem rowOf_size (ws : List Int) : (rowOf ws).size = ws.length := by simp [rowOf]
theorem rowOf_get (ws : List Int) (i : Nat) (h : i < ws.length) : (rowOf ws)[i]? = some (.int .u32 (ws.getD i 0)) := by simp [rowOf, h]
theorem rowOf_set (ws : List Int) (i : Nat) (x : Int) : (rowOf ws).setIfInBounds i (.int .u32 x) = rowOf (ws.set i x) := by
  apply Array.ext'
  simp [rowOf, List.map_set]
/-- what of a row is filled, the rest 0 -/
def filled (l : List Int) (i : Nat) : List Int := l.take i ++ List.replicate (64 - i) 0
theorem filled_set (l : List Int) (i : Nat) (h : i < l.length) (h2 : i < 64) : (filled l i).set i (l.getD i 0) = filled l (i + 1) := by
  unfold filled
  have hl : (l.take i).length = i := by rw [List.length_take]; omega
  rw [List.set_append_right _ _ (by omega), hl, Nat.sub_self, show 64 - i = (64 - (i + 1)) + 1 by omega, List.replicate_succ, List.set_cons_zero, List.take_succ_eq_append_getElem h, List.append_assoc, show l.getD i 0 = l[i] by simp [h]]; rfl
theorem filled_len (l : List Int) (i : Nat) (h : i ≤ l.length) (h2 : i ≤ 64) : (filled l i).length = 64 := by
  unfold filled; rw [List.length_append, List.length_take, List.length_replicate]; omega

theorem filled_all (l : List Int) (h : l.length = 64) : filled l 64 = l := by
  unfold filled; rw [List.take_of_length_le (Nat.le_of_eq h), Nat.sub_self, List.replicate_zero, List.append_nil]
theorem size49 {ws : List Int} (h : ws.length = 64) : (Tryd.prog.info? 49).map (·.size) = some (rowOf ws).size := by rw [rowOf_size, h]; kernel_rfl
theorem rowOf_one (ws : List Int) : (rowOf ws).all (·.oneCell') = true := by simp [rowOf, Value.oneCell']
theorem alloc2_first (w : World) (A B : Obj) : ((w.alloc A).alloc B).heap[w.heap.size]? = some A := by
  show ((w.heap.push A).push B)[w.heap.size]? = some A
  simp [Array.getElem?_push]
theorem below_setRow {n : Nat} {W0 W : World} (h : Below n W0 W) {g : Nat} (hg : n ≤ g) (cs : Array Value) : Below n W0 (W.setRow g cs) :=
  h.trans ⟨rfl, rfl, rfl, by rw [setRow_size]; exact Nat.le_refl _, fun k hk => setRow_other W g k cs (by omega)⟩
theorem filled_get (l : List Int) (i j : Nat) (hj : j < i) (hi : i ≤ l.length) : (filled l i).getD j 0 = l.getD j 0 := by
  unfold filled
  rw [List.getD_eq_getElem?_getD, List.getElem?_append_left (by rw [List.length_take]; omega), List.getElem?_take_of_lt (by omega), ← List.getD_eq_getElem?_getD]
theorem filled_cell (w' : World) (p : Nat) (l : List Int) (i : Int) (d : Nat) (j x : Int) (hl : l.length = 64) (hr : w'.heap[p]? = some (.cells (rowOf (filled l i.toNat)) 49)) (i0 : 16 ≤ i) (i1 : i ≤ 64) (hd : 1 ≤ d) (hd2 : d ≤ 16) (hj : j = i - d) (hx : x = l.getD (i.toNat - d) 0) : w'.cell? ⟨p, j.toNat, none⟩ = some (.int .u32 x) := by
  have e : j.toNat = i.toNat - d := by omega
  rw [cell_of_row w' _ _ _ 49 (0, 0) hr, hx, e, rowOf_get _ _ (by rw [filled_len _ _ (by omega) (by omega)]; omega), filled_get _ _ _ (by omega) (by omega)]
theorem filled_at (w' : World) (p : Nat) (l : List Int) (i : Int) (hl : l.length = 64) (hr : w'.heap[p]? = some (.cells (rowOf (filled l i.toNat)) 49)) (i0 : 16 ≤ i) (hi : i < 64) : ∃ v, w'.cell? ⟨p, i.toNat, none⟩ = some v ∧ w'.frozen? ⟨p, i.toNat, none⟩ = false :=
  ⟨.int .u32 ((filled l i.toNat).getD i.toNat 0), (by rw [cell_of_row w' _ _ _ 49 (0, 0) hr]; exact rowOf_get _ _ (by rw [filled_len _ _ (by omega) (by omega)]; omega)), frozen_of_row w' _ _ _ 49 hr⟩
theorem addr_add (a : Addr) (i j : Nat) : (a.add i).add j = a.add (i + j) := by
  unfold Addr.add
  by_cases hi : i = 0
  · subst hi; simp
  · by_cases hj : j = 0
    · subst hj; simp
    · rw [if_neg hi, if_neg hj, if_neg (by omega)]; simp [Nat.add_assoc]
theorem first16_len (b : List Int) : (first16 b).length = 16 := by unfold first16; rw [List.length_map, List.length_range]
theorem word_at (ad : Addr) (n c : Nat) (b : List Int) (i : Int) (w : World) (hi : 0 ≤ i ∧ i < 16) (hb : b.length = 64) (hB : ∀ x ∈ b, 0 ≤ x ∧ x < 256) (hn : 4 ≤ n) (h : ∀ k, k < 64 → w.cell? (ad.add k) = some (.int .u8 (b.getD k 0))) :
    Calls Tryd.prog 20 #[.slice (some (ad.add (4 * i).toNat)) n c] w fun e w' => e = .returned (.int .u32 ((first16 b).getD i.toNat 0)) ∧ Below w.heap.size w w' := by
  have hg : ∀ k, k < 64 → 0 ≤ b.getD k 0 ∧ b.getD k 0 < 256 := fun k hk => by
    have : b.getD k 0 = b[k] := by simp [show k < b.length by omega]
    rw [this]; exact hB _ (List.getElem_mem _)
  have hm : (4 * i).toNat = 4 * i.toNat := by omega
  have hf : (first16 b).getD i.toNat 0 = word4 (b.getD (4 * i.toNat) 0) (b.getD (4 * i.toNat + 1) 0) (b.getD (4 * i.toNat + 2) 0) (b.getD (4 * i.toNat + 3) 0) := by
    unfold first16
    rw [List.getD_eq_getElem?_getD, List.getElem?_map, List.getElem?_range (by omega)]; rfl
  rw [hf, hm]
  exact word_any _ n c _ _ _ _ w hn ⟨by rw [addr_add]; exact h _ (by omega), by rw [addr_add]; exact h _ (by omega), by rw [addr_add]; exact h _ (by omega), by rw [addr_add]; exact h _ (by omega)⟩ (hg _ (by omega)) (hg _ (by omega)) (hg _ (by omega)) (hg _ (by omega))

set_option maxHeartbeats 2000000 in
set_option maxRecDepth 100000 in
theorem spread_any (ad : Addr) (c : Nat) (b : List Int) (w : World) (hb : b.length = 64) (hc : 64 ≤ c) (hB : ∀ x ∈ b, 0 ≤ x ∧ x < 256) (h : ∀ i, i < 64 → w.cell? (ad.add i) = some (.int .u8 (b.getD i 0))) :
    Calls Tryd.prog 18 #[.slice (some ad) 64 c] w fun e w' => e = .returned (.agg (rowOf (sched b))) ∧ Below w.heap.size w w' := by
  have H := Aside0.mk h
  have HN := Aside0.mk (And.intro hb (And.intro hc hB))
  have HW2 := Aside0.mk (below_alloc (below_alloc (Below.refl w.heap.size w) (.cells (rowOf z64) 49)) (.cells (rowOf z64) 49))
  have HB := Aside0.mk (Below.refl ((w.alloc (.cells (rowOf z64) 49)).alloc (.cells (rowOf z64) 49)).heap.size ((w.alloc (.cells (rowOf z64) 49)).alloc (.cells (rowOf z64) 49)))
  clear h hb hc hB
  go_enter Tryd.func18, Tryd.ntmps18
  go_wp2
  go_loopg [8] 17 (fun kq v8 w' => ∃ i : Int, v8 = .int .i64 i ∧ Aside0 (0 ≤ i ∧ i ≤ 16 ∧ 16 - i < kq) ∧ Aside0 (w'.heap[w.heap.size + 1]? = some (.cells (rowOf (filled (first16 b) i.toNat)) 49)) ∧ Aside0 (Below (w.heap.size + 1) ((w.alloc (.cells (rowOf z64) 49)).alloc (.cells (rowOf z64) 49)) w'))
  case atStart => exact ⟨0, rfl, ⟨by omega, by omega, by omega⟩, ⟨(heap_alloc2_new w _ _).trans (by rfl)⟩, ⟨Below.mono (HB.out) (by simp)⟩⟩
  case round =>
    clear HB
    obtain ⟨i, rfl, HI, HR, HB⟩ := hrel
    cases gk with
    | zero => exact absurd HI.out (by omega)
    | succ k2 =>
      obtain ⟨i0, i1, ik⟩ := HI.out
      by_cases hi : i < 16
      · have c1 : decide (i < 16) = true := decide_eq_true hi
        have s1 := eq_true i0
        have s2 := eq_true hi
        have hw : wrap64 (i + 1) = i + 1 := by unfold wrap64; omega
        have hw4 : wrap64 (4 * i) = 4 * i := by unfold wrap64; omega
        have t1 := eq_true (show 0 ≤ 4 * i by omega)
        have t2 := eq_true (show 4 * i ≤ 64 by omega)
        have HW := Aside0.mk hw
        have s3 := eq_true (show i < 64 by omega)
        have t3 := eq_true (show (4 * i).toNat < c by have := HN.out.2.1; omega)
        have t4 := eq_true (show (4 * i).toNat ≤ c by have := HN.out.2.1; omega)
        obtain ⟨c1', t5⟩ : ∃ c1', c - (4 * i).toNat = c1' + 1 := ⟨c - (4 * i).toNat - 1, by have := HN.out.2.1; omega⟩
        have t6 := eq_true (show 4 * i < (c : Int) by have := HN.out.2.1; omega)
        have t7 := eq_true (show 4 * i ≤ (c : Int) by have := HN.out.2.1; omega)
        have t8 := eq_false (show ¬ (4 * i).toNat = c by have := HN.out.2.1; omega)
        have h4 : 4 ≤ 64 - (4 * i).toNat := by omega
        have H4 := Aside0.mk h4
        have HI0 := Aside0.mk (And.intro i0 hi)
        clear i0 i1 ik hi hw h4
        go_wp2_with (first | (go_at_call 20; (with_reducible refine (word_at ad _ _ b i _ HI0.out HN.out.1 HN.out.2.2 H4.out (fun k hk => (HB.out.cell (Nat.lt_of_lt_of_le (World.block_lt_of_cell? w _ (H.out k hk)) (Nat.le_succ _))).trans (((below_alloc (below_alloc (Below.refl w.heap.size w) (.cells (rowOf z64) 49)) (.cells (rowOf z64) 49)).cell (World.block_lt_of_cell? w _ (H.out k hk))).trans (H.out k hk)))).mono ?_); rintro e w5 ⟨rfl, hb⟩; have hlt := (Array.getElem?_eq_some_iff.1 HR.out).1; have hr5 := (hb.block (w.heap.size + 1) hlt).trans HR.out; have q1 : w5.cell? ⟨w.heap.size + 1, i.toNat, none⟩ = some (.int .u32 ((filled (first16 b) i.toNat).getD i.toNat 0)) := (by rw [cell_of_row w5 _ _ _ 49 (0, 0) hr5]; exact rowOf_get _ _ (by rw [filled_len _ _ (by rw [first16_len]; have := HI0.out; omega) (by have := HI0.out; omega)]; have := HI0.out; omega)); have q2 := frozen_of_row w5 (w.heap.size + 1) i.toNat _ 49 hr5; have HR5 := Aside0.mk hr5; have HB5 := Aside0.mk (HB.out.trans (hb.mono (Nat.le_of_lt hlt))); clear hlt hr5 hb))
        go_roundg k2
        case measure => have := HI.out; omega
        case rel => exact ⟨i + 1, (by rw [HW.out]), ⟨by have := HI.out; omega, by have := HI0.out; omega, by have := HI.out; omega⟩, ⟨(heap_setCell_same w5 (w.heap.size + 1) i.toNat _ 49 _ HR5.out).trans (by rw [rowOf_set, ← List.getD_eq_getElem?_getD, filled_set _ _ (by rw [first16_len]; have := HI0.out; omega) (by have := HI0.out; omega), show (i + 1).toNat = i.toNat + 1 by have := HI0.out; omega])⟩, ⟨HB5.out.setCell (p := ⟨w.heap.size + 1, i.toNat, none⟩) (Nat.le_refl _) _⟩⟩
      · have ei : i = 16 := by omega
        subst ei
        have c1 : decide ((16 : Int) < 16) = false := by decide
        have HR16 : Aside0 (wr.heap[w.heap.size + 1]? = some (.cells (rowOf (filled (sched b) 16)) 49)) := ⟨by
          rw [HR.out]; unfold filled; rw [sched_16, show ((16 : Int).toNat) = 16 from rfl, List.take_of_length_le (Nat.le_of_eq (first16_len b))]⟩
        clear i0 i1 ik hi HI HR
        go_wp2
        go_loopg [5] 49 (fun kq v5 w' => ∃ i : Int, v5 = .int .i64 i ∧ Aside0 (16 ≤ i ∧ i ≤ 64 ∧ 64 - i < kq) ∧ Aside0 (w'.heap[w.heap.size + 1]? = some (.cells (rowOf (filled (sched b) i.toNat)) 49)) ∧ Aside0 (Below (w.heap.size + 1) ((w.alloc (.cells (rowOf z64) 49)).alloc (.cells (rowOf z64) 49)) w'))
        case atStart => exact ⟨16, rfl, ⟨by omega, by omega, by omega⟩, HR16, HB⟩
        case round =>
          clear HB HR16
          obtain ⟨i, rfl, HI, HR, HB⟩ := hrel
          cases gk with
          | zero => exact absurd HI.out (by omega)
          | succ k3 =>
            obtain ⟨i0, i1, ik⟩ := HI.out
            by_cases hi : i < 64
            · have c2 : decide (i < 64) = true := decide_eq_true hi
              have hlt := (Array.getElem?_eq_some_iff.1 HR.out).1
              have HLT := Aside0.mk hlt
              have hcell : ∀ (d : Nat) (j : Int) (x : Int), 1 ≤ d → d ≤ 16 → j = i - d → x = (sched b).getD (i.toNat - d) 0 → ∀ w', Below wr.heap.size wr w' → w'.cell? ⟨w.heap.size + 1, j.toNat, none⟩ = some (.int .u32 x) := fun d j x hd hd2 hj hx w' hw' =>
                filled_cell w' (w.heap.size + 1) (sched b) i d j x (sched_length b) ((hw'.block _ hlt).trans HR.out) i0 i1 hd hd2 hj hx
              obtain ⟨x15, e15⟩ : ∃ x, x = (sched b).getD (i.toNat - 15) 0 := ⟨_, rfl⟩
              obtain ⟨x2, e2⟩ : ∃ x, x = (sched b).getD (i.toNat - 2) 0 := ⟨_, rfl⟩
              obtain ⟨x16, e16⟩ : ∃ x, x = (sched b).getD (i.toNat - 16) 0 := ⟨_, rfl⟩
              obtain ⟨x7, e7⟩ : ∃ x, x = (sched b).getD (i.toNat - 7) 0 := ⟨_, rfl⟩
              have hnx := sched_next b i.toNat (by omega) (by omega)
              rw [← e15, ← e2, ← e16, ← e7] at hnx
              have HNX := Aside0.mk hnx
              have HC15 := Aside0.mk (hcell 15 (i - 15) x15 (by omega) (by omega) rfl e15)
              have HC2 := Aside0.mk (hcell 2 (i - 2) x2 (by omega) (by omega) rfl e2)
              have HC16 := Aside0.mk (hcell 16 (i - 16) x16 (by omega) (by omega) rfl e16)
              have HC7 := Aside0.mk (hcell 7 (i - 7) x7 (by omega) (by omega) rfl e7)
              have hc0 : ∀ w', Below wr.heap.size wr w' → ∃ v, w'.cell? ⟨w.heap.size + 1, i.toNat, none⟩ = some v ∧ w'.frozen? ⟨w.heap.size + 1, i.toNat, none⟩ = false := fun w' hw' => by
                have hr := (hw'.block _ hlt).trans HR.out
                exact filled_at w' (w.heap.size + 1) (sched b) i (sched_length b) hr i0 hi
              have HC0 := Aside0.mk hc0
              have w15 : wrap64 (i - 15) = i - 15 := by unfold wrap64; omega
              have w2 : wrap64 (i - 2) = i - 2 := by unfold wrap64; omega
              have w16 : wrap64 (i - 16) = i - 16 := by unfold wrap64; omega
              have w7 : wrap64 (i - 7) = i - 7 := by unfold wrap64; omega
              have hw : wrap64 (i + 1) = i + 1 := by unfold wrap64; omega
              have HW := Aside0.mk hw
              have a1 := eq_true (show 0 ≤ i - 15 by omega)
              have a2 := eq_true (show i - 15 < 64 by omega)
              have a3 := eq_true (show 0 ≤ i - 2 by omega)
              have a4 := eq_true (show i - 2 < 64 by omega)
              have a5 := eq_true (show 0 ≤ i - 16 by omega)
              have a6 := eq_true (show i - 16 < 64 by omega)
              have a7 := eq_true (show 0 ≤ i - 7 by omega)
              have a8 := eq_true (show i - 7 < 64 by omega)
              have a9 := eq_true (show 0 ≤ i by omega)
              have b15 := eq_true (show 15 ≤ i by omega)
              have b2 := eq_true (show 2 ≤ i by omega)
              have b16 := eq_true (show 16 ≤ i by omega)
              have b7 := eq_true (show 7 ≤ i by omega)
              have a10 := eq_true hi
              have HI0 := Aside0.mk (And.intro i0 hi)
              clear hlt hcell hnx hc0 e15 e2 e16 e7 i0 i1 ik hi hw
              go_wp2
              refine start_any (n := 10) (S := fun w' => Below wr.heap.size wr w') (ds := []) #[false, false, false, false, false, false, false, false, false, false] (by kernel_rfl) rfl rfl (below_drew1 (Below.refl _ _)) (fun wa hHeld => ?_); refine with_tabW sp10.tab10 sp10.bits10 (fun HT_ HW_ => ?_)
              refine pure_ (i := 0) (N := some 23) (v := ?_) (a' := ?_) #[true, false, false, false, false, false, false, false, false, false] rfl rfl (any_of HT_.out (by kernel_rfl)) (fun _ _ _ h => h) (Or.inl ⟨by rfl, ?_⟩) ?_ ?_
              rotate_left
              · intro w'
                go_simp
                with_reducible rfl
              rotate_left
              · simp only [Act.put, List.setIfInBounds_toArray, List.set_cons_zero, List.set_cons_succ, i64_w, i32_w]
                rfl
              refine pure_ (i := 1) (N := some 24) (v := ?_) (a' := ?_) #[true, true, false, false, false, false, false, false, false, false] rfl rfl (any_of HT_.out (by kernel_rfl)) (fun _ _ _ h => h) (Or.inl ⟨by rfl, ?_⟩) ?_ ?_
              rotate_left
              · intro w'
                go_simp
                with_reducible rfl
              rotate_left
              · simp only [Act.put, List.setIfInBounds_toArray, List.set_cons_zero, List.set_cons_succ, i64_w, i32_w]
                rfl
              refine pure_ (i := 2) (N := some 25) (v := ?_) (a' := ?_) #[true, true, true, false, false, false, false, false, false, false] rfl rfl (any_of HT_.out (by kernel_rfl)) (fun _ _ _ h => h) (Or.inl ⟨by rfl, ?_⟩) ?_ ?_
              rotate_left
              · intro w'
                go_simp
                with_reducible rfl
              rotate_left
              · simp only [Act.put, List.setIfInBounds_toArray, List.set_cons_zero, List.set_cons_succ, i64_w, i32_w]
                rfl
              refine take_ (i := 3) (N := some 26) (v := ?_) (a' := ?_) #[true, true, true, true, false, false, false, false, false, false] rfl rfl (take_ofW HT_.out HW_.out (by kernel_rfl)) (fun _ _ _ h => h) (Or.inl ⟨by rfl, ?_⟩) hHeld ?_ ?_
              rotate_left
              · intro w' hw'
                have hq := HC15.out w' hw'
                go_simp
                with_reducible rfl
              rotate_left
              · simp only [Act.put, List.setIfInBounds_toArray, List.set_cons_zero, List.set_cons_succ, i64_w, i32_w]
                rfl
              refine pure_ (i := 4) (N := some 27) (v := ?_) (a' := ?_) #[true, true, true, true, true, false, false, false, false, false] rfl rfl (any_of HT_.out (by kernel_rfl)) (fun _ _ _ h => h) (Or.inl ⟨by rfl, ?_⟩) ?_ ?_
              rotate_left
              · intro w'
                go_simp
                with_reducible rfl
              rotate_left
              · simp only [Act.put, List.setIfInBounds_toArray, List.set_cons_zero, List.set_cons_succ, i64_w, i32_w]
                rfl
              refine pure_ (i := 5) (N := some 28) (v := ?_) (a' := ?_) #[true, true, true, true, true, true, false, false, false, false] rfl rfl (any_of HT_.out (by kernel_rfl)) (fun _ _ _ h => h) (Or.inl ⟨by rfl, ?_⟩) ?_ ?_
              rotate_left
              · intro w'
                go_simp
                with_reducible rfl
              rotate_left
              · simp only [Act.put, List.setIfInBounds_toArray, List.set_cons_zero, List.set_cons_succ, i64_w, i32_w]
                rfl
              refine pure_ (i := 6) (N := some 29) (v := ?_) (a' := ?_) #[true, true, true, true, true, true, true, false, false, false] rfl rfl (any_of HT_.out (by kernel_rfl)) (fun _ _ _ h => h) (Or.inl ⟨by rfl, ?_⟩) ?_ ?_
              rotate_left
              · intro w'
                go_simp
                with_reducible rfl
              rotate_left
              · simp only [Act.put, List.setIfInBounds_toArray, List.set_cons_zero, List.set_cons_succ, i64_w, i32_w]
                rfl
              refine take_ (i := 7) (N := some 30) (v := ?_) (a' := ?_) #[true, true, true, true, true, true, true, true, false, false] rfl rfl (take_ofW HT_.out HW_.out (by kernel_rfl)) (fun _ _ _ h => h) (Or.inl ⟨by rfl, ?_⟩) hHeld ?_ ?_
              rotate_left
              · intro w' hw'
                have hq := HC2.out w' hw'
                go_simp
                with_reducible rfl
              rotate_left
              · simp only [Act.put, List.setIfInBounds_toArray, List.set_cons_zero, List.set_cons_succ, i64_w, i32_w]
                rfl
              refine pure_ (i := 8) (N := some 6) (v := ?_) (a' := ?_) #[true, true, true, true, true, true, true, true, true, false] rfl rfl (any_of HT_.out (by kernel_rfl)) (fun _ _ _ h => h) (Or.inl ⟨by rfl, ?_⟩) ?_ ?_
              rotate_left
              · intro w'
                go_simp
                with_reducible rfl
              rotate_left
              · simp only [Act.put, List.setIfInBounds_toArray, List.set_cons_zero, List.set_cons_succ, i64_w, i32_w]
                rfl
              refine pure_ (i := 9) (N := some 7) (v := ?_) (a' := ?_) #[true, true, true, true, true, true, true, true, true, true] rfl rfl (any_of HT_.out (by kernel_rfl)) (fun _ _ _ h => h) (Or.inl ⟨by rfl, ?_⟩) ?_ ?_
              rotate_left
              · intro w'
                go_simp
                with_reducible rfl
              rotate_left
              · simp only [Act.put, List.setIfInBounds_toArray, List.set_cons_zero, List.set_cons_succ, i64_w, i32_w]
                rfl
              refine done_ (done_of HT_.out (by kernel_rfl)) ?_
              go_wp2
              refine start_any (n := 30) (S := fun w' => Below wr.heap.size wr w') (ds := [29]) #[false, false, false, false, false, false, false, false, false, false, false, false, false, false, false, false, false, false, false, false, false, false, false, false, false, false, false, false, false, false] (by kernel_rfl) rfl rfl (below_drew1 hHeld) (fun wb hHeld => ?_); refine with_tabW sp11.tab11 sp11.bits11 (fun HT_ HW_ => ?_)
              refine pure_ (i := 0) (N := some 31) (v := ?_) (a' := ?_) #[true, false, false, false, false, false, false, false, false, false, false, false, false, false, false, false, false, false, false, false, false, false, false, false, false, false, false, false, false, false] rfl rfl (any_of HT_.out (by kernel_rfl)) (fun _ _ _ h => h) (Or.inl ⟨by rfl, ?_⟩) ?_ ?_
              rotate_left
              · intro w'
                go_simp
                with_reducible rfl
              rotate_left
              · simp only [Act.put, List.setIfInBounds_toArray, List.set_cons_zero, List.set_cons_succ, i64_w, i32_w]
                rfl
              refine pure_ (i := 1) (N := some 32) (v := ?_) (a' := ?_) #[true, true, false, false, false, false, false, false, false, false, false, false, false, false, false, false, false, false, false, false, false, false, false, false, false, false, false, false, false, false] rfl rfl (any_of HT_.out (by kernel_rfl)) (fun _ _ _ h => h) (Or.inl ⟨by rfl, ?_⟩) ?_ ?_
              rotate_left
              · intro w'
                go_simp
                with_reducible rfl
              rotate_left
              · simp only [Act.put, List.setIfInBounds_toArray, List.set_cons_zero, List.set_cons_succ, i64_w, i32_w]
                rfl
              refine pure_ (i := 2) (N := some 33) (v := ?_) (a' := ?_) #[true, true, true, false, false, false, false, false, false, false, false, false, false, false, false, false, false, false, false, false, false, false, false, false, false, false, false, false, false, false] rfl rfl (any_of HT_.out (by kernel_rfl)) (fun _ _ _ h => h) (Or.inl ⟨by rfl, ?_⟩) ?_ ?_
              rotate_left
              · intro w'
                go_simp
                with_reducible rfl
              rotate_left
              · simp only [Act.put, List.setIfInBounds_toArray, List.set_cons_zero, List.set_cons_succ, i64_w, i32_w]
                rfl
              refine pure_ (i := 3) (N := some 34) (v := ?_) (a' := ?_) #[true, true, true, true, false, false, false, false, false, false, false, false, false, false, false, false, false, false, false, false, false, false, false, false, false, false, false, false, false, false] rfl rfl (any_of HT_.out (by kernel_rfl)) (fun _ _ _ h => h) (Or.inl ⟨by rfl, ?_⟩) ?_ ?_
              rotate_left
              · intro w'
                go_simp
                with_reducible rfl
              rotate_left
              · simp only [Act.put, List.setIfInBounds_toArray, List.set_cons_zero, List.set_cons_succ, i64_w, i32_w]
                rfl
              refine take_ (i := 4) (N := some 35) (v := ?_) (a' := ?_) #[true, true, true, true, true, false, false, false, false, false, false, false, false, false, false, false, false, false, false, false, false, false, false, false, false, false, false, false, false, false] rfl rfl (take_ofW HT_.out HW_.out (by kernel_rfl)) (fun _ _ _ h => h) (Or.inl ⟨by rfl, ?_⟩) hHeld ?_ ?_
              rotate_left
              · intro w' hw'
                have hq := HC16.out w' hw'
                go_simp
                with_reducible rfl
              rotate_left
              · simp only [Act.put, List.setIfInBounds_toArray, List.set_cons_zero, List.set_cons_succ, i64_w, i32_w]
                rfl
              refine pure_ (i := 5) (N := some 36) (v := ?_) (a' := ?_) #[true, true, true, true, true, true, false, false, false, false, false, false, false, false, false, false, false, false, false, false, false, false, false, false, false, false, false, false, false, false] rfl rfl (any_of HT_.out (by kernel_rfl)) (fun _ _ _ h => h) (Or.inl ⟨by rfl, ?_⟩) ?_ ?_
              rotate_left
              · intro w'
                go_simp
                with_reducible rfl
              rotate_left
              · simp only [Act.put, List.setIfInBounds_toArray, List.set_cons_zero, List.set_cons_succ, i64_w, i32_w]
                rfl
              refine pure_ (i := 7) (N := some 38) (v := ?_) (a' := ?_) #[true, true, true, true, true, true, false, true, false, false, false, false, false, false, false, false, false, false, false, false, false, false, false, false, false, false, false, false, false, false] rfl rfl (any_of HT_.out (by kernel_rfl)) (fun _ _ _ h => h) (Or.inl ⟨by rfl, ?_⟩) ?_ ?_
              rotate_left
              · intro w'
                go_simp
                with_reducible rfl
              rotate_left
              · simp only [Act.put, List.setIfInBounds_toArray, List.set_cons_zero, List.set_cons_succ, i64_w, i32_w]
                rfl
              refine pure_ (i := 10) (N := some 41) (v := ?_) (a' := ?_) #[true, true, true, true, true, true, false, true, false, false, true, false, false, false, false, false, false, false, false, false, false, false, false, false, false, false, false, false, false, false] rfl rfl (any_of HT_.out (by kernel_rfl)) (fun _ _ _ h => h) (Or.inl ⟨by rfl, ?_⟩) ?_ ?_
              rotate_left
              · intro w'
                go_simp
                with_reducible rfl
              rotate_left
              · simp only [Act.put, List.setIfInBounds_toArray, List.set_cons_zero, List.set_cons_succ, i64_w, i32_w]
                rfl
              refine pure_ (i := 11) (N := some 42) (v := ?_) (a' := ?_) #[true, true, true, true, true, true, false, true, false, false, true, true, false, false, false, false, false, false, false, false, false, false, false, false, false, false, false, false, false, false] rfl rfl (any_of HT_.out (by kernel_rfl)) (fun _ _ _ h => h) (Or.inl ⟨by rfl, ?_⟩) ?_ ?_
              rotate_left
              · intro w'
                go_simp
                with_reducible rfl
              rotate_left
              · simp only [Act.put, List.setIfInBounds_toArray, List.set_cons_zero, List.set_cons_succ, i64_w, i32_w]
                rfl
              refine pure_ (i := 14) (N := some 45) (v := ?_) (a' := ?_) #[true, true, true, true, true, true, false, true, false, false, true, true, false, false, true, false, false, false, false, false, false, false, false, false, false, false, false, false, false, false] rfl rfl (any_of HT_.out (by kernel_rfl)) (fun _ _ _ h => h) (Or.inl ⟨by rfl, ?_⟩) ?_ ?_
              rotate_left
              · intro w'
                go_simp
                with_reducible rfl
              rotate_left
              · simp only [Act.put, List.setIfInBounds_toArray, List.set_cons_zero, List.set_cons_succ, i64_w, i32_w]
                rfl
              refine pure_ (i := 15) (N := some 46) (v := ?_) (a' := ?_) #[true, true, true, true, true, true, false, true, false, false, true, true, false, false, true, true, false, false, false, false, false, false, false, false, false, false, false, false, false, false] rfl rfl (any_of HT_.out (by kernel_rfl)) (fun _ _ _ h => h) (Or.inl ⟨by rfl, ?_⟩) ?_ ?_
              rotate_left
              · intro w'
                go_simp
                with_reducible rfl
              rotate_left
              · simp only [Act.put, List.setIfInBounds_toArray, List.set_cons_zero, List.set_cons_succ, i64_w, i32_w]
                rfl
              refine pure_ (i := 16) (N := some 47) (v := ?_) (a' := ?_) #[true, true, true, true, true, true, false, true, false, false, true, true, false, false, true, true, true, false, false, false, false, false, false, false, false, false, false, false, false, false] rfl rfl (any_of HT_.out (by kernel_rfl)) (fun _ _ _ h => h) (Or.inl ⟨by rfl, ?_⟩) ?_ ?_
              rotate_left
              · intro w'
                go_simp
                with_reducible rfl
              rotate_left
              · simp only [Act.put, List.setIfInBounds_toArray, List.set_cons_zero, List.set_cons_succ, i64_w, i32_w]
                rfl
              refine take_ (i := 17) (N := some 48) (v := ?_) (a' := ?_) #[true, true, true, true, true, true, false, true, false, false, true, true, false, false, true, true, true, true, false, false, false, false, false, false, false, false, false, false, false, false] rfl rfl (take_ofW HT_.out HW_.out (by kernel_rfl)) (fun _ _ _ h => h) (Or.inl ⟨by rfl, ?_⟩) hHeld ?_ ?_
              rotate_left
              · intro w' hw'
                have hq := HC7.out w' hw'
                go_simp
                with_reducible rfl
              rotate_left
              · simp only [Act.put, List.setIfInBounds_toArray, List.set_cons_zero, List.set_cons_succ, i64_w, i32_w]
                rfl
              refine pure_ (i := 19) (N := some 50) (v := ?_) (a' := ?_) #[true, true, true, true, true, true, false, true, false, false, true, true, false, false, true, true, true, true, false, true, false, false, false, false, false, false, false, false, false, false] rfl rfl (any_of HT_.out (by kernel_rfl)) (fun _ _ _ h => h) (Or.inl ⟨by rfl, ?_⟩) ?_ ?_
              rotate_left
              · intro w'
                go_simp
                with_reducible rfl
              rotate_left
              · simp only [Act.put, List.setIfInBounds_toArray, List.set_cons_zero, List.set_cons_succ, i64_w, i32_w]
                rfl
              refine pure_ (i := 21) (N := some 52) (v := ?_) (a' := ?_) #[true, true, true, true, true, true, false, true, false, false, true, true, false, false, true, true, true, true, false, true, false, true, false, false, false, false, false, false, false, false] rfl rfl (any_of HT_.out (by kernel_rfl)) (fun _ _ _ h => h) (Or.inl ⟨by rfl, ?_⟩) ?_ ?_
              rotate_left
              · intro w'
                go_simp
                with_reducible rfl
              rotate_left
              · simp only [Act.put, List.setIfInBounds_toArray, List.set_cons_zero, List.set_cons_succ, i64_w, i32_w]
                rfl
              refine pure_ (i := 24) (N := some 55) (v := ?_) (a' := ?_) #[true, true, true, true, true, true, false, true, false, false, true, true, false, false, true, true, true, true, false, true, false, true, false, false, true, false, false, false, false, false] rfl rfl (any_of HT_.out (by kernel_rfl)) (fun _ _ _ h => h) (Or.inl ⟨by rfl, ?_⟩) ?_ ?_
              rotate_left
              · intro w'
                go_simp
                with_reducible rfl
              rotate_left
              · simp only [Act.put, List.setIfInBounds_toArray, List.set_cons_zero, List.set_cons_succ, i64_w, i32_w]
                rfl
              refine pure_ (i := 25) (N := some 56) (v := ?_) (a' := ?_) #[true, true, true, true, true, true, false, true, false, false, true, true, false, false, true, true, true, true, false, true, false, true, false, false, true, true, false, false, false, false] rfl rfl (any_of HT_.out (by kernel_rfl)) (fun _ _ _ h => h) (Or.inl ⟨by rfl, ?_⟩) ?_ ?_
              rotate_left
              · intro w'
                go_simp
                with_reducible rfl
              rotate_left
              · simp only [Act.put, List.setIfInBounds_toArray, List.set_cons_zero, List.set_cons_succ, i64_w, i32_w]
                rfl
              refine one_ (i := 6) (N := some 37) #[true, true, true, true, true, true, true, true, false, false, true, true, false, false, true, true, true, true, false, true, false, true, false, false, true, true, false, false, false, false] rfl rfl (one_of HT_.out (by kernel_rfl)) (by decide) (fun K hK => ?_)
              refine goes_ Tryd.func19 (by kernel_rfl) rfl #[.int .u32 x15, .int .i64 7] (by rfl) rfl rfl (by (try simp only [List.map_toArray, List.map_cons, List.map_nil]); first | done | rfl) ?_
              with_reducible refine (turn_7 x15 _).mono ?_
              rintro e x' ⟨rfl, rfl⟩
              refine ⟨_, rfl, ?_⟩
              refine hK.out _ _ hHeld (fun hHeld => ?_)
              clear hK K
              refine norm_ (a' := ?_) ?_ ?_
              rotate_left
              · show Act.put _ (some 37) _ = _
                simp only [Act.put, List.setIfInBounds_toArray, List.set_cons_zero, List.set_cons_succ, i64_w, i32_w]
                rfl
              refine one_ (i := 8) (N := some 39) #[true, true, true, true, true, true, true, true, true, false, true, true, false, false, true, true, true, true, false, true, false, true, false, false, true, true, false, false, false, false] rfl rfl (one_of HT_.out (by kernel_rfl)) (by decide) (fun K hK => ?_)
              refine goes_ Tryd.func19 (by kernel_rfl) rfl #[.int .u32 x15, .int .i64 18] (by rfl) rfl rfl (by (try simp only [List.map_toArray, List.map_cons, List.map_nil]); first | done | rfl) ?_
              with_reducible refine (turn_18 x15 _).mono ?_
              rintro e x' ⟨rfl, rfl⟩
              refine ⟨_, rfl, ?_⟩
              refine hK.out _ _ hHeld (fun hHeld => ?_)
              clear hK K
              refine norm_ (a' := ?_) ?_ ?_
              rotate_left
              · show Act.put _ (some 39) _ = _
                simp only [Act.put, List.setIfInBounds_toArray, List.set_cons_zero, List.set_cons_succ, i64_w, i32_w]
                rfl
              refine pure_ (i := 9) (N := some 40) (v := ?_) (a' := ?_) #[true, true, true, true, true, true, true, true, true, true, true, true, false, false, true, true, true, true, false, true, false, true, false, false, true, true, false, false, false, false] rfl rfl (any_of HT_.out (by kernel_rfl)) (fun _ _ _ h => h) (Or.inl ⟨by rfl, ?_⟩) ?_ ?_
              rotate_left
              · intro w'
                go_simp
                with_reducible rfl
              rotate_left
              · simp only [Act.put, List.setIfInBounds_toArray, List.set_cons_zero, List.set_cons_succ, i64_w, i32_w]
                rfl
              refine pure_ (i := 12) (N := some 43) (v := ?_) (a' := ?_) #[true, true, true, true, true, true, true, true, true, true, true, true, true, false, true, true, true, true, false, true, false, true, false, false, true, true, false, false, false, false] rfl rfl (any_of HT_.out (by kernel_rfl)) (fun _ _ _ h => h) (Or.inl ⟨by rfl, ?_⟩) ?_ ?_
              rotate_left
              · intro w'
                go_simp
                with_reducible rfl
              rotate_left
              · simp only [Act.put, List.setIfInBounds_toArray, List.set_cons_zero, List.set_cons_succ, i64_w, i32_w]
                rfl
              refine pure_ (i := 13) (N := some 44) (v := ?_) (a' := ?_) #[true, true, true, true, true, true, true, true, true, true, true, true, true, true, true, true, true, true, false, true, false, true, false, false, true, true, false, false, false, false] rfl rfl (any_of HT_.out (by kernel_rfl)) (fun _ _ _ h => h) (Or.inl ⟨by rfl, ?_⟩) ?_ ?_
              rotate_left
              · intro w'
                go_simp
                with_reducible rfl
              rotate_left
              · simp only [Act.put, List.setIfInBounds_toArray, List.set_cons_zero, List.set_cons_succ, i64_w, i32_w]
                rfl
              refine pure_ (i := 18) (N := some 49) (v := ?_) (a' := ?_) #[true, true, true, true, true, true, true, true, true, true, true, true, true, true, true, true, true, true, true, true, false, true, false, false, true, true, false, false, false, false] rfl rfl (any_of HT_.out (by kernel_rfl)) (fun _ _ _ h => h) (Or.inl ⟨by rfl, ?_⟩) ?_ ?_
              rotate_left
              · intro w'
                go_simp
                with_reducible rfl
              rotate_left
              · simp only [Act.put, List.setIfInBounds_toArray, List.set_cons_zero, List.set_cons_succ, i64_w, i32_w]
                rfl
              refine one_ (i := 20) (N := some 51) #[true, true, true, true, true, true, true, true, true, true, true, true, true, true, true, true, true, true, true, true, true, true, false, false, true, true, false, false, false, false] rfl rfl (one_of HT_.out (by kernel_rfl)) (by decide) (fun K hK => ?_)
              refine goes_ Tryd.func19 (by kernel_rfl) rfl #[.int .u32 x2, .int .i64 17] (by rfl) rfl rfl (by (try simp only [List.map_toArray, List.map_cons, List.map_nil]); first | done | rfl) ?_
              with_reducible refine (turn_17 x2 _).mono ?_
              rintro e x' ⟨rfl, rfl⟩
              refine ⟨_, rfl, ?_⟩
              refine hK.out _ _ hHeld (fun hHeld => ?_)
              clear hK K
              refine norm_ (a' := ?_) ?_ ?_
              rotate_left
              · show Act.put _ (some 51) _ = _
                simp only [Act.put, List.setIfInBounds_toArray, List.set_cons_zero, List.set_cons_succ, i64_w, i32_w]
                rfl
              refine one_ (i := 22) (N := some 53) #[true, true, true, true, true, true, true, true, true, true, true, true, true, true, true, true, true, true, true, true, true, true, true, false, true, true, false, false, false, false] rfl rfl (one_of HT_.out (by kernel_rfl)) (by decide) (fun K hK => ?_)
              refine goes_ Tryd.func19 (by kernel_rfl) rfl #[.int .u32 x2, .int .i64 19] (by rfl) rfl rfl (by (try simp only [List.map_toArray, List.map_cons, List.map_nil]); first | done | rfl) ?_
              with_reducible refine (turn_19 x2 _).mono ?_
              rintro e x' ⟨rfl, rfl⟩
              refine ⟨_, rfl, ?_⟩
              refine hK.out _ _ hHeld (fun hHeld => ?_)
              clear hK K
              refine norm_ (a' := ?_) ?_ ?_
              rotate_left
              · show Act.put _ (some 53) _ = _
                simp only [Act.put, List.setIfInBounds_toArray, List.set_cons_zero, List.set_cons_succ, i64_w, i32_w]
                rfl
              refine pure_ (i := 23) (N := some 54) (v := ?_) (a' := ?_) #[true, true, true, true, true, true, true, true, true, true, true, true, true, true, true, true, true, true, true, true, true, true, true, true, true, true, false, false, false, false] rfl rfl (any_of HT_.out (by kernel_rfl)) (fun _ _ _ h => h) (Or.inl ⟨by rfl, ?_⟩) ?_ ?_
              rotate_left
              · intro w'
                go_simp
                with_reducible rfl
              rotate_left
              · simp only [Act.put, List.setIfInBounds_toArray, List.set_cons_zero, List.set_cons_succ, i64_w, i32_w]
                rfl
              refine pure_ (i := 26) (N := some 57) (v := ?_) (a' := ?_) #[true, true, true, true, true, true, true, true, true, true, true, true, true, true, true, true, true, true, true, true, true, true, true, true, true, true, true, false, false, false] rfl rfl (any_of HT_.out (by kernel_rfl)) (fun _ _ _ h => h) (Or.inl ⟨by rfl, ?_⟩) ?_ ?_
              rotate_left
              · intro w'
                go_simp
                with_reducible rfl
              rotate_left
              · simp only [Act.put, List.setIfInBounds_toArray, List.set_cons_zero, List.set_cons_succ, i64_w, i32_w]
                rfl
              refine pure_ (i := 27) (N := some 58) (v := ?_) (a' := ?_) #[true, true, true, true, true, true, true, true, true, true, true, true, true, true, true, true, true, true, true, true, true, true, true, true, true, true, true, true, false, false] rfl rfl (any_of HT_.out (by kernel_rfl)) (fun _ _ _ h => h) (Or.inl ⟨by rfl, ?_⟩) ?_ ?_
              rotate_left
              · intro w'
                go_simp
                with_reducible rfl
              rotate_left
              · simp only [Act.put, List.setIfInBounds_toArray, List.set_cons_zero, List.set_cons_succ, i64_w, i32_w]
                rfl
              refine pure_ (i := 28) (N := some 59) (v := ?_) (a' := ?_) #[true, true, true, true, true, true, true, true, true, true, true, true, true, true, true, true, true, true, true, true, true, true, true, true, true, true, true, true, true, false] rfl rfl (any_of HT_.out (by kernel_rfl)) (fun _ _ _ h => h) (Or.inl ⟨by rfl, ?_⟩) ?_ ?_
              rotate_left
              · intro w'
                go_simp
                with_reducible rfl
              rotate_left
              · simp only [Act.put, List.setIfInBounds_toArray, List.set_cons_zero, List.set_cons_succ, i64_w, i32_w]
                rfl
              refine last_ (i := 29) (N := none) #[true, true, true, true, true, true, true, true, true, true, true, true, true, true, true, true, true, true, true, true, true, true, true, true, true, true, true, true, true, true] rfl rfl (one_of HT_.out (by kernel_rfl)) (by decide) (fun K hK => ?_)
              obtain ⟨v29, c29, f29⟩ := HC0.out _ hHeld
              refine skip_ (w1 := ?_) (by rfl) rfl ?_ ?_
              rotate_left
              · go_simp
                rfl
              have HE := Aside0.mk hHeld
              clear c29 f29
              refine hK.out _ _ ?_
              clear hK K
              refine done_ (done_of HT_.out (by kernel_rfl)) ?_
              have hv := HNX.out
              unfold add32 s0 s1 xor32 at hv
              have HR2 : Aside0 ((wb.setCell ⟨w.heap.size + 1, i.toNat, none⟩ (.int .u32 ((sched b).getD i.toNat 0))).heap[w.heap.size + 1]? = some (.cells (rowOf (filled (sched b) (i + 1).toNat)) 49)) := ⟨(heap_setCell_same wb (w.heap.size + 1) i.toNat _ 49 _ ((HE.out.block _ HLT.out).trans HR.out)).trans (by rw [rowOf_set, filled_set _ _ (by rw [sched_length]; have := HI0.out; omega) (by have := HI0.out; omega), show (i + 1).toNat = i.toNat + 1 by have := HI0.out; omega])⟩
              have HB2 : Aside0 (Below (w.heap.size + 1) ((w.alloc (.cells (rowOf z64) 49)).alloc (.cells (rowOf z64) 49)) (wb.setCell ⟨w.heap.size + 1, i.toNat, none⟩ (.int .u32 ((sched b).getD i.toNat 0)))) := ⟨(HB.out.trans (HE.out.mono (Nat.le_of_lt HLT.out))).setCell (p := ⟨w.heap.size + 1, i.toNat, none⟩) (Nat.le_refl _) _⟩
              rw [hv] at HR2 HB2
              clear hv
              go_wp2
              go_roundg k3
              case measure => have := HI.out; omega
              case rel => exact ⟨i + 1, (by rw [HW.out]), ⟨by have := HI0.out; omega, by have := HI0.out; omega, by have := HI.out; omega⟩, HR2, HB2⟩
            · have ei : i = 64 := by omega
              subst ei
              have c2 : decide ((64 : Int) < 64) = false := by decide
              obtain ⟨sc, hsc⟩ : ∃ sc, sc = sched b := ⟨_, rfl⟩
              have HSC := Aside0.mk hsc
              have HR64 : Aside0 (wr.heap[w.heap.size + 1]? = some (.cells (rowOf sc) 49)) := ⟨HR.out.trans (by rw [hsc, show ((64 : Int).toNat) = 64 from rfl, filled_all _ (sched_length b)])⟩
              have HRES : Aside0 (wr.heap[w.heap.size]? = some (.cells (rowOf z64) 49)) := ⟨(HB.out.block _ (Nat.lt_succ_self _)).trans (alloc2_first w _ _)⟩
              have HG := Aside0.mk ((below_alloc (below_alloc (Below.refl w.heap.size w) (.cells (rowOf z64) 49)) (.cells (rowOf z64) 49)).trans (HB.out.mono (Nat.le_succ _)))
              have HS : Aside0 (sc.length = 64) := ⟨by rw [hsc]; exact sched_length b⟩
              clear hsc i0 i1 ik hi HI HR HB
              go_wp2_with (first | ((with_reducible refine gate_dst (N := 60) rfl ?_); refine wpList_load_row rfl 49 (.tmp 3) rfl (w.heap.size + 1) rfl 49 (rowOf sc) (0, 0) _ HR64.out Tryd.underlying49 rfl (size49 HS.out) ?_) | ((with_reducible refine gate_store (t := 49) (p := 2) rfl ?_); refine wpList_store_row rfl 49 (.tmp 2) (.tmp 60) rfl w.heap.size (rowOf sc) rfl rfl 49 (rowOf z64) HRES.out (size49 HS.out) (by rw [rowOf_size, rowOf_size, HS.out]; rfl) (rowOf_one _) ?_))
              refine bodyPost_ret (v := .agg (rowOf sc)) (results_cell_row rfl _ _ w.heap.size 49 _ (0, 0) _ rfl (setRow_heap wr w.heap.size _ _ 49 (0, 0) HRES.out) Tryd.underlying49 rfl (size49 HS.out)) rfl ⟨by rw [HSC.out], below_setRow HG.out (Nat.le_refl _) _⟩
end Go.Proofs.YtldkofdpohaahaaDoor.Spread
