/- A block is taken (sha.State.mix): its contract; for 64 bytes, the keys laid as the text says. -/
import Derived.Test.YtldkofdpohaahaaDoorRounds
import Derived.Deep.MidRow
import Derived.Laws.CopyRow
namespace Go.Proofs.YtldkofdpohaahaaDoor.Mix
open Go.RowKit Go.Proofs.YtldkofdpohaahaaDoorW.PrintWords Go.Proofs.YtldkofdpohaahaaDoorW.PrintLast Go.Proofs.YtldkofdpohaahaaDoorW.PrintMore Go.Proofs.YtldkofdpohaahaaDoor.Turn Go.Proofs.YtldkofdpohaahaaDoor.Word Go.Proofs.YtldkofdpohaahaaDoor.New Go.Proofs.YtldkofdpohaahaaDoor.Plain Go.Proofs.YtldkofdpohaahaaDoor.Sched Go.Proofs.YtldkofdpohaahaaDoor.Spread Go.Proofs.YtldkofdpohaahaaDoor.Rounds
set_option linter.unusedVariables false
set_option linter.unusedSimpArgs false
def mx5.T5 : Bool × List (List Nat × List Nat) := (true, [([], []), ([0], [0]), ([], []), ([2], [2]), ([1, 0, 1], [1]), ([3, 4, 0, 1, 2, 3, 4], [3])])
def mx5.B5 : List Nat := [0, 1, 0, 4, 3, 31]
theorem mx5.tab5 : rtab .any (opsOf Tryd.f17 5) = mx5.T5 := by kernel_rfl
theorem mx5.bits5 : waitsOk mx5.T5.2 mx5.B5 = true := by kernel_rfl
def mx6.T6 : Bool × List (List Nat × List Nat) := (true, [([], []), ([0], [0]), ([], []), ([2], [2]), ([], []), ([4, 3], [4]), ([3, 5], [3, 5]), ([], []), ([7, 5], [7]), ([6, 8], [6, 8]), ([1, 9], [1, 9]), ([], []), ([], []), ([12], [12]), ([11, 13], [11, 13]), ([], []), ([15], [15]), ([], []), ([17], [17]), ([16, 18], [16, 18]), ([14, 19], [14, 19]), ([10, 20], [10, 20]), ([], []), ([21, 22], [21, 22]), ([], []), ([24], [24]), ([25], [25]), ([23, 26], [23, 26]), ([27, 8, 0, 1, 2, 3, 4, 5, 6, 7, 8, 9, 10, 11, 12, 13, 14, 15, 16, 17, 18, 19, 20, 21, 22, 23, 24, 25, 26, 27], [27])])
def mx6.B6 : List Nat := [0, 1, 0, 4, 0, 28, 60, 0, 188, 508, 1023, 0, 0, 4096, 14336, 0, 32768, 0, 131072, 491520, 1046528, 2097151, 0, 8388607, 0, 16777216, 50331648, 134217727, 268435455]
theorem mx6.tab6 : rtab .any (opsOf Tryd.f17 6) = mx6.T6 := by kernel_rfl
theorem mx6.bits6 : waitsOk mx6.T6.2 mx6.B6 = true := by kernel_rfl
def mx7.T7 : Bool × List (List Nat × List Nat) := (true, [([], []), ([0], [0]), ([], []), ([2, 1], [2]), ([1, 3], [1, 3]), ([], []), ([5, 3], [5]), ([4, 6], [4, 6]), ([], []), ([], []), ([9], [9]), ([8, 10], [8, 10]), ([], []), ([], []), ([13], [13]), ([12, 14], [12, 14]), ([11, 15], [11, 15]), ([], []), ([17], [17]), ([], []), ([19], [19]), ([18, 20], [18, 20]), ([16, 21], [16, 21]), ([7, 22], [7, 22]), ([23, 6, 0, 1, 2, 3, 4, 5, 6, 7, 8, 9, 10, 11, 12, 13, 14, 15, 16, 17, 18, 19, 20, 21, 22, 23], [23])])
def mx7.B7 : List Nat := [0, 1, 0, 7, 15, 0, 47, 127, 0, 0, 512, 1792, 0, 0, 8192, 28672, 65280, 0, 131072, 0, 524288, 1966080, 4194048, 8388607, 16777215]
theorem mx7.tab7 : rtab .any (opsOf Tryd.f17 7) = mx7.T7 := by kernel_rfl
theorem mx7.bits7 : waitsOk mx7.T7.2 mx7.B7 = true := by kernel_rfl
def mx8.T8 : Bool × List (List Nat × List Nat) := (true, [([], []), ([], []), ([0, 1], [0, 1])])
def mx8.B8 : List Nat := [0, 0, 3]
theorem mx8.tab8 : rtab .any (opsOf Tryd.f17 8) = mx8.T8 := by kernel_rfl
theorem mx8.bits8 : waitsOk mx8.T8.2 mx8.B8 = true := by kernel_rfl
def mx15.T15 : Bool × List (List Nat × List Nat) := (true, [([], []), ([], []), ([0], [0]), ([2], [2]), ([3, 1], [1, 3]), ([4], [4]), ([], []), ([6], [6]), ([7], [7]), ([5, 8], [5, 8]), ([0], [0]), ([10], [10]), ([11, 1, 0, 1, 2, 3, 4, 5, 6, 7, 8, 9], [1, 11]), ([12, 9, 0, 1, 2, 3, 4, 5, 6, 7, 8, 9], [9, 12])])
def mx15.B15 : List Nat := [0, 0, 1, 5, 15, 31, 0, 64, 192, 511, 1, 1025, 4095, 8191]
theorem mx15.tab15 : rtab .any (opsOf Tryd.f17 15) = mx15.T15 := by kernel_rfl
theorem mx15.bits15 : waitsOk mx15.T15.2 mx15.B15 = true := by kernel_rfl
/-- the package variable keys -/
def KeysAt (w : World) : Prop := w.rangeAt 0 0 (keysL.map (Value.int .u32))
theorem KeysAt.below {n : Nat} {w w' : World} (h : KeysAt w) (hb : Below n w w') (hn : 0 < n) : KeysAt w' := fun j v hv => (hb.cell hn).trans (h j v hv)
theorem KeysAt.ch {g : Nat} {w w' : World} (h : KeysAt w) (hb : Ch g w w') (hn : 0 < w.heap.size) (hg : 0 ≠ g) : KeysAt w' := fun j v hv => (hb.cell hg hn).trans (h j v hv)
theorem size44 {ws : List Int} (h : ws.length = 8) : (Tryd.prog.info? 44).map (·.size) = some (rowOf ws).size := by rw [rowOf_size, h]; kernel_rfl
theorem index49 (cs : Array Value) (i : Int) (v : Value) (w : World) (h0 : 0 ≤ i) (h1 : i < 64) (hv : cs[i.toNat]? = some v) : (Instr.index 49 (.agg cs) (.int .i64 i)).run Tryd.prog w = .ok v w := by
  simp [Instr.index, run_underlying Tryd.underlying49, asIntOf, h0, h1, part, go_sem]
  rw [hv]; rfl
def z8 : List Int := List.replicate 8 0
theorem state_range {w : World} {g : Nat} {H : List Int} {L : Value} {n : Int} (h : w.heap[g]? = some (.cells (stateCells (fun i => H.getD i 0) L n) 47)) (hH : H.length = 8) : w.rangeAt g 0 (H.map (Value.int .u32)) := by
  intro j v hv
  have hj : j < 8 := by have := (List.getElem?_eq_some_iff.1 hv).1; rw [List.length_map, hH] at this; exact this
  rw [Nat.zero_add, cell_of_row w g j _ 47 (0, 0) h, state_get _ _ _ _ hj, ← hv, List.getElem?_map, List.getElem?_eq_getElem (by omega), List.getD_eq_getElem?_getD, List.getElem?_eq_getElem (by omega)]; rfl

theorem mix_copy (w : World) (g : Nat) (v0 v1 v2 v3 v4 v5 v6 v7 : Int) (h : w.heap[g]? = some (.cells (rowOf [v0, v1, v2, v3, v4, v5, v6, v7]) 44)) :
    (Builtin.copy_ #[38, 38] 3 #[.slice (some ⟨g, 1, none⟩) 7 7, .slice (some ⟨g, 0, none⟩) 7 8]).run Tryd.prog w = .ok (goInt 7) (w.setRow g (rowOf [v0, v0, v1, v2, v3, v4, v5, v6])) := by
  refine run_copy_row (P := Tryd.prog) w 38 38 3 41 g 1 7 7 ⟨g, 0, none⟩ 7 8 _ 44 ([v0, v1, v2, v3, v4, v5, v6].map (Value.int .u32)) Tryd.underlying38 (by kernel_rfl) h rfl (fun j v hv => ?_) (Nat.le_refl 8) (fun v hv => ?_)
  · have hj : j < 7 := (List.getElem?_eq_some_iff.1 hv).1
    have ha : (⟨g, 0, none⟩ : Addr).add j = ⟨g, j, none⟩ := by unfold Addr.add; split <;> simp_all
    rw [ha, cell_of_row w g j _ 44 (0, 0) h, ← hv]
    match j, hj with
    | 0, _ | 1, _ | 2, _ | 3, _ | 4, _ | 5, _ | 6, _ => rfl
  · obtain ⟨x, _, rfl⟩ := List.mem_map.1 hv; rfl
theorem wrap_add (x y : Int) : IntKind.u32.wrap (x + y) = add32 x y := rfl
theorem mix_t (v4 v5 v6 v7 kk xx : Int) : IntKind.u32.wrap (IntKind.u32.wrap (IntKind.u32.wrap (IntKind.u32.wrap (v7 + bits BinOp.xor IntKind.u32 (bits BinOp.xor IntKind.u32 (rot 6 v4) (rot 11 v4)) (rot 25 v4)) + bits BinOp.xor IntKind.u32 (bits BinOp.and IntKind.u32 v4 v5) (bits BinOp.and IntKind.u32 (bits BinOp.xor IntKind.u32 IntKind.u32.max v4) v6)) + kk) + xx) = tOf v4 v5 v6 v7 kk xx := by
  simp only [wrap_add]; rfl
theorem mix_u (v0 v1 v2 : Int) : IntKind.u32.wrap (bits BinOp.xor IntKind.u32 (bits BinOp.xor IntKind.u32 (rot 2 v0) (rot 13 v0)) (rot 22 v0) + bits BinOp.xor IntKind.u32 (bits BinOp.xor IntKind.u32 (bits BinOp.and IntKind.u32 v0 v1) (bits BinOp.and IntKind.u32 v0 v2)) (bits BinOp.and IntKind.u32 v1 v2)) = uOf v0 v1 v2 := by
  simp only [wrap_add]; rfl
theorem mix_row {wz : World} {g : Nat} {sc H : List Int} {i kk xx v0 v1 v2 v3 v4 v5 v6 v7 X Y : Int} (hX : X = add32 v3 (tOf v4 v5 v6 v7 kk xx)) (hY : Y = add32 (tOf v4 v5 v6 v7 kk xx) (uOf v0 v1 v2)) (i0 : 0 ≤ i) (hk : kk = keysL.getD i.toNat 0) (hx : xx = sc.getD i.toNat 0) (hv : rounds sc H i.toNat = [v0, v1, v2, v3, v4, v5, v6, v7])
    (h : wz.heap[g]? = some (.cells (rowOf [v0, v0, v1, v2, v3, v4, v5, v6]) 44)) :
    ((wz.setCell ⟨g, 4, none⟩ (.int .u32 X)).setCell ⟨g, 0, none⟩ (.int .u32 Y)).heap[g]? = some (.cells (rowOf (rounds sc H (i + 1).toNat)) 44) := by
  subst hX
  subst hY
  rw [heap_setCell_same _ g 0 _ 44 _ (heap_setCell_same wz g 4 _ 44 _ h), rowOf_set, rowOf_set, show (i + 1).toNat = i.toNat + 1 by omega]
  show _ = some (Obj.cells (rowOf (turnOf (rounds sc H i.toNat) (keysL.getD i.toNat 0) (sc.getD i.toNat 0))) 44)
  rw [← hk, ← hx, hv]; rfl
def part8 (H vv : List Int) (i k : Nat) : Int := if k < i then add32 (H.getD k 0) (vv.getD k 0) else H.getD k 0
theorem part8_zero (H vv : List Int) : ∀ i, i < 8 → H.getD i 0 = part8 H vv 0 i := fun i _ => by unfold part8; rw [if_neg (Nat.not_lt_zero _)]
theorem part8_step (H vv : List Int) (i : Nat) (X : Int) (hX : X = add32 (H.getD i 0) (vv.getD i 0)) : ∀ k, k < 8 → (if k = i then X else part8 H vv i k) = part8 H vv (i + 1) k := fun k _ => by
  unfold part8
  by_cases h : k = i
  · subst h; rw [if_pos rfl, if_pos (Nat.lt_succ_self _), hX]
  · rw [if_neg h]
    by_cases h2 : k < i
    · rw [if_pos h2, if_pos (by omega)]
    · rw [if_neg h2, if_neg (by omega)]
theorem part8_eight (H vv b : List Int) (hv : vv = rounds (sched b) H 64) : ∀ i, i < 8 → part8 H vv (8 : Int).toNat i = (compress H b).getD i 0 := fun i hi => by
  rw [compress_get H b i hi, ← hv]; unfold part8; exact if_pos hi
theorem world_is {P : Program} {ops : Array Oper} {Q : Exit → Act → World → Prop} {l : List Oper} {a : Act} {w2 W : World} (hw : w2 = W) (h : wpList P ops Q l a w2) : wpList P ops Q l a W := hw ▸ h
structure F2 (g : Nat) (C : Array Value) (sc : List Int) (w w1 w2 : World) : Prop where
  sz : w2.heap.size = w1.heap.size + 1
  le : w.heap.size ≤ w1.heap.size
  g : w2.heap[g]? = some (.cells C 47)
  ws : w2.heap[w1.heap.size]? = some (.cells (rowOf sc) 49)
  b : Below w.heap.size w w2
theorem mix_w2 {g : Nat} {C : Array Value} {sc : List Int} {w w1 w2 : World} (hb : Below w.heap.size w w1) (h : w2 = (w1.alloc (.cells (rowOf z64) 49)).setRow w1.heap.size (rowOf sc)) (hl : g < w.heap.size) (hg : w.heap[g]? = some (.cells C 47)) : F2 g C sc w w1 w2 := by
  subst h
  have hB : Below w.heap.size w ((w1.alloc (.cells (rowOf z64) 49)).setRow w1.heap.size (rowOf sc)) := below_setRow (below_alloc hb _) hb.size _
  exact ⟨by rw [setRow_size]; exact Array.size_push _, hb.size, (hB.block g hl).trans hg, setRow_heap _ _ _ _ 49 (0, 0) (heap_alloc_new w1 _), hB⟩
structure F3 (g : Nat) (C : Array Value) (sc H : List Int) (w w1 w2 w3 : World) : Prop where
  sz : w2.heap.size = w1.heap.size + 1
  sz3 : w3.heap.size = w2.heap.size + 1
  le : w.heap.size ≤ w1.heap.size
  g : w3.heap[g]? = some (.cells C 47)
  ws : w3.heap[w1.heap.size]? = some (.cells (rowOf sc) 49)
  v : w3.heap[w2.heap.size]? = some (.cells (rowOf H) 44)
  b : Below w.heap.size w w3
theorem mix_w3 {g : Nat} {C : Array Value} {sc H : List Int} {w w1 w2 w3 : World} (hf : F2 g C sc w w1 w2) (h : w3 = (w2.alloc (.cells (rowOf z8) 44)).setRow w2.heap.size (rowOf H)) (hl : g < w.heap.size) : F3 g C sc H w w1 w2 w3 := by
  subst h
  have hB : Below w2.heap.size w2 ((w2.alloc (.cells (rowOf z8) 44)).setRow w2.heap.size (rowOf H)) := below_setRow (below_alloc (Below.refl _ _) _) (Nat.le_refl _) _
  have hz := hf.sz
  have hle := hf.le
  exact ⟨hf.sz, by rw [setRow_size]; exact Array.size_push _, hf.le, (hB.block g (by omega)).trans hf.g, (hB.block _ (by omega)).trans hf.ws, setRow_heap _ _ _ _ 44 (0, 0) (heap_alloc_new w2 _), hf.b.trans (hB.mono (by omega))⟩
structure F8 (g : Nat) (C : Array Value) (w w2 wr : World) : Prop where
  st : wr.heap[g]? = some (.cells C 47)
  ne : w2.heap.size ≠ g
  ch : Ch g w wr
theorem mix_f8 {g : Nat} {C : Array Value} {sc H : List Int} {w w1 w2 w3 wr : World} (hf : F3 g C sc H w w1 w2 w3) (hb : Below w2.heap.size w3 wr) (hl : g < w.heap.size) : F8 g C w w2 wr := by
  have h1 := hf.sz
  have h2 := hf.le
  exact ⟨(hb.block g (by omega)).trans hf.g, by omega, Ch.of_below (hf.b.trans (hb.mono (by omega)))⟩
theorem F3.range {g : Nat} {C : Array Value} {sc H ks : List Int} {w w1 w2 w3 : World} (hf : F3 g C sc H w w1 w2 w3) (hk : w.rangeAt 0 0 (ks.map (Value.int .u32))) (h0 : 0 < w.heap.size) : w3.rangeAt 0 0 (ks.map (Value.int .u32)) := fun j v hv => (hf.b.cell h0).trans (hk j v hv)
set_option maxHeartbeats 2000000 in
set_option maxRecDepth 100000 in
theorem mix_any (g : Nat) (H : List Int) (L : Value) (n : Int) (ad : Addr) (c : Nat) (b : List Int) (w : World) (hg : w.heap[g]? = some (.cells (stateCells (fun i => H.getD i 0) L n) 47)) (hH : H.length = 8) (hk : KeysAt w) (h0 : 0 < w.heap.size)
    (hb : b.length = 64) (hc : 64 ≤ c) (hB : ∀ x ∈ b, 0 ≤ x ∧ x < 256) (h : ∀ i, i < 64 → w.cell? (ad.add i) = some (.int .u8 (b.getD i 0))) :
    Calls Tryd.prog 17 #[.pointer (some ⟨g, 0, none⟩), .slice (some ad) 64 c] w fun e w' => e = .returned (.tuple #[]) ∧ w'.heap[g]? = some (.cells (stateCells (fun i => (compress H b).getD i 0) L n) 47) ∧ Ch g w w' := by
  have hgl := (Array.getElem?_eq_some_iff.1 hg).1
  have HS := Aside0.mk (spread_any ad c b w hb hc hB h)
  have HG := Aside0.mk hg
  have HK := Aside0.mk hk
  have H0 := Aside0.mk h0
  have HL := Aside0.mk hgl
  have HH := Aside0.mk hH
  obtain ⟨sc, hsc⟩ : ∃ sc, sc = sched b := ⟨_, rfl⟩
  obtain ⟨ks, hks⟩ : ∃ ks, ks = keysL := ⟨_, rfl⟩
  have HSC := Aside0.mk hsc
  have HKS := Aside0.mk hks
  have HSL : Aside0 (sc.length = 64) := ⟨by rw [hsc]; exact sched_length b⟩
  have HKL : Aside0 (ks.length = 64) := ⟨by rw [hks]; exact keysL_len⟩
  rw [← hsc] at HS
  have HK2 : Aside0 (w.rangeAt 0 0 (ks.map (Value.int .u32))) := ⟨by rw [hks]; exact hk⟩
  clear hg hk h0 hgl hH hb hc hB h hsc hks
  go_enter Tryd.func17, Tryd.ntmps17
  go_wp2_with (first | (go_at_call 18; (with_reducible refine HS.out.mono ?_); rintro e w1 ⟨rfl, hb⟩; obtain ⟨w2, hw2⟩ : ∃ x, x = (w1.alloc (.cells (rowOf z64) 49)).setRow w1.heap.size (rowOf sc) := ⟨_, rfl⟩; have HW2 := Aside0.mk hw2; have HF2 := Aside0.mk (mix_w2 hb hw2 HL.out HG.out); have HB1 := Aside0.mk hb; obtain ⟨w3, hw3⟩ : ∃ x, x = (w2.alloc (.cells (rowOf z8) 44)).setRow w2.heap.size (rowOf H) := ⟨_, rfl⟩; have HW3 := Aside0.mk hw3; have HF3 := Aside0.mk (mix_w3 HF2.out hw3 HL.out); clear hb hw2 hw3) | ((with_reducible refine gate_store (t := 49) (p := 4) rfl ?_); refine wpList_store_row rfl 49 (.tmp 4) (.tmp 14) rfl w1.heap.size (rowOf sc) rfl rfl 49 (rowOf z64) (heap_alloc_new w1 _) (size49 HSL.out) (by rw [rowOf_size, rowOf_size, HSL.out]; rfl) (rowOf_one _) ?_; refine world_is HW2.out ?_) | ((with_reducible refine gate_dst (N := 18) rfl ?_); refine wpList_load_mid rfl 44 (.tmp 17) rfl g 0 rfl (H.map (Value.int .u32)) _ (state_range HF2.out.g HH.out) Tryd.underlying44 rfl (by rw [List.length_map, HH.out]; kernel_rfl) ?_) | ((with_reducible refine gate_store (t := 44) (p := 5) rfl ?_); refine wpList_store_row rfl 44 (.tmp 5) (.tmp 18) rfl w2.heap.size (rowOf H) rfl rfl 44 (rowOf z8) (heap_alloc_new w2 _) (size44 HH.out) (by rw [rowOf_size, rowOf_size, HH.out]; rfl) (rowOf_one _) ?_; refine world_is HW3.out ?_) | ((with_reducible refine gate_dst (N := 19) rfl ?_); refine wpList_load_mid rfl 49 (.global 0) rfl 0 0 rfl (ks.map (Value.int .u32)) _ (HF3.out.range HK2.out H0.out) Tryd.underlying49 rfl (by rw [List.length_map, HKL.out]; kernel_rfl) ?_))
  go_loopg [20] 65 (fun kq v20 w' => ∃ i : Int, v20 = .int .i64 i ∧ Aside0 (0 ≤ i ∧ i ≤ 64 ∧ 64 - i < kq) ∧ Aside0 (w'.heap[w2.heap.size]? = some (.cells (rowOf (rounds sc H i.toNat)) 44)) ∧ Aside0 (Below w2.heap.size w3 w'))
  case atStart => exact ⟨0, rfl, ⟨by omega, by omega, by omega⟩, ⟨HF3.out.v⟩, ⟨Below.refl _ _⟩⟩
  case round =>
    obtain ⟨i, rfl, HI, HR, HB⟩ := hrel
    cases gk with
    | zero => exact absurd HI.out (by omega)
    | succ k2 =>
      obtain ⟨i0, i1, ik⟩ := HI.out
      by_cases hi : i < 64
      · have c1 : decide (i < 64) = true := decide_eq_true hi
        obtain ⟨v0, v1, v2, v3, v4, v5, v6, v7, hv⟩ := eight (rounds sc H i.toNat) (rounds_len sc H HH.out _)
        have HV := Aside0.mk hv
        rw [hv] at HR
        obtain ⟨kk, hkk⟩ : ∃ x, x = ks.getD i.toNat 0 := ⟨_, rfl⟩
        obtain ⟨xx, hxx⟩ : ∃ x, x = sc.getD i.toNat 0 := ⟨_, rfl⟩
        have HKK := Aside0.mk hkk
        have HXX := Aside0.mk hxx
        have hlt := (Array.getElem?_eq_some_iff.1 HR.out).1
        have HLT := Aside0.mk hlt
        have HC0 : Aside0 (∀ w', Below wr.heap.size wr w' → w'.cell? ⟨w2.heap.size, 0, none⟩ = some (.int .u32 v0)) := ⟨fun w' hw' => (cell_of_row w' _ 0 _ 44 (0, 0) ((hw'.block _ hlt).trans HR.out)).trans rfl⟩
        have HC1 : Aside0 (∀ w', Below wr.heap.size wr w' → w'.cell? ⟨w2.heap.size, 1, none⟩ = some (.int .u32 v1)) := ⟨fun w' hw' => (cell_of_row w' _ 1 _ 44 (0, 0) ((hw'.block _ hlt).trans HR.out)).trans rfl⟩
        have HC2 : Aside0 (∀ w', Below wr.heap.size wr w' → w'.cell? ⟨w2.heap.size, 2, none⟩ = some (.int .u32 v2)) := ⟨fun w' hw' => (cell_of_row w' _ 2 _ 44 (0, 0) ((hw'.block _ hlt).trans HR.out)).trans rfl⟩
        have HC3 : Aside0 (∀ w', Below wr.heap.size wr w' → w'.cell? ⟨w2.heap.size, 3, none⟩ = some (.int .u32 v3)) := ⟨fun w' hw' => (cell_of_row w' _ 3 _ 44 (0, 0) ((hw'.block _ hlt).trans HR.out)).trans rfl⟩
        have HC4 : Aside0 (∀ w', Below wr.heap.size wr w' → w'.cell? ⟨w2.heap.size, 4, none⟩ = some (.int .u32 v4)) := ⟨fun w' hw' => (cell_of_row w' _ 4 _ 44 (0, 0) ((hw'.block _ hlt).trans HR.out)).trans rfl⟩
        have HC5 : Aside0 (∀ w', Below wr.heap.size wr w' → w'.cell? ⟨w2.heap.size, 5, none⟩ = some (.int .u32 v5)) := ⟨fun w' hw' => (cell_of_row w' _ 5 _ 44 (0, 0) ((hw'.block _ hlt).trans HR.out)).trans rfl⟩
        have HC6 : Aside0 (∀ w', Below wr.heap.size wr w' → w'.cell? ⟨w2.heap.size, 6, none⟩ = some (.int .u32 v6)) := ⟨fun w' hw' => (cell_of_row w' _ 6 _ 44 (0, 0) ((hw'.block _ hlt).trans HR.out)).trans rfl⟩
        have HC7 : Aside0 (∀ w', Below wr.heap.size wr w' → w'.cell? ⟨w2.heap.size, 7, none⟩ = some (.int .u32 v7)) := ⟨fun w' hw' => (cell_of_row w' _ 7 _ 44 (0, 0) ((hw'.block _ hlt).trans HR.out)).trans rfl⟩
        have hws : wr.heap[w1.heap.size]? = some (.cells (rowOf sc) 49) := (HB.out.block _ (by have := HF3.out.sz; omega)).trans HF3.out.ws
        have HC9 : Aside0 (∀ w', Below wr.heap.size wr w' → w'.cell? ⟨w1.heap.size, i.toNat, none⟩ = some (.int .u32 xx)) := ⟨fun w' hw' => (cell_of_row w' _ _ _ 49 (0, 0) ((hw'.block _ (Array.getElem?_eq_some_iff.1 hws).1).trans hws)).trans (by rw [rowOf_get _ _ (by rw [HSL.out]; omega), hxx])⟩
        have hidx : (ks.map (Value.int .u32)).toArray[i.toNat]? = some (.int .u32 kk) := by
          rw [List.getElem?_toArray, List.getElem?_map, List.getElem?_eq_getElem (by rw [HKL.out]; omega), hkk, List.getD_eq_getElem?_getD, List.getElem?_eq_getElem (by rw [HKL.out]; omega)]; rfl
        have hix := index49 (ks.map (Value.int .u32)).toArray i _ wr i0 hi hidx
        clear hidx
        obtain ⟨T, hTd⟩ : ∃ x, x = tOf v4 v5 v6 v7 kk xx := ⟨_, rfl⟩
        obtain ⟨U, hUd⟩ : ∃ x, x = uOf v0 v1 v2 := ⟨_, rfl⟩
        obtain ⟨X, hXd⟩ : ∃ x, x = add32 v3 T := ⟨_, rfl⟩
        obtain ⟨Y, hYd⟩ : ∃ x, x = add32 T U := ⟨_, rfl⟩
        have hT := (mix_t v4 v5 v6 v7 kk xx).trans hTd.symm
        have hU := (mix_u v0 v1 v2).trans hUd.symm
        have hX := (wrap_add v3 T).trans hXd.symm
        have hY := (wrap_add T U).trans hYd.symm
        rw [hTd] at hXd
        rw [hTd, hUd] at hYd
        have HX := Aside0.mk hXd
        have HY := Aside0.mk hYd
        clear hTd hUd hXd hYd
        have a1 := eq_true (show 0 ≤ i by omega)
        have a2 := eq_true (show i < 64 by omega)
        have hw : wrap64 (i + 1) = i + 1 := by unfold wrap64; omega
        have HW := Aside0.mk hw
        have HI0 := Aside0.mk (And.intro i0 hi)
        clear hv hkk hxx hlt hws hw i0 i1 ik hi
        go_wp2
        refine start_any (n := 6) (S := fun w' => Below wr.heap.size wr w') (ds := []) #[false, false, false, false, false, false] (by kernel_rfl) rfl rfl (below_drew1 (Below.refl _ _)) (fun wa hHeld => ?_); refine with_tabW mx5.tab5 mx5.bits5 (fun HT_ HW_ => ?_)
        refine pure_ (i := 0) (N := some 24) (v := ?_) (a' := ?_) #[true, false, false, false, false, false] rfl rfl (any_of HT_.out (by kernel_rfl)) (fun _ _ _ h => h) (Or.inl ⟨by rfl, ?_⟩) ?_ ?_
        rotate_left
        · intro w'
          go_simp
          with_reducible rfl
        rotate_left
        · simp only [Act.put, List.setIfInBounds_toArray, List.set_cons_zero, List.set_cons_succ, i64_w, i32_w]
          rfl
        refine take_ (i := 1) (N := some 25) (v := ?_) (a' := ?_) #[true, true, false, false, false, false] rfl rfl (take_ofW HT_.out HW_.out (by kernel_rfl)) (fun _ _ _ h => h) (Or.inl ⟨by rfl, ?_⟩) hHeld ?_ ?_
        rotate_left
        · intro w' hw'
          have hq := HC0.out w' hw'
          go_simp
          with_reducible rfl
        rotate_left
        · simp only [Act.put, List.setIfInBounds_toArray, List.set_cons_zero, List.set_cons_succ, i64_w, i32_w]
          rfl
        refine pure_ (i := 2) (N := some 26) (v := ?_) (a' := ?_) #[true, true, true, false, false, false] rfl rfl (any_of HT_.out (by kernel_rfl)) (fun _ _ _ h => h) (Or.inl ⟨by rfl, ?_⟩) ?_ ?_
        rotate_left
        · intro w'
          go_simp
          with_reducible rfl
        rotate_left
        · simp only [Act.put, List.setIfInBounds_toArray, List.set_cons_zero, List.set_cons_succ, i64_w, i32_w]
          rfl
        refine take_ (i := 3) (N := some 27) (v := ?_) (a' := ?_) #[true, true, true, true, false, false] rfl rfl (take_ofW HT_.out HW_.out (by kernel_rfl)) (fun _ _ _ h => h) (Or.inl ⟨by rfl, ?_⟩) hHeld ?_ ?_
        rotate_left
        · intro w' hw'
          have hq := HC4.out w' hw'
          go_simp
          with_reducible rfl
        rotate_left
        · simp only [Act.put, List.setIfInBounds_toArray, List.set_cons_zero, List.set_cons_succ, i64_w, i32_w]
          rfl
        refine pure_ (i := 4) (N := some 8) (v := ?_) (a' := ?_) #[true, true, true, true, true, false] rfl rfl (any_of HT_.out (by kernel_rfl)) (fun _ _ _ h => h) (Or.inl ⟨by rfl, ?_⟩) ?_ ?_
        rotate_left
        · intro w'
          go_simp
          with_reducible rfl
        rotate_left
        · simp only [Act.put, List.setIfInBounds_toArray, List.set_cons_zero, List.set_cons_succ, i64_w, i32_w]
          rfl
        refine pure_ (i := 5) (N := some 9) (v := ?_) (a' := ?_) #[true, true, true, true, true, true] rfl rfl (any_of HT_.out (by kernel_rfl)) (fun _ _ _ h => h) (Or.inl ⟨by rfl, ?_⟩) ?_ ?_
        rotate_left
        · intro w'
          go_simp
          with_reducible rfl
        rotate_left
        · simp only [Act.put, List.setIfInBounds_toArray, List.set_cons_zero, List.set_cons_succ, i64_w, i32_w]
          rfl
        refine done_ (done_of HT_.out (by kernel_rfl)) ?_
        go_wp2
        refine start_any (n := 29) (S := fun w' => Below wr.heap.size wr w') (ds := []) #[false, false, false, false, false, false, false, false, false, false, false, false, false, false, false, false, false, false, false, false, false, false, false, false, false, false, false, false, false] (by kernel_rfl) rfl rfl (below_drew1 hHeld) (fun wb hHeld => ?_); refine with_tabW mx6.tab6 mx6.bits6 (fun HT_ HW_ => ?_)
        refine pure_ (i := 0) (N := some 28) (v := ?_) (a' := ?_) #[true, false, false, false, false, false, false, false, false, false, false, false, false, false, false, false, false, false, false, false, false, false, false, false, false, false, false, false, false] rfl rfl (any_of HT_.out (by kernel_rfl)) (fun _ _ _ h => h) (Or.inl ⟨by rfl, ?_⟩) ?_ ?_
        rotate_left
        · intro w'
          go_simp
          with_reducible rfl
        rotate_left
        · simp only [Act.put, List.setIfInBounds_toArray, List.set_cons_zero, List.set_cons_succ, i64_w, i32_w]
          rfl
        refine take_ (i := 1) (N := some 29) (v := ?_) (a' := ?_) #[true, true, false, false, false, false, false, false, false, false, false, false, false, false, false, false, false, false, false, false, false, false, false, false, false, false, false, false, false] rfl rfl (take_ofW HT_.out HW_.out (by kernel_rfl)) (fun _ _ _ h => h) (Or.inl ⟨by rfl, ?_⟩) hHeld ?_ ?_
        rotate_left
        · intro w' hw'
          have hq := HC7.out w' hw'
          go_simp
          with_reducible rfl
        rotate_left
        · simp only [Act.put, List.setIfInBounds_toArray, List.set_cons_zero, List.set_cons_succ, i64_w, i32_w]
          rfl
        refine pure_ (i := 2) (N := some 30) (v := ?_) (a' := ?_) #[true, true, true, false, false, false, false, false, false, false, false, false, false, false, false, false, false, false, false, false, false, false, false, false, false, false, false, false, false] rfl rfl (any_of HT_.out (by kernel_rfl)) (fun _ _ _ h => h) (Or.inl ⟨by rfl, ?_⟩) ?_ ?_
        rotate_left
        · intro w'
          go_simp
          with_reducible rfl
        rotate_left
        · simp only [Act.put, List.setIfInBounds_toArray, List.set_cons_zero, List.set_cons_succ, i64_w, i32_w]
          rfl
        refine pure_ (i := 4) (N := some 32) (v := ?_) (a' := ?_) #[true, true, true, false, true, false, false, false, false, false, false, false, false, false, false, false, false, false, false, false, false, false, false, false, false, false, false, false, false] rfl rfl (any_of HT_.out (by kernel_rfl)) (fun _ _ _ h => h) (Or.inl ⟨by rfl, ?_⟩) ?_ ?_
        rotate_left
        · intro w'
          go_simp
          with_reducible rfl
        rotate_left
        · simp only [Act.put, List.setIfInBounds_toArray, List.set_cons_zero, List.set_cons_succ, i64_w, i32_w]
          rfl
        refine pure_ (i := 7) (N := some 35) (v := ?_) (a' := ?_) #[true, true, true, false, true, false, false, true, false, false, false, false, false, false, false, false, false, false, false, false, false, false, false, false, false, false, false, false, false] rfl rfl (any_of HT_.out (by kernel_rfl)) (fun _ _ _ h => h) (Or.inl ⟨by rfl, ?_⟩) ?_ ?_
        rotate_left
        · intro w'
          go_simp
          with_reducible rfl
        rotate_left
        · simp only [Act.put, List.setIfInBounds_toArray, List.set_cons_zero, List.set_cons_succ, i64_w, i32_w]
          rfl
        refine pure_ (i := 11) (N := some 39) (v := ?_) (a' := ?_) #[true, true, true, false, true, false, false, true, false, false, false, true, false, false, false, false, false, false, false, false, false, false, false, false, false, false, false, false, false] rfl rfl (any_of HT_.out (by kernel_rfl)) (fun _ _ _ h => h) (Or.inl ⟨by rfl, ?_⟩) ?_ ?_
        rotate_left
        · intro w'
          go_simp
          with_reducible rfl
        rotate_left
        · simp only [Act.put, List.setIfInBounds_toArray, List.set_cons_zero, List.set_cons_succ, i64_w, i32_w]
          rfl
        refine pure_ (i := 12) (N := some 40) (v := ?_) (a' := ?_) #[true, true, true, false, true, false, false, true, false, false, false, true, true, false, false, false, false, false, false, false, false, false, false, false, false, false, false, false, false] rfl rfl (any_of HT_.out (by kernel_rfl)) (fun _ _ _ h => h) (Or.inl ⟨by rfl, ?_⟩) ?_ ?_
        rotate_left
        · intro w'
          go_simp
          with_reducible rfl
        rotate_left
        · simp only [Act.put, List.setIfInBounds_toArray, List.set_cons_zero, List.set_cons_succ, i64_w, i32_w]
          rfl
        refine take_ (i := 13) (N := some 41) (v := ?_) (a' := ?_) #[true, true, true, false, true, false, false, true, false, false, false, true, true, true, false, false, false, false, false, false, false, false, false, false, false, false, false, false, false] rfl rfl (take_ofW HT_.out HW_.out (by kernel_rfl)) (fun _ _ _ h => h) (Or.inl ⟨by rfl, ?_⟩) hHeld ?_ ?_
        rotate_left
        · intro w' hw'
          have hq := HC5.out w' hw'
          go_simp
          with_reducible rfl
        rotate_left
        · simp only [Act.put, List.setIfInBounds_toArray, List.set_cons_zero, List.set_cons_succ, i64_w, i32_w]
          rfl
        refine pure_ (i := 14) (N := some 42) (v := ?_) (a' := ?_) #[true, true, true, false, true, false, false, true, false, false, false, true, true, true, true, false, false, false, false, false, false, false, false, false, false, false, false, false, false] rfl rfl (any_of HT_.out (by kernel_rfl)) (fun _ _ _ h => h) (Or.inl ⟨by rfl, ?_⟩) ?_ ?_
        rotate_left
        · intro w'
          go_simp
          with_reducible rfl
        rotate_left
        · simp only [Act.put, List.setIfInBounds_toArray, List.set_cons_zero, List.set_cons_succ, i64_w, i32_w]
          rfl
        refine pure_ (i := 15) (N := some 43) (v := ?_) (a' := ?_) #[true, true, true, false, true, false, false, true, false, false, false, true, true, true, true, true, false, false, false, false, false, false, false, false, false, false, false, false, false] rfl rfl (any_of HT_.out (by kernel_rfl)) (fun _ _ _ h => h) (Or.inl ⟨by rfl, ?_⟩) ?_ ?_
        rotate_left
        · intro w'
          go_simp
          with_reducible rfl
        rotate_left
        · simp only [Act.put, List.setIfInBounds_toArray, List.set_cons_zero, List.set_cons_succ, i64_w, i32_w]
          rfl
        refine pure_ (i := 16) (N := some 44) (v := ?_) (a' := ?_) #[true, true, true, false, true, false, false, true, false, false, false, true, true, true, true, true, true, false, false, false, false, false, false, false, false, false, false, false, false] rfl rfl (any_of HT_.out (by kernel_rfl)) (fun _ _ _ h => h) (Or.inl ⟨by rfl, ?_⟩) ?_ ?_
        rotate_left
        · intro w'
          go_simp
          with_reducible rfl
        rotate_left
        · simp only [Act.put, List.setIfInBounds_toArray, List.set_cons_zero, List.set_cons_succ, i64_w, i32_w]
          rfl
        refine pure_ (i := 17) (N := some 45) (v := ?_) (a' := ?_) #[true, true, true, false, true, false, false, true, false, false, false, true, true, true, true, true, true, true, false, false, false, false, false, false, false, false, false, false, false] rfl rfl (any_of HT_.out (by kernel_rfl)) (fun _ _ _ h => h) (Or.inl ⟨by rfl, ?_⟩) ?_ ?_
        rotate_left
        · intro w'
          go_simp
          with_reducible rfl
        rotate_left
        · simp only [Act.put, List.setIfInBounds_toArray, List.set_cons_zero, List.set_cons_succ, i64_w, i32_w]
          rfl
        refine take_ (i := 18) (N := some 46) (v := ?_) (a' := ?_) #[true, true, true, false, true, false, false, true, false, false, false, true, true, true, true, true, true, true, true, false, false, false, false, false, false, false, false, false, false] rfl rfl (take_ofW HT_.out HW_.out (by kernel_rfl)) (fun _ _ _ h => h) (Or.inl ⟨by rfl, ?_⟩) hHeld ?_ ?_
        rotate_left
        · intro w' hw'
          have hq := HC6.out w' hw'
          go_simp
          with_reducible rfl
        rotate_left
        · simp only [Act.put, List.setIfInBounds_toArray, List.set_cons_zero, List.set_cons_succ, i64_w, i32_w]
          rfl
        refine pure_ (i := 19) (N := some 47) (v := ?_) (a' := ?_) #[true, true, true, false, true, false, false, true, false, false, false, true, true, true, true, true, true, true, true, true, false, false, false, false, false, false, false, false, false] rfl rfl (any_of HT_.out (by kernel_rfl)) (fun _ _ _ h => h) (Or.inl ⟨by rfl, ?_⟩) ?_ ?_
        rotate_left
        · intro w'
          go_simp
          with_reducible rfl
        rotate_left
        · simp only [Act.put, List.setIfInBounds_toArray, List.set_cons_zero, List.set_cons_succ, i64_w, i32_w]
          rfl
        refine pure_ (i := 20) (N := some 48) (v := ?_) (a' := ?_) #[true, true, true, false, true, false, false, true, false, false, false, true, true, true, true, true, true, true, true, true, true, false, false, false, false, false, false, false, false] rfl rfl (any_of HT_.out (by kernel_rfl)) (fun _ _ _ h => h) (Or.inl ⟨by rfl, ?_⟩) ?_ ?_
        rotate_left
        · intro w'
          go_simp
          with_reducible rfl
        rotate_left
        · simp only [Act.put, List.setIfInBounds_toArray, List.set_cons_zero, List.set_cons_succ, i64_w, i32_w]
          rfl
        refine pure_ (i := 22) (N := some 50) (v := ?_) (a' := ?_) #[true, true, true, false, true, false, false, true, false, false, false, true, true, true, true, true, true, true, true, true, true, false, true, false, false, false, false, false, false] rfl rfl (any_of HT_.out (by kernel_rfl)) (fun _ _ _ h => h) (Or.inl ⟨by rfl, ?_⟩) ?_ ?_
        rotate_left
        · intro w'
          go_simp
          with_reducible rfl
        rotate_left
        · simp only [Act.put, List.setIfInBounds_toArray, List.set_cons_zero, List.set_cons_succ, i64_w, i32_w]
          rfl
        refine pure_ (i := 24) (N := some 52) (v := ?_) (a' := ?_) #[true, true, true, false, true, false, false, true, false, false, false, true, true, true, true, true, true, true, true, true, true, false, true, false, true, false, false, false, false] rfl rfl (any_of HT_.out (by kernel_rfl)) (fun _ _ _ h => h) (Or.inl ⟨by rfl, ?_⟩) ?_ ?_
        rotate_left
        · intro w'
          go_simp
          with_reducible rfl
        rotate_left
        · simp only [Act.put, List.setIfInBounds_toArray, List.set_cons_zero, List.set_cons_succ, i64_w, i32_w]
          rfl
        refine pure_ (i := 25) (N := some 53) (v := ?_) (a' := ?_) #[true, true, true, false, true, false, false, true, false, false, false, true, true, true, true, true, true, true, true, true, true, false, true, false, true, true, false, false, false] rfl rfl (any_of HT_.out (by kernel_rfl)) (fun _ _ _ h => h) (Or.inl ⟨by rfl, ?_⟩) ?_ ?_
        rotate_left
        · intro w'
          go_simp
          with_reducible rfl
        rotate_left
        · simp only [Act.put, List.setIfInBounds_toArray, List.set_cons_zero, List.set_cons_succ, i64_w, i32_w]
          rfl
        refine take_ (i := 26) (N := some 54) (v := ?_) (a' := ?_) #[true, true, true, false, true, false, false, true, false, false, false, true, true, true, true, true, true, true, true, true, true, false, true, false, true, true, true, false, false] rfl rfl (take_ofW HT_.out HW_.out (by kernel_rfl)) (fun _ _ _ h => h) (Or.inl ⟨by rfl, ?_⟩) hHeld ?_ ?_
        rotate_left
        · intro w' hw'
          have hq := HC9.out w' hw'
          go_simp
          with_reducible rfl
        rotate_left
        · simp only [Act.put, List.setIfInBounds_toArray, List.set_cons_zero, List.set_cons_succ, i64_w, i32_w]
          rfl
        refine one_ (i := 3) (N := some 31) #[true, true, true, true, true, false, false, true, false, false, false, true, true, true, true, true, true, true, true, true, true, false, true, false, true, true, true, false, false] rfl rfl (one_of HT_.out (by kernel_rfl)) (by decide) (fun K hK => ?_)
        refine goes_ Tryd.func19 (by kernel_rfl) rfl #[.int .u32 v4, .int .i64 6] (by rfl) rfl rfl (by (try simp only [List.map_toArray, List.map_cons, List.map_nil]); first | done | rfl) ?_
        with_reducible refine (turn_6 v4 _).mono ?_
        rintro e x' ⟨rfl, rfl⟩
        refine ⟨_, rfl, ?_⟩
        refine hK.out _ _ hHeld (fun hHeld => ?_)
        clear hK K
        refine norm_ (a' := ?_) ?_ ?_
        rotate_left
        · show Act.put _ (some 31) _ = _
          simp only [Act.put, List.setIfInBounds_toArray, List.set_cons_zero, List.set_cons_succ, i64_w, i32_w]
          rfl
        refine one_ (i := 5) (N := some 33) #[true, true, true, true, true, true, false, true, false, false, false, true, true, true, true, true, true, true, true, true, true, false, true, false, true, true, true, false, false] rfl rfl (one_of HT_.out (by kernel_rfl)) (by decide) (fun K hK => ?_)
        refine goes_ Tryd.func19 (by kernel_rfl) rfl #[.int .u32 v4, .int .i64 11] (by rfl) rfl rfl (by (try simp only [List.map_toArray, List.map_cons, List.map_nil]); first | done | rfl) ?_
        with_reducible refine (turn_11 v4 _).mono ?_
        rintro e x' ⟨rfl, rfl⟩
        refine ⟨_, rfl, ?_⟩
        refine hK.out _ _ hHeld (fun hHeld => ?_)
        clear hK K
        refine norm_ (a' := ?_) ?_ ?_
        rotate_left
        · show Act.put _ (some 33) _ = _
          simp only [Act.put, List.setIfInBounds_toArray, List.set_cons_zero, List.set_cons_succ, i64_w, i32_w]
          rfl
        refine pure_ (i := 6) (N := some 34) (v := ?_) (a' := ?_) #[true, true, true, true, true, true, true, true, false, false, false, true, true, true, true, true, true, true, true, true, true, false, true, false, true, true, true, false, false] rfl rfl (any_of HT_.out (by kernel_rfl)) (fun _ _ _ h => h) (Or.inl ⟨by rfl, ?_⟩) ?_ ?_
        rotate_left
        · intro w'
          go_simp
          with_reducible rfl
        rotate_left
        · simp only [Act.put, List.setIfInBounds_toArray, List.set_cons_zero, List.set_cons_succ, i64_w, i32_w]
          rfl
        refine one_ (i := 8) (N := some 36) #[true, true, true, true, true, true, true, true, true, false, false, true, true, true, true, true, true, true, true, true, true, false, true, false, true, true, true, false, false] rfl rfl (one_of HT_.out (by kernel_rfl)) (by decide) (fun K hK => ?_)
        refine goes_ Tryd.func19 (by kernel_rfl) rfl #[.int .u32 v4, .int .i64 25] (by rfl) rfl rfl (by (try simp only [List.map_toArray, List.map_cons, List.map_nil]); first | done | rfl) ?_
        with_reducible refine (turn_25 v4 _).mono ?_
        rintro e x' ⟨rfl, rfl⟩
        refine ⟨_, rfl, ?_⟩
        refine hK.out _ _ hHeld (fun hHeld => ?_)
        clear hK K
        refine norm_ (a' := ?_) ?_ ?_
        rotate_left
        · show Act.put _ (some 36) _ = _
          simp only [Act.put, List.setIfInBounds_toArray, List.set_cons_zero, List.set_cons_succ, i64_w, i32_w]
          rfl
        refine pure_ (i := 9) (N := some 37) (v := ?_) (a' := ?_) #[true, true, true, true, true, true, true, true, true, true, false, true, true, true, true, true, true, true, true, true, true, false, true, false, true, true, true, false, false] rfl rfl (any_of HT_.out (by kernel_rfl)) (fun _ _ _ h => h) (Or.inl ⟨by rfl, ?_⟩) ?_ ?_
        rotate_left
        · intro w'
          go_simp
          with_reducible rfl
        rotate_left
        · simp only [Act.put, List.setIfInBounds_toArray, List.set_cons_zero, List.set_cons_succ, i64_w, i32_w]
          rfl
        refine pure_ (i := 10) (N := some 38) (v := ?_) (a' := ?_) #[true, true, true, true, true, true, true, true, true, true, true, true, true, true, true, true, true, true, true, true, true, false, true, false, true, true, true, false, false] rfl rfl (any_of HT_.out (by kernel_rfl)) (fun _ _ _ h => h) (Or.inl ⟨by rfl, ?_⟩) ?_ ?_
        rotate_left
        · intro w'
          go_simp
          with_reducible rfl
        rotate_left
        · simp only [Act.put, List.setIfInBounds_toArray, List.set_cons_zero, List.set_cons_succ, i64_w, i32_w]
          rfl
        refine pure_ (i := 21) (N := some 49) (v := ?_) (a' := ?_) #[true, true, true, true, true, true, true, true, true, true, true, true, true, true, true, true, true, true, true, true, true, true, true, false, true, true, true, false, false] rfl rfl (any_of HT_.out (by kernel_rfl)) (fun _ _ _ h => h) (Or.inl ⟨by rfl, ?_⟩) ?_ ?_
        rotate_left
        · intro w'
          go_simp
          with_reducible rfl
        rotate_left
        · simp only [Act.put, List.setIfInBounds_toArray, List.set_cons_zero, List.set_cons_succ, i64_w, i32_w]
          rfl
        refine pure_ (i := 23) (N := some 51) (v := ?_) (a' := ?_) #[true, true, true, true, true, true, true, true, true, true, true, true, true, true, true, true, true, true, true, true, true, true, true, true, true, true, true, false, false] rfl rfl (any_of HT_.out (by kernel_rfl)) (fun _ _ _ h => h) (Or.inl ⟨by rfl, ?_⟩) ?_ ?_
        rotate_left
        · intro w'
          go_simp
          with_reducible rfl
        rotate_left
        · simp only [Act.put, List.setIfInBounds_toArray, List.set_cons_zero, List.set_cons_succ, i64_w, i32_w]
          rfl
        refine pure_ (i := 27) (N := some 55) (v := ?_) (a' := ?_) #[true, true, true, true, true, true, true, true, true, true, true, true, true, true, true, true, true, true, true, true, true, true, true, true, true, true, true, true, false] rfl rfl (any_of HT_.out (by kernel_rfl)) (fun _ _ _ h => h) (Or.inl ⟨by rfl, ?_⟩) ?_ ?_
        rotate_left
        · intro w'
          go_simp
          with_reducible rfl
        rotate_left
        · simp only [Act.put, List.setIfInBounds_toArray, List.set_cons_zero, List.set_cons_succ, i64_w, i32_w]
          rfl
        refine pure_ (i := 28) (N := some 10) (v := ?_) (a' := ?_) #[true, true, true, true, true, true, true, true, true, true, true, true, true, true, true, true, true, true, true, true, true, true, true, true, true, true, true, true, true] rfl rfl (any_of HT_.out (by kernel_rfl)) (fun _ _ _ h => h) (Or.inl ⟨by rfl, ?_⟩) ?_ ?_
        rotate_left
        · intro w'
          go_simp
          with_reducible rfl
        rotate_left
        · simp only [Act.put, List.setIfInBounds_toArray, List.set_cons_zero, List.set_cons_succ, i64_w, i32_w]
          rfl
        refine done_ (done_of HT_.out (by kernel_rfl)) ?_
        go_wp2
        refine start_any (n := 25) (S := fun w' => Below wr.heap.size wr w') (ds := []) #[false, false, false, false, false, false, false, false, false, false, false, false, false, false, false, false, false, false, false, false, false, false, false, false, false] (by kernel_rfl) rfl rfl (below_drew1 hHeld) (fun wc hHeld => ?_); refine with_tabW mx7.tab7 mx7.bits7 (fun HT_ HW_ => ?_)
        refine pure_ (i := 0) (N := some 56) (v := ?_) (a' := ?_) #[true, false, false, false, false, false, false, false, false, false, false, false, false, false, false, false, false, false, false, false, false, false, false, false, false] rfl rfl (any_of HT_.out (by kernel_rfl)) (fun _ _ _ h => h) (Or.inl ⟨by rfl, ?_⟩) ?_ ?_
        rotate_left
        · intro w'
          go_simp
          with_reducible rfl
        rotate_left
        · simp only [Act.put, List.setIfInBounds_toArray, List.set_cons_zero, List.set_cons_succ, i64_w, i32_w]
          rfl
        refine pure_ (i := 2) (N := some 58) (v := ?_) (a' := ?_) #[true, false, true, false, false, false, false, false, false, false, false, false, false, false, false, false, false, false, false, false, false, false, false, false, false] rfl rfl (any_of HT_.out (by kernel_rfl)) (fun _ _ _ h => h) (Or.inl ⟨by rfl, ?_⟩) ?_ ?_
        rotate_left
        · intro w'
          go_simp
          with_reducible rfl
        rotate_left
        · simp only [Act.put, List.setIfInBounds_toArray, List.set_cons_zero, List.set_cons_succ, i64_w, i32_w]
          rfl
        refine pure_ (i := 5) (N := some 61) (v := ?_) (a' := ?_) #[true, false, true, false, false, true, false, false, false, false, false, false, false, false, false, false, false, false, false, false, false, false, false, false, false] rfl rfl (any_of HT_.out (by kernel_rfl)) (fun _ _ _ h => h) (Or.inl ⟨by rfl, ?_⟩) ?_ ?_
        rotate_left
        · intro w'
          go_simp
          with_reducible rfl
        rotate_left
        · simp only [Act.put, List.setIfInBounds_toArray, List.set_cons_zero, List.set_cons_succ, i64_w, i32_w]
          rfl
        refine pure_ (i := 8) (N := some 64) (v := ?_) (a' := ?_) #[true, false, true, false, false, true, false, false, true, false, false, false, false, false, false, false, false, false, false, false, false, false, false, false, false] rfl rfl (any_of HT_.out (by kernel_rfl)) (fun _ _ _ h => h) (Or.inl ⟨by rfl, ?_⟩) ?_ ?_
        rotate_left
        · intro w'
          go_simp
          with_reducible rfl
        rotate_left
        · simp only [Act.put, List.setIfInBounds_toArray, List.set_cons_zero, List.set_cons_succ, i64_w, i32_w]
          rfl
        refine pure_ (i := 9) (N := some 65) (v := ?_) (a' := ?_) #[true, false, true, false, false, true, false, false, true, true, false, false, false, false, false, false, false, false, false, false, false, false, false, false, false] rfl rfl (any_of HT_.out (by kernel_rfl)) (fun _ _ _ h => h) (Or.inl ⟨by rfl, ?_⟩) ?_ ?_
        rotate_left
        · intro w'
          go_simp
          with_reducible rfl
        rotate_left
        · simp only [Act.put, List.setIfInBounds_toArray, List.set_cons_zero, List.set_cons_succ, i64_w, i32_w]
          rfl
        refine take_ (i := 10) (N := some 66) (v := ?_) (a' := ?_) #[true, false, true, false, false, true, false, false, true, true, true, false, false, false, false, false, false, false, false, false, false, false, false, false, false] rfl rfl (take_ofW HT_.out HW_.out (by kernel_rfl)) (fun _ _ _ h => h) (Or.inl ⟨by rfl, ?_⟩) hHeld ?_ ?_
        rotate_left
        · intro w' hw'
          have hq := HC1.out w' hw'
          go_simp
          with_reducible rfl
        rotate_left
        · simp only [Act.put, List.setIfInBounds_toArray, List.set_cons_zero, List.set_cons_succ, i64_w, i32_w]
          rfl
        refine pure_ (i := 11) (N := some 67) (v := ?_) (a' := ?_) #[true, false, true, false, false, true, false, false, true, true, true, true, false, false, false, false, false, false, false, false, false, false, false, false, false] rfl rfl (any_of HT_.out (by kernel_rfl)) (fun _ _ _ h => h) (Or.inl ⟨by rfl, ?_⟩) ?_ ?_
        rotate_left
        · intro w'
          go_simp
          with_reducible rfl
        rotate_left
        · simp only [Act.put, List.setIfInBounds_toArray, List.set_cons_zero, List.set_cons_succ, i64_w, i32_w]
          rfl
        refine pure_ (i := 12) (N := some 68) (v := ?_) (a' := ?_) #[true, false, true, false, false, true, false, false, true, true, true, true, true, false, false, false, false, false, false, false, false, false, false, false, false] rfl rfl (any_of HT_.out (by kernel_rfl)) (fun _ _ _ h => h) (Or.inl ⟨by rfl, ?_⟩) ?_ ?_
        rotate_left
        · intro w'
          go_simp
          with_reducible rfl
        rotate_left
        · simp only [Act.put, List.setIfInBounds_toArray, List.set_cons_zero, List.set_cons_succ, i64_w, i32_w]
          rfl
        refine pure_ (i := 13) (N := some 69) (v := ?_) (a' := ?_) #[true, false, true, false, false, true, false, false, true, true, true, true, true, true, false, false, false, false, false, false, false, false, false, false, false] rfl rfl (any_of HT_.out (by kernel_rfl)) (fun _ _ _ h => h) (Or.inl ⟨by rfl, ?_⟩) ?_ ?_
        rotate_left
        · intro w'
          go_simp
          with_reducible rfl
        rotate_left
        · simp only [Act.put, List.setIfInBounds_toArray, List.set_cons_zero, List.set_cons_succ, i64_w, i32_w]
          rfl
        refine take_ (i := 14) (N := some 70) (v := ?_) (a' := ?_) #[true, false, true, false, false, true, false, false, true, true, true, true, true, true, true, false, false, false, false, false, false, false, false, false, false] rfl rfl (take_ofW HT_.out HW_.out (by kernel_rfl)) (fun _ _ _ h => h) (Or.inl ⟨by rfl, ?_⟩) hHeld ?_ ?_
        rotate_left
        · intro w' hw'
          have hq := HC2.out w' hw'
          go_simp
          with_reducible rfl
        rotate_left
        · simp only [Act.put, List.setIfInBounds_toArray, List.set_cons_zero, List.set_cons_succ, i64_w, i32_w]
          rfl
        refine pure_ (i := 15) (N := some 71) (v := ?_) (a' := ?_) #[true, false, true, false, false, true, false, false, true, true, true, true, true, true, true, true, false, false, false, false, false, false, false, false, false] rfl rfl (any_of HT_.out (by kernel_rfl)) (fun _ _ _ h => h) (Or.inl ⟨by rfl, ?_⟩) ?_ ?_
        rotate_left
        · intro w'
          go_simp
          with_reducible rfl
        rotate_left
        · simp only [Act.put, List.setIfInBounds_toArray, List.set_cons_zero, List.set_cons_succ, i64_w, i32_w]
          rfl
        refine pure_ (i := 16) (N := some 72) (v := ?_) (a' := ?_) #[true, false, true, false, false, true, false, false, true, true, true, true, true, true, true, true, true, false, false, false, false, false, false, false, false] rfl rfl (any_of HT_.out (by kernel_rfl)) (fun _ _ _ h => h) (Or.inl ⟨by rfl, ?_⟩) ?_ ?_
        rotate_left
        · intro w'
          go_simp
          with_reducible rfl
        rotate_left
        · simp only [Act.put, List.setIfInBounds_toArray, List.set_cons_zero, List.set_cons_succ, i64_w, i32_w]
          rfl
        refine pure_ (i := 17) (N := some 73) (v := ?_) (a' := ?_) #[true, false, true, false, false, true, false, false, true, true, true, true, true, true, true, true, true, true, false, false, false, false, false, false, false] rfl rfl (any_of HT_.out (by kernel_rfl)) (fun _ _ _ h => h) (Or.inl ⟨by rfl, ?_⟩) ?_ ?_
        rotate_left
        · intro w'
          go_simp
          with_reducible rfl
        rotate_left
        · simp only [Act.put, List.setIfInBounds_toArray, List.set_cons_zero, List.set_cons_succ, i64_w, i32_w]
          rfl
        refine take_ (i := 18) (N := some 74) (v := ?_) (a' := ?_) #[true, false, true, false, false, true, false, false, true, true, true, true, true, true, true, true, true, true, true, false, false, false, false, false, false] rfl rfl (take_ofW HT_.out HW_.out (by kernel_rfl)) (fun _ _ _ h => h) (Or.inl ⟨by rfl, ?_⟩) hHeld ?_ ?_
        rotate_left
        · intro w' hw'
          have hq := HC1.out w' hw'
          go_simp
          with_reducible rfl
        rotate_left
        · simp only [Act.put, List.setIfInBounds_toArray, List.set_cons_zero, List.set_cons_succ, i64_w, i32_w]
          rfl
        refine pure_ (i := 19) (N := some 75) (v := ?_) (a' := ?_) #[true, false, true, false, false, true, false, false, true, true, true, true, true, true, true, true, true, true, true, true, false, false, false, false, false] rfl rfl (any_of HT_.out (by kernel_rfl)) (fun _ _ _ h => h) (Or.inl ⟨by rfl, ?_⟩) ?_ ?_
        rotate_left
        · intro w'
          go_simp
          with_reducible rfl
        rotate_left
        · simp only [Act.put, List.setIfInBounds_toArray, List.set_cons_zero, List.set_cons_succ, i64_w, i32_w]
          rfl
        refine take_ (i := 20) (N := some 76) (v := ?_) (a' := ?_) #[true, false, true, false, false, true, false, false, true, true, true, true, true, true, true, true, true, true, true, true, true, false, false, false, false] rfl rfl (take_ofW HT_.out HW_.out (by kernel_rfl)) (fun _ _ _ h => h) (Or.inl ⟨by rfl, ?_⟩) hHeld ?_ ?_
        rotate_left
        · intro w' hw'
          have hq := HC2.out w' hw'
          go_simp
          with_reducible rfl
        rotate_left
        · simp only [Act.put, List.setIfInBounds_toArray, List.set_cons_zero, List.set_cons_succ, i64_w, i32_w]
          rfl
        refine pure_ (i := 21) (N := some 77) (v := ?_) (a' := ?_) #[true, false, true, false, false, true, false, false, true, true, true, true, true, true, true, true, true, true, true, true, true, true, false, false, false] rfl rfl (any_of HT_.out (by kernel_rfl)) (fun _ _ _ h => h) (Or.inl ⟨by rfl, ?_⟩) ?_ ?_
        rotate_left
        · intro w'
          go_simp
          with_reducible rfl
        rotate_left
        · simp only [Act.put, List.setIfInBounds_toArray, List.set_cons_zero, List.set_cons_succ, i64_w, i32_w]
          rfl
        refine pure_ (i := 22) (N := some 78) (v := ?_) (a' := ?_) #[true, false, true, false, false, true, false, false, true, true, true, true, true, true, true, true, true, true, true, true, true, true, true, false, false] rfl rfl (any_of HT_.out (by kernel_rfl)) (fun _ _ _ h => h) (Or.inl ⟨by rfl, ?_⟩) ?_ ?_
        rotate_left
        · intro w'
          go_simp
          with_reducible rfl
        rotate_left
        · simp only [Act.put, List.setIfInBounds_toArray, List.set_cons_zero, List.set_cons_succ, i64_w, i32_w]
          rfl
        refine one_ (i := 1) (N := some 57) #[true, true, true, false, false, true, false, false, true, true, true, true, true, true, true, true, true, true, true, true, true, true, true, false, false] rfl rfl (one_of HT_.out (by kernel_rfl)) (by decide) (fun K hK => ?_)
        refine goes_ Tryd.func19 (by kernel_rfl) rfl #[.int .u32 v0, .int .i64 2] (by rfl) rfl rfl (by (try simp only [List.map_toArray, List.map_cons, List.map_nil]); first | done | rfl) ?_
        with_reducible refine (turn_2 v0 _).mono ?_
        rintro e x' ⟨rfl, rfl⟩
        refine ⟨_, rfl, ?_⟩
        refine hK.out _ _ hHeld (fun hHeld => ?_)
        clear hK K
        refine norm_ (a' := ?_) ?_ ?_
        rotate_left
        · show Act.put _ (some 57) _ = _
          simp only [Act.put, List.setIfInBounds_toArray, List.set_cons_zero, List.set_cons_succ, i64_w, i32_w]
          rfl
        refine one_ (i := 3) (N := some 59) #[true, true, true, true, false, true, false, false, true, true, true, true, true, true, true, true, true, true, true, true, true, true, true, false, false] rfl rfl (one_of HT_.out (by kernel_rfl)) (by decide) (fun K hK => ?_)
        refine goes_ Tryd.func19 (by kernel_rfl) rfl #[.int .u32 v0, .int .i64 13] (by rfl) rfl rfl (by (try simp only [List.map_toArray, List.map_cons, List.map_nil]); first | done | rfl) ?_
        with_reducible refine (turn_13 v0 _).mono ?_
        rintro e x' ⟨rfl, rfl⟩
        refine ⟨_, rfl, ?_⟩
        refine hK.out _ _ hHeld (fun hHeld => ?_)
        clear hK K
        refine norm_ (a' := ?_) ?_ ?_
        rotate_left
        · show Act.put _ (some 59) _ = _
          simp only [Act.put, List.setIfInBounds_toArray, List.set_cons_zero, List.set_cons_succ, i64_w, i32_w]
          rfl
        refine pure_ (i := 4) (N := some 60) (v := ?_) (a' := ?_) #[true, true, true, true, true, true, false, false, true, true, true, true, true, true, true, true, true, true, true, true, true, true, true, false, false] rfl rfl (any_of HT_.out (by kernel_rfl)) (fun _ _ _ h => h) (Or.inl ⟨by rfl, ?_⟩) ?_ ?_
        rotate_left
        · intro w'
          go_simp
          with_reducible rfl
        rotate_left
        · simp only [Act.put, List.setIfInBounds_toArray, List.set_cons_zero, List.set_cons_succ, i64_w, i32_w]
          rfl
        refine one_ (i := 6) (N := some 62) #[true, true, true, true, true, true, true, false, true, true, true, true, true, true, true, true, true, true, true, true, true, true, true, false, false] rfl rfl (one_of HT_.out (by kernel_rfl)) (by decide) (fun K hK => ?_)
        refine goes_ Tryd.func19 (by kernel_rfl) rfl #[.int .u32 v0, .int .i64 22] (by rfl) rfl rfl (by (try simp only [List.map_toArray, List.map_cons, List.map_nil]); first | done | rfl) ?_
        with_reducible refine (turn_22 v0 _).mono ?_
        rintro e x' ⟨rfl, rfl⟩
        refine ⟨_, rfl, ?_⟩
        refine hK.out _ _ hHeld (fun hHeld => ?_)
        clear hK K
        refine norm_ (a' := ?_) ?_ ?_
        rotate_left
        · show Act.put _ (some 62) _ = _
          simp only [Act.put, List.setIfInBounds_toArray, List.set_cons_zero, List.set_cons_succ, i64_w, i32_w]
          rfl
        refine pure_ (i := 7) (N := some 63) (v := ?_) (a' := ?_) #[true, true, true, true, true, true, true, true, true, true, true, true, true, true, true, true, true, true, true, true, true, true, true, false, false] rfl rfl (any_of HT_.out (by kernel_rfl)) (fun _ _ _ h => h) (Or.inl ⟨by rfl, ?_⟩) ?_ ?_
        rotate_left
        · intro w'
          go_simp
          with_reducible rfl
        rotate_left
        · simp only [Act.put, List.setIfInBounds_toArray, List.set_cons_zero, List.set_cons_succ, i64_w, i32_w]
          rfl
        refine pure_ (i := 23) (N := some 79) (v := ?_) (a' := ?_) #[true, true, true, true, true, true, true, true, true, true, true, true, true, true, true, true, true, true, true, true, true, true, true, true, false] rfl rfl (any_of HT_.out (by kernel_rfl)) (fun _ _ _ h => h) (Or.inl ⟨by rfl, ?_⟩) ?_ ?_
        rotate_left
        · intro w'
          go_simp
          with_reducible rfl
        rotate_left
        · simp only [Act.put, List.setIfInBounds_toArray, List.set_cons_zero, List.set_cons_succ, i64_w, i32_w]
          rfl
        refine pure_ (i := 24) (N := some 11) (v := ?_) (a' := ?_) #[true, true, true, true, true, true, true, true, true, true, true, true, true, true, true, true, true, true, true, true, true, true, true, true, true] rfl rfl (any_of HT_.out (by kernel_rfl)) (fun _ _ _ h => h) (Or.inl ⟨by rfl, ?_⟩) ?_ ?_
        rotate_left
        · intro w'
          go_simp
          with_reducible rfl
        rotate_left
        · simp only [Act.put, List.setIfInBounds_toArray, List.set_cons_zero, List.set_cons_succ, i64_w, i32_w]
          rfl
        refine done_ (done_of HT_.out (by kernel_rfl)) ?_
        go_wp2
        refine start_any (n := 3) (S := fun w' => Below wr.heap.size wr w') (ds := [2]) #[false, false, false] (by kernel_rfl) rfl rfl (below_drew1 hHeld) (fun wd hHeld => ?_); refine with_tabW mx8.tab8 mx8.bits8 (fun HT_ HW_ => ?_)
        refine pure_ (i := 0) (N := some 80) (v := ?_) (a' := ?_) #[true, false, false] rfl rfl (any_of HT_.out (by kernel_rfl)) (fun _ _ _ h => h) (Or.inl ⟨by rfl, ?_⟩) ?_ ?_
        rotate_left
        · intro w'
          go_simp
          with_reducible rfl
        rotate_left
        · simp only [Act.put, List.setIfInBounds_toArray, List.set_cons_zero, List.set_cons_succ, i64_w, i32_w]
          rfl
        refine pure_ (i := 1) (N := some 81) (v := ?_) (a' := ?_) #[true, true, false] rfl rfl (any_of HT_.out (by kernel_rfl)) (fun _ _ _ h => h) (Or.inl ⟨by rfl, ?_⟩) ?_ ?_
        rotate_left
        · intro w'
          go_simp
          with_reducible rfl
        rotate_left
        · simp only [Act.put, List.setIfInBounds_toArray, List.set_cons_zero, List.set_cons_succ, i64_w, i32_w]
          rfl
        refine last_ (i := 2) (N := some 82) #[true, true, true] rfl rfl (one_of HT_.out (by kernel_rfl)) (by decide) (fun K hK => ?_)
        obtain ⟨wz, hz⟩ : ∃ x, x = wd.setRow w2.heap.size (rowOf [v0, v0, v1, v2, v3, v4, v5, v6]) := ⟨_, rfl⟩
        have hrun := mix_copy wd w2.heap.size v0 v1 v2 v3 v4 v5 v6 v7 ((hHeld.block _ HLT.out).trans HR.out)
        rw [← hz] at hrun
        refine event_step (v := .int .i64 7) (w1 := wz) (by rfl) ?_ ?_
        · go_simp
        have HE := Aside0.mk hHeld
        have HZ := Aside0.mk hz
        clear hrun hz
        refine hK.out _ _ ?_
        clear hK K
        refine norm_ (a' := ?_) ?_ ?_
        rotate_left
        · show Act.put _ (some 82) _ = _
          simp only [Act.put, List.setIfInBounds_toArray, List.set_cons_zero, List.set_cons_succ, i64_w, i32_w]
          try rfl
        refine done_ (done_of HT_.out (by kernel_rfl)) ?_
        have HRZ : Aside0 (wz.heap[w2.heap.size]? = some (.cells (rowOf [v0, v0, v1, v2, v3, v4, v5, v6]) 44)) := ⟨by rw [HZ.out]; exact setRow_heap _ _ _ _ 44 (0, 0) ((HE.out.block _ HLT.out).trans HR.out)⟩
        have HBZ : Aside0 (Below w2.heap.size w3 wz) := ⟨by rw [HZ.out]; exact below_setRow (HB.out.trans (HE.out.mono (Nat.le_of_lt HLT.out))) (Nat.le_refl _) _⟩
        have q1 : wz.cell? ⟨w2.heap.size, 4, none⟩ = some (.int .u32 v3) := (cell_of_row wz _ 4 _ 44 (0, 0) HRZ.out).trans rfl
        have q2 : wz.frozen? ⟨w2.heap.size, 4, none⟩ = false := frozen_of_row wz _ 4 _ 44 HRZ.out
        have q3 : ∀ v, (wz.setCell ⟨w2.heap.size, 4, none⟩ v).cell? ⟨w2.heap.size, 0, none⟩ = some (.int .u32 v0) := fun v => (cell_of_row _ _ 0 _ 44 (0, 0) (heap_setCell_same wz w2.heap.size 4 _ 44 v HRZ.out)).trans rfl
        have q4 : ∀ v, (wz.setCell ⟨w2.heap.size, 4, none⟩ v).frozen? ⟨w2.heap.size, 0, none⟩ = false := fun v => frozen_of_row _ _ 0 _ 44 (heap_setCell_same wz w2.heap.size 4 _ 44 v HRZ.out)
        clear HE HZ
        go_wp2
        go_roundg k2
        case measure => have := HI.out; omega
        case rel => exact ⟨i + 1, (by rw [HW.out]), ⟨by have := HI0.out; omega, by have := HI0.out; omega, by have := HI.out; omega⟩, ⟨mix_row (sc := sc) (H := H) (i := i) HX.out HY.out HI0.out.1 (HKK.out.trans (by rw [HKS.out])) HXX.out HV.out HRZ.out⟩, ⟨(HBZ.out.setCell (p := ⟨w2.heap.size, 4, none⟩) (Nat.le_refl _) _).setCell (p := ⟨w2.heap.size, 0, none⟩) (Nat.le_refl _) _⟩⟩
      · have ei : i = 64 := by omega
        subst ei
        have c1 : decide ((64 : Int) < 64) = false := by decide
        obtain ⟨vv, hvv⟩ : ∃ x, x = rounds sc H 64 := ⟨_, rfl⟩
        have HVV := Aside0.mk hvv
        have HVL : Aside0 (vv.length = 8) := ⟨by rw [hvv]; exact rounds_len sc H HH.out _⟩
        have HR8 : Aside0 (wr.heap[w2.heap.size]? = some (.cells (rowOf vv) 44)) := ⟨HR.out.trans (by rw [hvv]; rfl)⟩
        have HF8 : Aside0 (F8 g (stateCells (fun i => H.getD i 0) L n) w w2 wr) := ⟨mix_f8 HF3.out HB.out HL.out⟩
        clear i0 i1 ik hi HI HR hvv
        go_wp2
        go_loopg [93] 9 (fun kq v93 w' => ∃ i : Int, v93 = .int .i64 i ∧ Aside0 (0 ≤ i ∧ i ≤ 8 ∧ 8 - i < kq) ∧ Aside0 (w'.heap[g]? = some (.cells (stateCells (part8 H vv i.toNat) L n) 47)) ∧ Aside0 (w'.heap[w2.heap.size]? = some (.cells (rowOf vv) 44)) ∧ Aside0 (Ch g w w'))
        case atStart => exact ⟨0, rfl, ⟨by omega, by omega, by omega⟩, ⟨HF8.out.st.trans (by rw [state_ext _ _ L n (part8_zero H vv)]; rfl)⟩, HR8, ⟨HF8.out.ch⟩⟩
        case round =>
          obtain ⟨i, rfl, HI, HG8, HV8, HB8⟩ := hrel
          cases gk with
          | zero => exact absurd HI.out (by omega)
          | succ k3 =>
            obtain ⟨i0, i1, ik⟩ := HI.out
            by_cases hi : i < 8
            · have c2 : decide (i < 8) = true := decide_eq_true hi
              obtain ⟨hh, hhd⟩ : ∃ x, x = H.getD i.toNat 0 := ⟨_, rfl⟩
              obtain ⟨vx, vxd⟩ : ∃ x, x = vv.getD i.toNat 0 := ⟨_, rfl⟩
              obtain ⟨X, hXd⟩ : ∃ x, x = add32 hh vx := ⟨_, rfl⟩
              have hX := (wrap_add hh vx).trans hXd.symm
              have hlg := (Array.getElem?_eq_some_iff.1 HG8.out).1
              have hlv := (Array.getElem?_eq_some_iff.1 HV8.out).1
              have HLG := Aside0.mk hlg
              have HLV := Aside0.mk hlv
              have HC10 : Aside0 (∀ w', Below wr.heap.size wr w' → w'.cell? ⟨g, i.toNat, none⟩ = some (.int .u32 hh)) := ⟨fun w' hw' => (cell_of_row w' _ _ _ 47 (0, 0) ((hw'.block _ hlg).trans HG8.out)).trans (by rw [state_get _ _ _ _ (by omega), hhd]; unfold part8; rw [if_neg (Nat.lt_irrefl _)])⟩
              have HC11 : Aside0 (∀ w', Below wr.heap.size wr w' → w'.cell? ⟨w2.heap.size, i.toNat, none⟩ = some (.int .u32 vx)) := ⟨fun w' hw' => (cell_of_row w' _ _ _ 44 (0, 0) ((hw'.block _ hlv).trans HV8.out)).trans (by rw [rowOf_get _ _ (by rw [HVL.out]; omega), vxd])⟩
              have HC0 : Aside0 (∀ w', Below wr.heap.size wr w' → ∃ v, w'.cell? ⟨g, i.toNat, none⟩ = some v ∧ w'.frozen? ⟨g, i.toNat, none⟩ = false) := ⟨fun w' hw' => ⟨_, HC10.out w' hw', frozen_of_row w' _ _ _ 47 ((hw'.block _ hlg).trans HG8.out)⟩⟩
              have HXD : Aside0 (X = add32 (H.getD i.toNat 0) (vv.getD i.toNat 0)) := ⟨by rw [hXd, hhd, vxd]⟩
              have a1 := eq_true i0
              have a2 := eq_true hi
              have hw : wrap64 (i + 1) = i + 1 := by unfold wrap64; omega
              have HW := Aside0.mk hw
              have HI0 := Aside0.mk (And.intro i0 hi)
              clear hhd vxd hXd hlg hlv hw i0 i1 ik hi
              go_wp2
              refine start_any (n := 14) (S := fun w' => Below wr.heap.size wr w') (ds := [13]) #[false, false, false, false, false, false, false, false, false, false, false, false, false, false] (by kernel_rfl) rfl rfl (below_drew1 (Below.refl _ _)) (fun wb hHeld => ?_); refine with_tabW mx15.tab15 mx15.bits15 (fun HT_ HW_ => ?_)
              refine pure_ (i := 0) (N := some 96) (v := ?_) (a' := ?_) #[true, false, false, false, false, false, false, false, false, false, false, false, false, false] rfl rfl (any_of HT_.out (by kernel_rfl)) (fun _ _ _ h => h) (Or.inl ⟨by rfl, ?_⟩) ?_ ?_
              rotate_left
              · intro w'
                go_simp
                with_reducible rfl
              rotate_left
              · simp only [Act.put, List.setIfInBounds_toArray, List.set_cons_zero, List.set_cons_succ, i64_w, i32_w]
                rfl
              refine pure_ (i := 1) (N := some 97) (v := ?_) (a' := ?_) #[true, true, false, false, false, false, false, false, false, false, false, false, false, false] rfl rfl (any_of HT_.out (by kernel_rfl)) (fun _ _ _ h => h) (Or.inl ⟨by rfl, ?_⟩) ?_ ?_
              rotate_left
              · intro w'
                go_simp
                with_reducible rfl
              rotate_left
              · simp only [Act.put, List.setIfInBounds_toArray, List.set_cons_zero, List.set_cons_succ, i64_w, i32_w]
                rfl
              refine pure_ (i := 2) (N := some 98) (v := ?_) (a' := ?_) #[true, true, true, false, false, false, false, false, false, false, false, false, false, false] rfl rfl (any_of HT_.out (by kernel_rfl)) (fun _ _ _ h => h) (Or.inl ⟨by rfl, ?_⟩) ?_ ?_
              rotate_left
              · intro w'
                go_simp
                with_reducible rfl
              rotate_left
              · simp only [Act.put, List.setIfInBounds_toArray, List.set_cons_zero, List.set_cons_succ, i64_w, i32_w]
                rfl
              refine pure_ (i := 3) (N := some 99) (v := ?_) (a' := ?_) #[true, true, true, true, false, false, false, false, false, false, false, false, false, false] rfl rfl (any_of HT_.out (by kernel_rfl)) (fun _ _ _ h => h) (Or.inl ⟨by rfl, ?_⟩) ?_ ?_
              rotate_left
              · intro w'
                go_simp
                with_reducible rfl
              rotate_left
              · simp only [Act.put, List.setIfInBounds_toArray, List.set_cons_zero, List.set_cons_succ, i64_w, i32_w]
                rfl
              refine pure_ (i := 4) (N := some 100) (v := ?_) (a' := ?_) #[true, true, true, true, true, false, false, false, false, false, false, false, false, false] rfl rfl (any_of HT_.out (by kernel_rfl)) (fun _ _ _ h => h) (Or.inl ⟨by rfl, ?_⟩) ?_ ?_
              rotate_left
              · intro w'
                go_simp
                with_reducible rfl
              rotate_left
              · simp only [Act.put, List.setIfInBounds_toArray, List.set_cons_zero, List.set_cons_succ, i64_w, i32_w]
                rfl
              refine take_ (i := 5) (N := some 101) (v := ?_) (a' := ?_) #[true, true, true, true, true, true, false, false, false, false, false, false, false, false] rfl rfl (take_ofW HT_.out HW_.out (by kernel_rfl)) (fun _ _ _ h => h) (Or.inl ⟨by rfl, ?_⟩) hHeld ?_ ?_
              rotate_left
              · intro w' hw'
                have hq := HC10.out w' hw'
                go_simp
                with_reducible rfl
              rotate_left
              · simp only [Act.put, List.setIfInBounds_toArray, List.set_cons_zero, List.set_cons_succ, i64_w, i32_w]
                rfl
              refine pure_ (i := 6) (N := some 102) (v := ?_) (a' := ?_) #[true, true, true, true, true, true, true, false, false, false, false, false, false, false] rfl rfl (any_of HT_.out (by kernel_rfl)) (fun _ _ _ h => h) (Or.inl ⟨by rfl, ?_⟩) ?_ ?_
              rotate_left
              · intro w'
                go_simp
                with_reducible rfl
              rotate_left
              · simp only [Act.put, List.setIfInBounds_toArray, List.set_cons_zero, List.set_cons_succ, i64_w, i32_w]
                rfl
              refine pure_ (i := 7) (N := some 103) (v := ?_) (a' := ?_) #[true, true, true, true, true, true, true, true, false, false, false, false, false, false] rfl rfl (any_of HT_.out (by kernel_rfl)) (fun _ _ _ h => h) (Or.inl ⟨by rfl, ?_⟩) ?_ ?_
              rotate_left
              · intro w'
                go_simp
                with_reducible rfl
              rotate_left
              · simp only [Act.put, List.setIfInBounds_toArray, List.set_cons_zero, List.set_cons_succ, i64_w, i32_w]
                rfl
              refine take_ (i := 8) (N := some 104) (v := ?_) (a' := ?_) #[true, true, true, true, true, true, true, true, true, false, false, false, false, false] rfl rfl (take_ofW HT_.out HW_.out (by kernel_rfl)) (fun _ _ _ h => h) (Or.inl ⟨by rfl, ?_⟩) hHeld ?_ ?_
              rotate_left
              · intro w' hw'
                have hq := HC11.out w' hw'
                go_simp
                with_reducible rfl
              rotate_left
              · simp only [Act.put, List.setIfInBounds_toArray, List.set_cons_zero, List.set_cons_succ, i64_w, i32_w]
                rfl
              refine pure_ (i := 9) (N := some 105) (v := ?_) (a' := ?_) #[true, true, true, true, true, true, true, true, true, true, false, false, false, false] rfl rfl (any_of HT_.out (by kernel_rfl)) (fun _ _ _ h => h) (Or.inl ⟨by rfl, ?_⟩) ?_ ?_
              rotate_left
              · intro w'
                go_simp
                with_reducible rfl
              rotate_left
              · simp only [Act.put, List.setIfInBounds_toArray, List.set_cons_zero, List.set_cons_succ, i64_w, i32_w]
                rfl
              refine pure_ (i := 10) (N := some 106) (v := ?_) (a' := ?_) #[true, true, true, true, true, true, true, true, true, true, true, false, false, false] rfl rfl (any_of HT_.out (by kernel_rfl)) (fun _ _ _ h => h) (Or.inl ⟨by rfl, ?_⟩) ?_ ?_
              rotate_left
              · intro w'
                go_simp
                with_reducible rfl
              rotate_left
              · simp only [Act.put, List.setIfInBounds_toArray, List.set_cons_zero, List.set_cons_succ, i64_w, i32_w]
                rfl
              refine pure_ (i := 11) (N := some 107) (v := ?_) (a' := ?_) #[true, true, true, true, true, true, true, true, true, true, true, true, false, false] rfl rfl (any_of HT_.out (by kernel_rfl)) (fun _ _ _ h => h) (Or.inl ⟨by rfl, ?_⟩) ?_ ?_
              rotate_left
              · intro w'
                go_simp
                with_reducible rfl
              rotate_left
              · simp only [Act.put, List.setIfInBounds_toArray, List.set_cons_zero, List.set_cons_succ, i64_w, i32_w]
                rfl
              refine pure_ (i := 12) (N := some 108) (v := ?_) (a' := ?_) #[true, true, true, true, true, true, true, true, true, true, true, true, true, false] rfl rfl (any_of HT_.out (by kernel_rfl)) (fun _ _ _ h => h) (Or.inl ⟨by rfl, ?_⟩) ?_ ?_
              rotate_left
              · intro w'
                go_simp
                with_reducible rfl
              rotate_left
              · simp only [Act.put, List.setIfInBounds_toArray, List.set_cons_zero, List.set_cons_succ, i64_w, i32_w]
                rfl
              refine last_ (i := 13) (N := none) #[true, true, true, true, true, true, true, true, true, true, true, true, true, true] rfl rfl (one_of HT_.out (by kernel_rfl)) (by decide) (fun K hK => ?_)
              obtain ⟨v29, c29, f29⟩ := HC0.out _ hHeld
              refine skip_ (w1 := ?_) (by rfl) rfl ?_ ?_
              rotate_left
              · go_simp
                rfl
              have HE := Aside0.mk hHeld
              clear c29 f29
              refine hK.out _ _ ?_
              clear hK K
              refine done_ (done_of HT_.out (by kernel_rfl)) ?_
              have HG9 : Aside0 ((wb.setCell ⟨g, i.toNat, none⟩ (.int .u32 X)).heap[g]? = some (.cells (stateCells (part8 H vv (i + 1).toNat) L n) 47)) := ⟨(heap_setCell_same wb g i.toNat _ 47 _ ((HE.out.block _ HLG.out).trans HG8.out)).trans (by rw [state_set _ _ _ _ (by have := HI0.out; omega), state_ext _ _ L n (part8_step H vv i.toNat X HXD.out), show (i + 1).toNat = i.toNat + 1 by have := HI0.out; omega])⟩
              have HV9 : Aside0 ((wb.setCell ⟨g, i.toNat, none⟩ (.int .u32 X)).heap[w2.heap.size]? = some (.cells (rowOf vv) 44)) := ⟨(heap_setCell_other wb _ _ _ (by have := HF8.out.ne; exact this)).trans ((HE.out.block _ HLV.out).trans HV8.out)⟩
              have HB9 : Aside0 (Ch g w (wb.setCell ⟨g, i.toNat, none⟩ (.int .u32 X))) := ⟨(HB8.out.trans (Ch.of_below HE.out)).setCell (p := ⟨g, i.toNat, none⟩) rfl _⟩
              clear HE HC0 HC10 HC11
              go_wp2
              go_roundg k3
              case measure => have := HI.out; omega
              case rel => exact ⟨i + 1, (by rw [HW.out]), ⟨by have := HI0.out; omega, by have := HI0.out; omega, by have := HI.out; omega⟩, HG9, HV9, HB9⟩
            · have ei : i = 8 := by omega
              subst ei
              have c2 : decide ((8 : Int) < 8) = false := by decide
              clear i0 i1 ik hi HI
              go_wp2
              refine bodyPost_end (results_none rfl _ _ _) rfl ⟨rfl, HG8.out.trans ?_, HB8.out⟩
              rw [state_ext _ _ L n (part8_eight H vv b (by rw [HVV.out, HSC.out]))]
end Go.Proofs.YtldkofdpohaahaaDoor.Mix
