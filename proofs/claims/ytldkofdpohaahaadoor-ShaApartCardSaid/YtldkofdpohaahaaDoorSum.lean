/- The digest is asked for (sha.State.Sum): its contract; for fewer than 2^39 bytes. -/
import Derived.Test.YtldkofdpohaahaaDoorWrite
import Derived.Test.YtldkofdpohaahaaDoorPad
namespace Go.Proofs.YtldkofdpohaahaaDoor.Sum
open Go.RowKit Go.Proofs.YtldkofdpohaahaaDoorW.PrintWords Go.Proofs.YtldkofdpohaahaaDoorW.PrintLast Go.Proofs.YtldkofdpohaahaaDoorW.PrintMore Go.Proofs.YtldkofdpohaahaaDoor.New Go.Proofs.YtldkofdpohaahaaDoor.Plain Go.Proofs.YtldkofdpohaahaaDoor.Spread Go.Proofs.YtldkofdpohaahaaDoor.Rounds Go.Proofs.YtldkofdpohaahaaDoor.Mix Go.Proofs.YtldkofdpohaahaaDoor.Eat Go.Proofs.YtldkofdpohaahaaDoor.Write Go.Proofs.YtldkofdpohaahaaDoor.Pad
set_option linter.unusedVariables false
set_option linter.unusedSimpArgs false
def sm1.T1 : Bool × List (List Nat × List Nat) := (true, [([], []), ([0], [0]), ([1], [1]), ([2], [2]), ([], []), ([], []), ([5], [5]), ([6], [6]), ([7], [7]), ([4, 8], [4, 8]), ([], []), ([10], [10]), ([11], [11]), ([12], [12]), ([3, 9, 13], [3, 9, 13]), ([], []), ([15, 14, 9, 0, 1, 2, 3, 4, 5, 6, 7, 8, 9, 10, 11, 12, 13, 14, 15], [14, 15])])
def sm1.B1 : List Nat := [0, 1, 3, 7, 0, 0, 32, 96, 224, 496, 0, 1024, 3072, 7168, 16383, 0, 65535]
theorem sm1.tab1 : rtab .any (opsOf Tryd.f12 1) = sm1.T1 := by kernel_rfl
theorem sm1.bits1 : waitsOk sm1.T1.2 sm1.B1 = true := by kernel_rfl
theorem run_row0 {W : World} {base : Nat} {v : Value} (HO : W.ownsRow base 5 1 v 0 (nums .u8 [])) {A : Option Addr} {m : Nat} {ys : List Int} (HR : ReadsInt W .u8 A m ys) (c : Nat) (hbase : base ≤ W.heap.size) (hl : m ≤ 140737488355328) :
    ∃ A1 c1 w1, (Builtin.append_ #[22, 22] 22 #[v, .slice A m c]).run Tryd.prog W = .ok (.slice A1 m c1) w1 ∧ w1.ownsRow base 5 1 (.slice A1 m c1) m (nums .u8 ys) ∧ W.grownBy w1 v.ownBlock := by
  obtain ⟨i0, hi, hzz⟩ := Option.map_eq_some_iff.1 info5
  simp only [Prod.mk.injEq] at hzz
  obtain ⟨hz0, hz1, hz2⟩ := hzz
  have hm : ys.length = m := HR.1
  have hrun : ∃ v1 w1, (Builtin.append_ #[22, 22] 22 #[v, .slice A m c]).run Tryd.prog W = .ok v1 w1 ∧ w1.ownsRow base 5 1 v1 m (nums .u8 ys) ∧ W.grownBy w1 v.ownBlock := by
    rcases A with _ | ad
    · have h0 : m = 0 := by
        rcases Nat.eq_zero_or_pos m with h0 | h0
        · exact h0
        · obtain ⟨ad, h, _⟩ := HR.2.2 h0
          cases h
      subst h0
      obtain rfl : ys = [] := List.eq_nil_of_length_eq_zero hm
      refine ⟨v, W, ?_, HO, World.grownBy.refl W _⟩
      rcases HO.2 with ⟨rfl, hn⟩ | ⟨g, cap, cur, rfl, _, _, hnc, _⟩
      · simp [Builtin.append_, run_underlying Tryd.underlying22, sizeOf, typeInfo, hi, Builtin.lenOf, Builtin.firstCells]
      · simp [Builtin.append_, run_underlying Tryd.underlying22, sizeOf, typeInfo, hi, Builtin.lenOf, Builtin.firstCells, hnc, storeCells]
    · have hcells : ∀ j u, (nums .u8 ys)[j]? = some u → W.cell? (ad.add j) = some u := by
        intro j u hu
        have hj : j < ys.length := by
          rcases Nat.lt_or_ge j ys.length with h | h
          · exact h
          · simp [nums, List.getElem?_eq_none h] at hu
        obtain ⟨ad', h', hc⟩ := HR.2.2 (by omega)
        injection h' with h'
        subst h'
        have := hc j (by omega)
        simp [nums, List.getElem?_eq_getElem hj] at hu
        subst hu
        rw [this]
        simp [List.getD_eq_getElem?_getD, List.getElem?_eq_getElem hj]
      obtain ⟨v1, w1, hr, h2, h3, _, h5⟩ := run_append_own_at (P := Tryd.prog) W base 22 22 5 i0 (.int .u8 0) 1 1 Tryd.underlying22 hi hz0 hz1 hz2 rfl (by omega) v 0 (nums .u8 []) HO ad m c (nums .u8 ys) (by simp [nums, hm]) hcells
        (by intro u hu; simp only [nums, List.mem_map] at hu; obtain ⟨q, _, rfl⟩ := hu; rfl) (by simp only [maxLen]; omega) (by omega) hbase
      exact ⟨v1, w1, hr, by simpa [nums, hm] using h2, h3⟩
  obtain ⟨v1, w1, hr, ho, hg⟩ := hrun
  obtain ⟨A1, c1, rfl, _⟩ := own_reads ho
  exact ⟨A1, c1, w1, hr, ho, hg⟩
def z47 : Array Value := stateCells (fun _ => 0) (.slice none 0 0) 0
/-- region 1 under way -/
structure SP (w2 W : World) (e l : Option Value) (g3 : Option Nat) (left : List Int) : Prop where
  hb : Below w2.heap.size w2 W
  he : ∀ v, e = some v → W.ownsRow w2.heap.size 5 1 v 0 (nums .u8 [])
  hl : ∀ v, l = some v → W.ownsRow w2.heap.size 5 1 v left.length (nums .u8 left)
  hg : ∀ g, g3 = some g → W.heap[g]? = some (.cells z47 47) ∧ w2.heap.size ≤ g
theorem SP.start {w2 W : World} (left : List Int) (h : Below w2.heap.size w2 W) : SP w2 W none none none left := ⟨h, (fun _ e => by cases e), (fun _ e => by cases e), (fun _ e => by cases e)⟩
theorem SP.emp {w2 W : World} {l : Option Value} {g3 : Option Nat} {left : List Int} (h : SP w2 W none l g3 left) : SP w2 (W.alloc (.cells #[] 5)) (some (.slice (some ⟨W.heap.size, 0, none⟩) 0 0)) l g3 left :=
  ⟨below_alloc h.hb _, (fun v e => by cases e; exact own_lit W w2.heap.size 5 .u8 [] h.hb.size (by decide)), fun v e => (h.hl v e).alloc _, fun g e => ⟨((below_alloc (Below.refl W.heap.size W) _).block g (Array.getElem?_eq_some_iff.1 (h.hg g e).1).1).trans (h.hg g e).1, (h.hg g e).2⟩⟩
theorem SP.al {w2 W : World} {e l : Option Value} {left : List Int} (h : SP w2 W e l none left) : SP w2 (W.alloc (.cells z47 47)) e l (some W.heap.size) left :=
  ⟨below_alloc h.hb _, fun v q => (h.he v q).alloc _, fun v q => (h.hl v q).alloc _, (fun g q => by cases q; exact ⟨heap_alloc_new W _, h.hb.size⟩)⟩
theorem SP.app {w2 W : World} {v : Value} {g3 : Option Nat} {left : List Int} (h : SP w2 W (some v) none g3 left) {A : Option Addr} (hr : ReadsInt W .u8 A left.length left) (c : Nat) (hl : left.length < 64) :
    ∃ A1 c1 w1, (Builtin.append_ #[22, 22] 22 #[v, .slice A left.length c]).run Tryd.prog W = .ok (.slice A1 left.length c1) w1 ∧ SP w2 w1 none (some (.slice A1 left.length c1)) g3 left := by
  obtain ⟨A1, c1, w1, hrun, ho, hg⟩ := run_row0 (h.he v rfl) hr c h.hb.size (by omega)
  refine ⟨A1, c1, w1, hrun, ⟨pw_below_grown h.hb _ h.hb.size hg (own_base (h.he v rfl)), (fun _ q => by cases q), (fun _ q => by cases q; exact ho), fun g q => ⟨?_, (h.hg g q).2⟩⟩⟩
  refine (hg.block g (Array.getElem?_eq_some_iff.1 (h.hg g q).1).1 ?_).trans (h.hg g q).1
  intro hk
  rcases (h.he v rfl).2 with ⟨rfl, _⟩ | ⟨g', cap', cur', rfl, _, hh', _⟩
  · simp [Value.ownBlock] at hk
  · have : g = g' := by simpa [Value.ownBlock] using hk
    subst this
    rw [(h.hg g q).1] at hh'
    injection hh' with hh'
    injection hh' with _ ht
    exact absurd ht (by decide)
structure S3 (w2 W : World) (v : Value) (g3 : Nat) (C : Array Value) (left : List Int) : Prop where
  hb : Below w2.heap.size w2 W
  hl : W.ownsRow w2.heap.size 5 1 v left.length (nums .u8 left)
  row : W.heap[g3]? = some (.cells C 47)
  le : w2.heap.size ≤ g3
theorem SP.last {w2 W : World} {v : Value} {g3 : Nat} {left : List Int} (h : SP w2 W none (some v) (some g3) left) (C : Array Value) : S3 w2 (W.setRow g3 C) v g3 C left := by
  obtain ⟨hr, hle⟩ := h.hg g3 rfl
  refine ⟨below_setRow h.hb hle _, (h.hl v rfl).kept (row := some g3) ⟨rfl, rfl, rfl, by rw [setRow_size]; exact Nat.le_refl _, fun k _ hk => setRow_other W g3 k C (fun e => hk (by rw [e]))⟩ ?_, setRow_heap W g3 _ C 47 (0, 0) hr, hle⟩
  rcases (h.hl v rfl).2 with ⟨rfl, _⟩ | ⟨g', cap', cur', rfl, _, hh', _⟩
  · left; rfl
  · right
    intro hk
    have : g' = g3 := by simpa [Value.ownBlock] using hk
    subst this
    rw [hr] at hh'
    injection hh' with hh'
    injection hh' with _ ht
    exact absurd ht (by decide)
theorem exec_load {o : Oper} {a : Act} {w : World} (ty : TypeId) (x : Operand) (ho : o.op = .load ty x) (g off : Nat) (hx : a.eval x = .pointer (some ⟨g, off, none⟩)) (v : Value) (hl : (loadVar ty ⟨g, off, none⟩).run Tryd.prog w = .ok v w) :
    (execOp a.eval o).run Tryd.prog w = .ok (.value v) w := by
  unfold execOp
  simp only [ho, hx, Instr.loadAt, Instr.sureAddr, Sem.run_bind, Sem.run_pure, Result.andThen_ok, hl]
/-- the copy on its way, in block g3; the result's block is untouched -/
structure En (w w' : World) (g3 : Nat) (M : List Int) : Prop where
  st : St w' g3 (fun k => w.heap.size ≤ k ∧ k ≠ g3) M
  keys : KeysAt w'
  b : Below w.heap.size w w'
  le : w.heap.size + 1 ≤ g3
  res : w'.heap[w.heap.size]? = some (.cells (rowB (List.replicate 32 0)) 24)
  h0 : 0 < w.heap.size
theorem En.start {w w2 w4 : World} {g g3 : Nat} {ok : Nat → Prop} {m left : List Int} {a0 a1 a2 a3 a4 a5 a6 a7 n : Int} {A1 : Option Addr} {c1 : Nat} (hs : St w g ok m) (hk : KeysAt w) (he : eatAll h0L m = ([a0, a1, a2, a3, a4, a5, a6, a7], left)) (hn : n = m.length)
    (hw : w2 = w.alloc (.cells (rowB (List.replicate 32 0)) 24)) (h : S3 w2 w4 (.slice A1 left.length c1) g3 (stateCells (fun i => [a0, a1, a2, a3, a4, a5, a6, a7].getD i 0) (.slice A1 left.length c1) n) left) : En w w4 g3 m := by
  have hsz : w2.heap.size = w.heap.size + 1 := by rw [hw]; simp
  have hb2 : Below w.heap.size w w2 := by rw [hw]; exact below_alloc (Below.refl _ _) _
  have hb : Below w.heap.size w w4 := hb2.trans (h.hb.mono (by omega))
  have h0 : 0 < w.heap.size := Nat.lt_of_le_of_lt (Nat.zero_le _) hs.lt
  refine ⟨⟨⟨A1, c1, ?_, ?_, ?_⟩, fun k hk => hk.2, hs.bytes⟩, hk.below hb h0, hb, by have := h.le; omega, ?_, h0⟩
  · rw [he, h.row, hn]
  · rw [he]
    obtain ⟨A', c', e, hr⟩ := own_reads h.hl
    cases e; exact hr
  · intro _ ad e
    refine ⟨by have := (Write.own_cap h.hl).2 ad e; omega, fun hg => ?_⟩
    rcases h.hl.2 with ⟨hv, _⟩ | ⟨g', cap', cur', hv, _, hh', _⟩
    · injection hv with e1 e2 e3; rw [e1] at e; cases e
    · injection hv with e1 e2 e3
      rw [e1] at e; cases e
      rw [show g' = g3 from hg, h.row] at hh'
      injection hh' with hh'
      injection hh' with _ ht
      exact absurd ht (by decide)
  · exact (h.hb.block w.heap.size (by omega)).trans (by rw [hw]; exact heap_alloc_new w _)
theorem En.below {w w' w'' : World} {g3 : Nat} {M : List Int} (h : En w w' g3 M) (hb : Below w'.heap.size w' w'') : En w w'' g3 M :=
  ⟨h.st.below hb, h.keys.below hb (Nat.lt_of_le_of_lt (Nat.zero_le _) h.st.lt), h.b.trans (hb.mono h.b.size), h.le, (hb.block _ (by have := h.st.lt; have := h.le; omega)).trans h.res, h.h0⟩
def fill8 (l : List Int) (i : Nat) : List Int := l.take i ++ List.replicate (8 - i) 0
def tailN (n : Int) : List Int := [n * 8 / 72057594037927936 % 256, n * 8 / 281474976710656 % 256, n * 8 / 1099511627776 % 256, n * 8 / 4294967296 % 256, n * 8 / 16777216 % 256, n * 8 / 65536 % 256, n * 8 / 256 % 256, n * 8 % 256]
theorem tailN_eq (m : List Int) (n : Int) (h : n = m.length) : tail8 (8 * m.length) = tailN n := by
  have e : ((8 * m.length : Nat) : Int) = n * 8 := by omega
  unfold tail8 tailN; rw [e]
theorem index44 (cs : Array Value) (i : Int) (v : Value) (w : World) (h0 : 0 ≤ i) (h1 : i < 8) (hv : cs[i.toNat]? = some v) : (Instr.index 44 (.agg cs) (.int .i64 i)).run Tryd.prog w = .ok v w := by
  simp [Instr.index, run_underlying Tryd.underlying44, asIntOf, h0, h1, part, go_sem]
  rw [hv]; rfl
def fillO (l : List Int) (i : Nat) : List Int := l.take i ++ List.replicate (32 - i) 0
theorem fillO_set (l : List Int) (i : Nat) (h : i < l.length) (h2 : i < 32) : (fillO l i).set i (l.getD i 0) = fillO l (i + 1) := by
  unfold fillO
  have hl : (l.take i).length = i := by rw [List.length_take]; omega
  rw [List.set_append_right _ _ (by omega), hl, Nat.sub_self, show 32 - i = (32 - (i + 1)) + 1 by omega, List.replicate_succ, List.set_cons_zero, List.take_succ_eq_append_getElem h, List.append_assoc, show l.getD i 0 = l[i] by simp [h]]; rfl
theorem fillO_len (l : List Int) (i : Nat) (h : i ≤ l.length) (h2 : i ≤ 32) : (fillO l i).length = 32 := by
  unfold fillO; rw [List.length_append, List.length_take, List.length_replicate]; omega
theorem outs_get : ∀ (H : List Int) (i k : Nat), k < 4 → i < H.length → (outs H).getD (4 * i + k) 0 = (word4s (H.getD i 0)).getD k 0
  | x :: H, 0, k, hk, _ => by
    show (word4s x ++ outs H).getD (4 * 0 + k) 0 = _
    rw [List.getD_eq_getElem?_getD, List.getElem?_append_left (by show 4 * 0 + k < 4; omega), show 4 * 0 + k = k by omega, ← List.getD_eq_getElem?_getD]; rfl
  | x :: H, i + 1, k, hk, hi => by
    show (word4s x ++ outs H).getD (4 * (i + 1) + k) 0 = _
    rw [List.getD_eq_getElem?_getD, List.getElem?_append_right (by show 4 ≤ _; omega), show 4 * (i + 1) + k - (word4s x).length = 4 * i + k by show 4 * (i + 1) + k - 4 = _; omega, ← List.getD_eq_getElem?_getD]
    exact outs_get H i k hk (by rw [List.length_cons] at hi; omega)
theorem fillO_all (l : List Int) (h : l.length = 4 * 8) : fillO l (4 * 8) = l := by
  unfold fillO; rw [List.take_of_length_le (Nat.le_of_eq h), Nat.sub_self, List.replicate_zero, List.append_nil]
theorem size24 {ws : List Int} (h : ws.length = 32) : (Tryd.prog.info? 24).map (·.size) = some (rowB ws).size := by rw [rowB_size, h]; kernel_rfl
theorem b_128 : Bytes8 [128] := fun x hx => by simp at hx; omega
theorem b_0 : Bytes8 [0] := fun x hx => by simp at hx; omega
theorem write_en {w w' : World} {g3 : Nat} {M : List Int} (h : En w w' g3 M) (xs : List Int) {k : Nat} {cs : Array Value} (hk : xs.length = k) (hcs : rowB xs = cs) (hl : M.length + xs.length < 1099511627776) (hx : Bytes8 xs) :
    Calls Tryd.prog 11 #[.pointer (some ⟨g3, 0, none⟩), .slice (some ⟨w'.heap.size, 0, none⟩) k k] (w'.alloc (.cells cs 5)) fun e w'' => e = .returned (.tuple #[]) ∧ En w w'' g3 (M ++ xs) := by
  subst hk
  subst hcs
  have hb := below_alloc (Below.refl w'.heap.size w') (.cells (rowB xs) 5)
  have h2 := h.below hb
  have hs : (w'.alloc (.cells (rowB xs) 5)).heap.size = w'.heap.size + 1 := by simp
  have hlt := h.st.lt
  have hle := h.le
  have hsz := h.b.size
  obtain ⟨A', c', e, hr⟩ := own_reads (own_lit w' 0 5 .u8 xs (Nat.zero_le _) (by omega))
  cases e
  refine (write_any g3 _ M xs _ xs.length _ h2.st (fun k hk => ⟨by omega, by omega⟩) h2.keys (by omega) hr (fun _ ad e => by cases e; show w'.heap.size ≠ g3; omega) hx hl).mono ?_
  rintro e w'' ⟨rfl, hst, hc⟩
  exact ⟨rfl, hst, h2.keys.ch hc (by omega) (by omega), h2.b.trans (hc.below (by omega) (by omega)), h.le, (hc.block _ (by omega) (by omega)).trans h2.res, h.h0⟩
theorem write_rd {w w' : World} {g3 : Nat} {M : List Int} (h : En w w' g3 M) (xs : List Int) {k : Nat} (hk : xs.length = k) {B : Option Addr} (hr : ReadsInt w' .u8 B xs.length xs) (c : Nat) (hl : M.length + xs.length < 1099511627776) (hx : Bytes8 xs) (hne : 0 < xs.length → ∀ ad, B = some ad → ad.block ≠ g3) :
    Calls Tryd.prog 11 #[.pointer (some ⟨g3, 0, none⟩), .slice B k c] w' fun e w'' => e = .returned (.tuple #[]) ∧ En w w'' g3 (M ++ xs) := by
  subst hk
  have hlt := h.st.lt
  have hle := h.le
  have hsz := h.b.size
  refine (write_any g3 _ M xs B c w' h.st (fun k hk => ⟨by omega, by omega⟩) h.keys (by omega) hr hne hx hl).mono ?_
  rintro e w'' ⟨rfl, hst, hc⟩
  exact ⟨rfl, hst, h.keys.ch hc (by omega) (by omega), h.b.trans (hc.below (by omega) (by omega)), h.le, (hc.block _ (by omega) (by omega)).trans h.res, h.h0⟩
theorem reads_row {w : World} {g : Nat} {xs : List Int} {t : TypeId} (h : w.heap[g]? = some (.cells (rowB xs) t)) : xs.length ≤ 9223372036854775807 → ReadsInt w .u8 (some ⟨g, 0, none⟩) xs.length xs := fun hl =>
  ⟨rfl, hl, fun _ => ⟨_, rfl, fun j hj => by
    rw [add_plain, cell_of_row w g j _ t (0, 0) h]; exact rowB_get _ _ hj⟩⟩
theorem row8_is {w w8 : World} {g3 : Nat} {M : List Int} (h : En w w8 g3 M) {bs : List Int} (hb : (eatAll h0L M).1 = bs) : ∀ w', Below w8.heap.size w8 w' → w'.rangeAt g3 0 (bs.map (Value.int .u32)) := fun w' hw => by
  obtain ⟨A, c, hr, _, _⟩ := h.st.row
  have := state_range ((hw.block g3 h.st.lt).trans hr) (eatAll_h _ _ rfl)
  rwa [hb] at this
theorem start_any {P : Program} {ops : Array Oper} {Q : Exit → Act → World → Prop} {S : World → Prop} {ds : List Nat} {id n : Nat} {a : Act} {w : World} (l : Array Bool) (hm : P.follows .mixedOrders = true) (hn : ops.size = n) (hl : Array.replicate n false = l) (hS : S w.drew)
    (h : ∀ wd, S wd → wpAnyLast P .any ops Q S ds n l a wd) : (Code.region id ops true).wp P Q a w := start_ l hm hn hl hS (fun _ => h _ hS)
theorem exec_append {o : Oper} {a : Act} {w w1 : World} {v : Value} (s x : Operand) (t : TypeId) (ho : o.op = .call { callee := .builtin .append, args := #[s, x], argTypes := #[t, t] }) (vs vx : Value) (hs : a.eval s = vs) (hx : a.eval x = vx)
    (hr : (Builtin.append_ #[t, t] o.type #[vs, vx]).run Tryd.prog w = .ok v w1) : (execOp a.eval o).run Tryd.prog w = .ok (.value v) w1 := by
  unfold execOp
  simp only [ho, resolve, invoke, builtin, Sem.run_bind, Sem.run_pure, Result.andThen_ok, List.map_toArray, List.map_cons, List.map_nil, hs, hx, hr]
theorem state_one (h : Nat → Int) (A : Option Addr) (k c : Nat) (n : Int) : (stateCells h (.slice A k c) n).all (·.oneCell') = true := by
  rw [← Array.all_toList]; rfl
theorem code_world_is {P : Program} {Q : Exit → Act → World → Prop} {c : Code} {a : Act} {w2 W : World} (hw : w2 = W) (h : c.wp P Q a w2) : c.wp P Q a W := hw ▸ h
set_option maxHeartbeats 4000000 in
set_option maxRecDepth 100000 in
theorem sum_any (g : Nat) (ok : Nat → Prop) (m : List Int) (w : World) (hs : St w g ok m) (hk : KeysAt w) (hl : m.length < 549755813888) :
    Calls Tryd.prog 12 #[.pointer (some ⟨g, 0, none⟩)] w fun e w' => e = .returned (.agg (rowB (digest m))) ∧ Below w.heap.size w w' := by
  obtain ⟨A, ca, hrow, hrd, hA⟩ := hs.row
  obtain ⟨left, hleft⟩ : ∃ x, x = (eatAll h0L m).2 := ⟨_, rfl⟩
  obtain ⟨a0, a1, a2, a3, a4, a5, a6, a7, h8⟩ := eight (eatAll h0L m).1 (eatAll_h _ _ rfl)
  obtain ⟨n, hn⟩ : ∃ n : Int, n = m.length := ⟨_, rfl⟩
  rw [← hleft, h8, ← hn] at hrow
  rw [← hleft] at hrd
  have HLL : Aside0 (left.length < 64) := ⟨by rw [hleft, eatAll_len]; omega⟩
  have HEA : Aside0 (eatAll h0L m = ([a0, a1, a2, a3, a4, a5, a6, a7], left)) := ⟨by rw [← h8, hleft]⟩
  have HS := Aside0.mk hs
  have HK := Aside0.mk hk
  have HNL := Aside0.mk (And.intro hn hl)
  have hn8 : IntKind.u64.wrap (n * 8) = n * 8 := by
    show (n * 8) % 18446744073709551616 = n * 8; omega
  obtain ⟨w2, hw2⟩ : ∃ x, x = w.alloc (.cells (rowB (List.replicate 32 0)) 24) := ⟨_, rfl⟩
  have HW2 := Aside0.mk hw2
  have hb2 : Below w.heap.size w w2 := by rw [hw2]; exact below_alloc (Below.refl _ _) _
  have hrow2 := (hb2.block g (Array.getElem?_eq_some_iff.1 hrow).1).trans hrow
  have hg2 := (Array.getElem?_eq_some_iff.1 hrow2).1
  have HRL := Aside0.mk (hrd.below hb2)
  have HB2 := Aside0.mk hb2
  have HRES : Aside0 (w2.heap[w.heap.size]? = some (.cells (rowB (List.replicate 32 0)) 24)) := ⟨by rw [hw2]; exact heap_alloc_new _ _⟩
  have HC0 : Aside0 (∀ w', Below w2.heap.size w2 w' → w'.rangeAt g 0 ([a0, a1, a2, a3, a4, a5, a6, a7].map (Value.int .u32))) := ⟨fun w' hw' => state_range ((hw'.block g hg2).trans hrow2) rfl⟩
  have HC8 : Aside0 (∀ w', Below w2.heap.size w2 w' → w'.cell? ⟨g, 8, none⟩ = some (.slice A left.length ca)) := ⟨fun w' hw' => (cell_of_row w' g 8 _ 47 (0, 0) ((hw'.block g hg2).trans hrow2)).trans rfl⟩
  have HC9 : Aside0 (∀ w', Below w2.heap.size w2 w' → w'.cell? ⟨g, 9, none⟩ = some (.int .u64 n)) := ⟨fun w' hw' => (cell_of_row w' g 9 _ 47 (0, 0) ((hw'.block g hg2).trans hrow2)).trans rfl⟩
  clear hs hk hl hn hrow hrd hA hleft h8 hw2 hb2 hrow2 hg2
  go_enter Tryd.func12, Tryd.ntmps12
  go_wp2
  refine code_world_is HW2.out ?_
  refine start_any (n := 17) (S := fun w' => Below w2.heap.size w2 w') (ds := []) #[false, false, false, false, false, false, false, false, false, false, false, false, false, false, false, false, false] (by kernel_rfl) rfl rfl (below_drew1 (Below.refl _ _)) (fun wd hHeld => ?_); refine with_tabW sm1.tab1 sm1.bits1 (fun HT_ HW_ => ?_)
  have HP : Aside0 (SP w2 wd none none none left) := ⟨SP.start left hHeld⟩
  refine pure_ (i := 0) (N := some 11) (v := ?_) (a' := ?_) #[true, false, false, false, false, false, false, false, false, false, false, false, false, false, false, false, false] rfl rfl (any_of HT_.out (by kernel_rfl)) (fun _ _ _ h => h) (Or.inl ⟨by rfl, ?_⟩) ?_ ?_
  rotate_left
  · intro w'
    go_simp
    with_reducible rfl
  rotate_left
  · simp only [Act.put, List.setIfInBounds_toArray, List.set_cons_zero, List.set_cons_succ, i64_w, i32_w]
    rfl
  refine pure_ (i := 1) (N := some 12) (v := ?_) (a' := ?_) #[true, true, false, false, false, false, false, false, false, false, false, false, false, false, false, false, false] rfl rfl (any_of HT_.out (by kernel_rfl)) (fun _ _ _ h => h) (Or.inl ⟨by rfl, ?_⟩) ?_ ?_
  rotate_left
  · intro w'
    go_simp
    with_reducible rfl
  rotate_left
  · simp only [Act.put, List.setIfInBounds_toArray, List.set_cons_zero, List.set_cons_succ, i64_w, i32_w]
    rfl
  refine pure_ (i := 2) (N := some 13) (v := ?_) (a' := ?_) #[true, true, true, false, false, false, false, false, false, false, false, false, false, false, false, false, false] rfl rfl (any_of HT_.out (by kernel_rfl)) (fun _ _ _ h => h) (Or.inl ⟨by rfl, ?_⟩) ?_ ?_
  rotate_left
  · intro w'
    go_simp
    with_reducible rfl
  rotate_left
  · simp only [Act.put, List.setIfInBounds_toArray, List.set_cons_zero, List.set_cons_succ, i64_w, i32_w]
    rfl
  refine take_ (i := 3) (N := some 14) (v := ?_) (a' := ?_) #[true, true, true, true, false, false, false, false, false, false, false, false, false, false, false, false, false] rfl rfl (take_ofW HT_.out HW_.out (by kernel_rfl)) (fun _ _ _ h => h) (Or.inl ⟨by rfl, ?_⟩) hHeld ?_ ?_
  rotate_left
  · intro w' hw'
    refine Eq.trans (exec_load 44 (.tmp 13) rfl g 0 rfl _ (run_loadVar_mid w' g 0 44 _ _ (HC0.out w' hw') Tryd.underlying44 rfl rfl)) ?_
    with_reducible rfl
  rotate_left
  · simp only [Act.put, List.setIfInBounds_toArray, List.set_cons_zero, List.set_cons_succ, i64_w, i32_w]
    rfl
  refine pure_ (i := 5) (N := some 16) (v := ?_) (a' := ?_) #[true, true, true, true, false, true, false, false, false, false, false, false, false, false, false, false, false] rfl rfl (any_of HT_.out (by kernel_rfl)) (fun _ _ _ h => h) (Or.inl ⟨by rfl, ?_⟩) ?_ ?_
  rotate_left
  · intro w'
    go_simp
    with_reducible rfl
  rotate_left
  · simp only [Act.put, List.setIfInBounds_toArray, List.set_cons_zero, List.set_cons_succ, i64_w, i32_w]
    rfl
  refine pure_ (i := 6) (N := some 17) (v := ?_) (a' := ?_) #[true, true, true, true, false, true, true, false, false, false, false, false, false, false, false, false, false] rfl rfl (any_of HT_.out (by kernel_rfl)) (fun _ _ _ h => h) (Or.inl ⟨by rfl, ?_⟩) ?_ ?_
  rotate_left
  · intro w'
    go_simp
    with_reducible rfl
  rotate_left
  · simp only [Act.put, List.setIfInBounds_toArray, List.set_cons_zero, List.set_cons_succ, i64_w, i32_w]
    rfl
  refine pure_ (i := 7) (N := some 18) (v := ?_) (a' := ?_) #[true, true, true, true, false, true, true, true, false, false, false, false, false, false, false, false, false] rfl rfl (any_of HT_.out (by kernel_rfl)) (fun _ _ _ h => h) (Or.inl ⟨by rfl, ?_⟩) ?_ ?_
  rotate_left
  · intro w'
    go_simp
    with_reducible rfl
  rotate_left
  · simp only [Act.put, List.setIfInBounds_toArray, List.set_cons_zero, List.set_cons_succ, i64_w, i32_w]
    rfl
  refine take_ (i := 8) (N := some 19) (v := ?_) (a' := ?_) #[true, true, true, true, false, true, true, true, true, false, false, false, false, false, false, false, false] rfl rfl (take_ofW HT_.out HW_.out (by kernel_rfl)) (fun _ _ _ h => h) (Or.inl ⟨by rfl, ?_⟩) hHeld ?_ ?_
  rotate_left
  · intro w' hw'
    have hq := HC8.out w' hw'
    go_simp
    with_reducible rfl
  rotate_left
  · simp only [Act.put, List.setIfInBounds_toArray, List.set_cons_zero, List.set_cons_succ, i64_w, i32_w]
    rfl
  refine pure_ (i := 10) (N := some 21) (v := ?_) (a' := ?_) #[true, true, true, true, false, true, true, true, true, false, true, false, false, false, false, false, false] rfl rfl (any_of HT_.out (by kernel_rfl)) (fun _ _ _ h => h) (Or.inl ⟨by rfl, ?_⟩) ?_ ?_
  rotate_left
  · intro w'
    go_simp
    with_reducible rfl
  rotate_left
  · simp only [Act.put, List.setIfInBounds_toArray, List.set_cons_zero, List.set_cons_succ, i64_w, i32_w]
    rfl
  refine pure_ (i := 11) (N := some 22) (v := ?_) (a' := ?_) #[true, true, true, true, false, true, true, true, true, false, true, true, false, false, false, false, false] rfl rfl (any_of HT_.out (by kernel_rfl)) (fun _ _ _ h => h) (Or.inl ⟨by rfl, ?_⟩) ?_ ?_
  rotate_left
  · intro w'
    go_simp
    with_reducible rfl
  rotate_left
  · simp only [Act.put, List.setIfInBounds_toArray, List.set_cons_zero, List.set_cons_succ, i64_w, i32_w]
    rfl
  refine pure_ (i := 12) (N := some 23) (v := ?_) (a' := ?_) #[true, true, true, true, false, true, true, true, true, false, true, true, true, false, false, false, false] rfl rfl (any_of HT_.out (by kernel_rfl)) (fun _ _ _ h => h) (Or.inl ⟨by rfl, ?_⟩) ?_ ?_
  rotate_left
  · intro w'
    go_simp
    with_reducible rfl
  rotate_left
  · simp only [Act.put, List.setIfInBounds_toArray, List.set_cons_zero, List.set_cons_succ, i64_w, i32_w]
    rfl
  refine take_ (i := 13) (N := some 24) (v := ?_) (a' := ?_) #[true, true, true, true, false, true, true, true, true, false, true, true, true, true, false, false, false] rfl rfl (take_ofW HT_.out HW_.out (by kernel_rfl)) (fun _ _ _ h => h) (Or.inl ⟨by rfl, ?_⟩) hHeld ?_ ?_
  rotate_left
  · intro w' hw'
    have hq := HC9.out w' hw'
    go_simp
    with_reducible rfl
  rotate_left
  · simp only [Act.put, List.setIfInBounds_toArray, List.set_cons_zero, List.set_cons_succ, i64_w, i32_w]
    rfl
  refine join_ (σ := Nat × (Option Addr × Nat) × Nat) 1 #[true, true, true, true, true, true, true, true, true, true, true, true, true, true, true, true, false] (fun s => [(15, .slice (some ⟨s.1, 0, none⟩) 0 0), (20, .slice s.2.1.1 left.length s.2.1.2), (25, .agg (stateCells (fun i => [a0, a1, a2, a3, a4, a5, a6, a7].getD i 0) (.slice s.2.1.1 left.length s.2.1.2) n)), (3, .pointer (some ⟨s.2.2, 0, none⟩))]) (fun s w' => Aside0 (SP w2 w' none (some (.slice s.2.1.1 left.length s.2.1.2)) (some s.2.2) left)) (fun s wj HF => ?_) (fun hcont => ?_)
  rotate_left
  · refine two_ (i := 4) (j := 15) (Ni := some 15) (Nj := some 3) #[true, true, true, true, true, true, true, true, true, false, true, true, true, true, false, false, false] #[true, true, true, true, false, true, true, true, true, false, true, true, true, true, false, true, false] rfl rfl rfl rfl (two_of HT_.out (by kernel_rfl)) (by decide) (by decide) (fun K hK => ?_) (fun K hK => ?_)
    · have hal := HP.out.emp
      refine value_ (w1 := ?_) (v := ?_) (by rfl) rfl ?_ ?_
      rotate_left 2
      · go_simp
        constructor
        · rfl
        · rfl
      have n_ := Aside0.mk hal
      clear HP hal
      have HP := n_
      clear n_
      refine hK.out _ _ HP.out.hb (fun hHeld => ?_)
      clear hK K
      refine norm_ (a' := ?_) ?_ ?_
      rotate_left
      · show Act.put _ (some 15) _ = _
        simp only [Act.put, List.setIfInBounds_toArray, List.set_cons_zero, List.set_cons_succ, i64_w, i32_w]
        rfl
      refine two_ (i := 9) (j := 15) (Ni := some 20) (Nj := some 3) #[true, true, true, true, true, true, true, true, true, true, true, true, true, true, false, false, false] #[true, true, true, true, true, true, true, true, true, false, true, true, true, true, false, true, false] rfl rfl rfl rfl (two_of HT_.out (by kernel_rfl)) (by decide) (by decide) (fun K hK => ?_) (fun K hK => ?_)
      · obtain ⟨A1, c1, w9, hrun, hal⟩ := HP.out.app (HRL.out.below HP.out.hb) ca HLL.out
        try simp only [World.size_alloc] at hrun
        refine value_ (w1 := w9) (v := .slice A1 left.length c1) (by rfl) rfl ?_ ?_
        · exact exec_append (.tmp 15) (.tmp 19) 22 rfl (.slice (some ⟨_, 0, none⟩) 0 0) (.slice A left.length ca) (by rfl) (by rfl) hrun
        have n_ := Aside0.mk hal
        clear HP hal hrun
        have HP := n_
        clear n_
        refine hK.out _ _ HP.out.hb (fun hHeld => ?_)
        clear hK K
        refine norm_ (a' := ?_) ?_ ?_
        rotate_left
        · show Act.put _ (some 20) _ = _
          simp only [Act.put, List.setIfInBounds_toArray, List.set_cons_zero, List.set_cons_succ, i64_w, i32_w]
          rfl
        refine pure_ (i := 14) (N := some 25) (v := ?_) (a' := ?_) #[true, true, true, true, true, true, true, true, true, true, true, true, true, true, true, false, false] rfl rfl (any_of HT_.out (by kernel_rfl)) (fun _ _ _ h => h) (Or.inl ⟨by rfl, ?_⟩) ?_ ?_
        rotate_left
        · intro w'
          go_simp
          with_reducible rfl
        rotate_left
        · simp only [Act.put, List.setIfInBounds_toArray, List.set_cons_zero, List.set_cons_succ, i64_w, i32_w]
          rfl
        refine one_ (i := 15) (N := some 3) #[true, true, true, true, true, true, true, true, true, true, true, true, true, true, true, true, false] rfl rfl (one_of HT_.out (by kernel_rfl)) (by decide) (fun K hK => ?_)
        have hal := HP.out.al
        refine value_ (w1 := ?_) (v := ?_) (by rfl) rfl ?_ ?_
        rotate_left 2
        · go_simp
          constructor
          · rfl
          · rfl
        have n_ := Aside0.mk hal
        clear HP hal
        have HP := n_
        clear n_
        refine hK.out _ _ HP.out.hb (fun hHeld => ?_)
        clear hK K
        refine norm_ (a' := ?_) ?_ ?_
        rotate_left
        · show Act.put _ (some 3) _ = _
          simp only [Act.put, List.setIfInBounds_toArray, List.set_cons_zero, List.set_cons_succ, i64_w, i32_w]
          rfl
        have HQ := HP
        try simp only [World.size_alloc] at HQ
        exact hcont (_, (A1, c1), _) _ HQ
      · have hal := HP.out.al
        refine value_ (w1 := ?_) (v := ?_) (by rfl) rfl ?_ ?_
        rotate_left 2
        · go_simp
          constructor
          · rfl
          · rfl
        have n_ := Aside0.mk hal
        clear HP hal
        have HP := n_
        clear n_
        refine hK.out _ _ HP.out.hb (fun hHeld => ?_)
        clear hK K
        refine norm_ (a' := ?_) ?_ ?_
        rotate_left
        · show Act.put _ (some 3) _ = _
          simp only [Act.put, List.setIfInBounds_toArray, List.set_cons_zero, List.set_cons_succ, i64_w, i32_w]
          rfl
        refine one_ (i := 9) (N := some 20) #[true, true, true, true, true, true, true, true, true, true, true, true, true, true, false, true, false] rfl rfl (one_of HT_.out (by kernel_rfl)) (by decide) (fun K hK => ?_)
        obtain ⟨A1, c1, w9, hrun, hal⟩ := HP.out.app (HRL.out.below HP.out.hb) ca HLL.out
        try simp only [World.size_alloc] at hrun
        refine value_ (w1 := w9) (v := .slice A1 left.length c1) (by rfl) rfl ?_ ?_
        · exact exec_append (.tmp 15) (.tmp 19) 22 rfl (.slice (some ⟨_, 0, none⟩) 0 0) (.slice A left.length ca) (by rfl) (by rfl) hrun
        have n_ := Aside0.mk hal
        clear HP hal hrun
        have HP := n_
        clear n_
        refine hK.out _ _ HP.out.hb (fun hHeld => ?_)
        clear hK K
        refine norm_ (a' := ?_) ?_ ?_
        rotate_left
        · show Act.put _ (some 20) _ = _
          simp only [Act.put, List.setIfInBounds_toArray, List.set_cons_zero, List.set_cons_succ, i64_w, i32_w]
          rfl
        refine pure_ (i := 14) (N := some 25) (v := ?_) (a' := ?_) #[true, true, true, true, true, true, true, true, true, true, true, true, true, true, true, true, false] rfl rfl (any_of HT_.out (by kernel_rfl)) (fun _ _ _ h => h) (Or.inl ⟨by rfl, ?_⟩) ?_ ?_
        rotate_left
        · intro w'
          go_simp
          with_reducible rfl
        rotate_left
        · simp only [Act.put, List.setIfInBounds_toArray, List.set_cons_zero, List.set_cons_succ, i64_w, i32_w]
          rfl
        have HQ := HP
        try simp only [World.size_alloc] at HQ
        exact hcont (_, (A1, c1), _) _ HQ
    · have hal := HP.out.al
      refine value_ (w1 := ?_) (v := ?_) (by rfl) rfl ?_ ?_
      rotate_left 2
      · go_simp
        constructor
        · rfl
        · rfl
      have n_ := Aside0.mk hal
      clear HP hal
      have HP := n_
      clear n_
      refine hK.out _ _ HP.out.hb (fun hHeld => ?_)
      clear hK K
      refine norm_ (a' := ?_) ?_ ?_
      rotate_left
      · show Act.put _ (some 3) _ = _
        simp only [Act.put, List.setIfInBounds_toArray, List.set_cons_zero, List.set_cons_succ, i64_w, i32_w]
        rfl
      refine one_ (i := 4) (N := some 15) #[true, true, true, true, true, true, true, true, true, false, true, true, true, true, false, true, false] rfl rfl (one_of HT_.out (by kernel_rfl)) (by decide) (fun K hK => ?_)
      have hal := HP.out.emp
      refine value_ (w1 := ?_) (v := ?_) (by rfl) rfl ?_ ?_
      rotate_left 2
      · go_simp
        constructor
        · rfl
        · rfl
      have n_ := Aside0.mk hal
      clear HP hal
      have HP := n_
      clear n_
      refine hK.out _ _ HP.out.hb (fun hHeld => ?_)
      clear hK K
      refine norm_ (a' := ?_) ?_ ?_
      rotate_left
      · show Act.put _ (some 15) _ = _
        simp only [Act.put, List.setIfInBounds_toArray, List.set_cons_zero, List.set_cons_succ, i64_w, i32_w]
        rfl
      refine one_ (i := 9) (N := some 20) #[true, true, true, true, true, true, true, true, true, true, true, true, true, true, false, true, false] rfl rfl (one_of HT_.out (by kernel_rfl)) (by decide) (fun K hK => ?_)
      obtain ⟨A1, c1, w9, hrun, hal⟩ := HP.out.app (HRL.out.below HP.out.hb) ca HLL.out
      try simp only [World.size_alloc] at hrun
      refine value_ (w1 := w9) (v := .slice A1 left.length c1) (by rfl) rfl ?_ ?_
      · exact exec_append (.tmp 15) (.tmp 19) 22 rfl (.slice (some ⟨_, 0, none⟩) 0 0) (.slice A left.length ca) (by rfl) (by rfl) hrun
      have n_ := Aside0.mk hal
      clear HP hal hrun
      have HP := n_
      clear n_
      refine hK.out _ _ HP.out.hb (fun hHeld => ?_)
      clear hK K
      refine norm_ (a' := ?_) ?_ ?_
      rotate_left
      · show Act.put _ (some 20) _ = _
        simp only [Act.put, List.setIfInBounds_toArray, List.set_cons_zero, List.set_cons_succ, i64_w, i32_w]
        rfl
      refine pure_ (i := 14) (N := some 25) (v := ?_) (a' := ?_) #[true, true, true, true, true, true, true, true, true, true, true, true, true, true, true, true, false] rfl rfl (any_of HT_.out (by kernel_rfl)) (fun _ _ _ h => h) (Or.inl ⟨by rfl, ?_⟩) ?_ ?_
      rotate_left
      · intro w'
        go_simp
        with_reducible rfl
      rotate_left
      · simp only [Act.put, List.setIfInBounds_toArray, List.set_cons_zero, List.set_cons_succ, i64_w, i32_w]
        rfl
      have HQ := HP
      try simp only [World.size_alloc] at HQ
      exact hcont (_, (A1, c1), _) _ HQ
  obtain ⟨k15, ⟨A1, c1⟩, g3⟩ := s
  clear HP hHeld
  have HP : Aside0 (SP w2 wj none (some (.slice A1 left.length c1)) (some g3) left) := HF
  clear HF
  refine norm_ (a' := ?_) ?_ ?_
  rotate_left
  · simp only [putAll, Act.put, List.setIfInBounds_toArray, List.set_cons_zero, List.set_cons_succ, i64_w, i32_w]
    rfl
  refine one_ (i := 16) (N := none) #[true, true, true, true, true, true, true, true, true, true, true, true, true, true, true, true, true] rfl rfl (one_of HT_.out (by kernel_rfl)) (by decide) (fun K hK => ?_)
  rw [if_pos (by rfl)]
  refine wp_store_row 47 (.tmp 3) (.tmp 25) rfl g3 (stateCells (fun i => [a0, a1, a2, a3, a4, a5, a6, a7].getD i 0) (.slice A1 left.length c1) n) rfl rfl 47 z47 (HP.out.hg g3 rfl).1 (by kernel_rfl) rfl (state_one _ _ _ _ _) ?_
  have HG3 := Aside0.mk (HP.out.last (stateCells (fun i => [a0, a1, a2, a3, a4, a5, a6, a7].getD i 0) (.slice A1 left.length c1) n))
  refine hK.out _ _ HG3.out.hb (fun hHeld => ?_)
  clear hK K
  refine norm_ (a' := ?_) ?_ ?_
  rotate_left
  · show Act.put _ (none) _ = _
    simp only [Act.put, List.setIfInBounds_toArray, List.set_cons_zero, List.set_cons_succ, i64_w, i32_w]
    rfl
  refine done_ (done_of HT_.out (by kernel_rfl)) ?_
  generalize hw4 : wj.setRow g3 (stateCells (fun i => [a0, a1, a2, a3, a4, a5, a6, a7].getD i 0) (.slice A1 left.length c1) n) = w4 at HG3 hHeld ⊢
  have HEN : Aside0 (En w w4 g3 m) := ⟨En.start HS.out HK.out HEA.out HNL.out.1 HW2.out HG3.out⟩
  have q9 := HC9.out _ hHeld
  have HW11 := Aside0.mk (write_en HEN.out [128] (k := 1) (cs := #[.int .u8 128]) rfl rfl (by have := HNL.out.2; show m.length + 1 < _; omega) b_128)
  clear hHeld hw4 HP HG3 HW2 HRL HRES HC0 HC8 HC9
  go_wp2_with (first | (go_at_call 11; (with_reducible refine HW11.out.mono ?_); rintro e w5 ⟨rfl, hen⟩; have HE5 := Aside0.mk hen; clear hen))
  go_loopg [] 64 (fun kq w' => ∃ k : Nat, Aside0 (k ≤ zeros m.length ∧ zeros m.length - k < kq) ∧ Aside0 (En w w' g3 (padK m k)))
  case atStart => exact ⟨0, ⟨Nat.zero_le _, by have := zeros_le m.length; omega⟩, ⟨by rw [padK_zero]; exact HE5.out⟩⟩
  case round =>
    clear HE5 HW11
    obtain ⟨k, HI, HE⟩ := hrel
    cases gk with
    | zero => exact absurd HI.out.2 (by omega)
    | succ k2 =>
      obtain ⟨A', c', hrow', hrd', _⟩ := HE.out.st.row
      obtain ⟨ll, hll⟩ : ∃ x, x = (eatAll h0L (padK m k)).2.length := ⟨_, rfl⟩
      have q8 : wr.cell? ⟨g3, 8, none⟩ = some (.slice A' ll c') := (cell_of_row wr g3 8 _ 47 (0, 0) hrow').trans (by rw [hll]; rfl)
      have hl64 : ll = (padK m k).length % 64 := by rw [hll, eatAll_len]
      have hend := padK_end m k HI.out.1
      clear hrow' hrd' hll
      by_cases hk : k = zeros m.length
      · have hl6 : ll = 56 := by rw [hl64, hend]; exact hk
        subst hl6
        have HEN2 : Aside0 (En w wr g3 (padK m (zeros m.length))) := ⟨hk ▸ HE.out⟩
        clear hl64 hend hk HI HE
        go_wp2
        obtain ⟨w7, rfl⟩ : ∃ x, x = wr := ⟨_, rfl⟩
        go_loopg [39] 9 (fun kq v39 w' => ∃ i : Nat, v39 = .int .i64 i ∧ Aside0 (i ≤ 8 ∧ 8 - i < kq) ∧ Aside0 (w'.heap[w7.heap.size]? = some (.cells (rowB (fill8 (tailN n) i)) 48)) ∧ Aside0 (Below w7.heap.size w7 w'))
        case atStart => exact ⟨0, rfl, ⟨by omega, by omega⟩, ⟨heap_alloc_new w7 _⟩, ⟨below_alloc (Below.refl _ _) _⟩⟩
        case round =>
          obtain ⟨i, rfl, HI, HR, HB⟩ := hrel
          cases gk with
          | zero => exact absurd HI.out.2 (by omega)
          | succ k2 =>
            by_cases hi : i < 8
            · have hi8 : i = 0 ∨ i = 1 ∨ i = 2 ∨ i = 3 ∨ i = 4 ∨ i = 5 ∨ i = 6 ∨ i = 7 := by omega
              clear hi
              rcases hi8 with rfl | rfl | rfl | rfl | rfl | rfl | rfl | rfl
              · have q1 := (cell_of_row wr _ 0 _ 48 (0, 0) HR.out).trans (show _ = some (Value.int .u8 0) from rfl)
                have q2 := frozen_of_row wr _ 0 _ 48 HR.out
                go_wp2
                go_roundg k2
                case measure => have := HI.out; omega
                case rel => exact ⟨1, rfl, ⟨by omega, by have := HI.out; omega⟩, ⟨(heap_setCell_same wr w7.heap.size 0 _ 48 _ HR.out).trans (by rw [rowB_set]; rfl)⟩, ⟨HB.out.setCell (p := ⟨w7.heap.size, 0, none⟩) (Nat.le_refl _) _⟩⟩
              · have q1 := (cell_of_row wr _ 1 _ 48 (0, 0) HR.out).trans (show _ = some (Value.int .u8 0) from rfl)
                have q2 := frozen_of_row wr _ 1 _ 48 HR.out
                go_wp2
                go_roundg k2
                case measure => have := HI.out; omega
                case rel => exact ⟨2, rfl, ⟨by omega, by have := HI.out; omega⟩, ⟨(heap_setCell_same wr w7.heap.size 1 _ 48 _ HR.out).trans (by rw [rowB_set]; rfl)⟩, ⟨HB.out.setCell (p := ⟨w7.heap.size, 1, none⟩) (Nat.le_refl _) _⟩⟩
              · have q1 := (cell_of_row wr _ 2 _ 48 (0, 0) HR.out).trans (show _ = some (Value.int .u8 0) from rfl)
                have q2 := frozen_of_row wr _ 2 _ 48 HR.out
                go_wp2
                go_roundg k2
                case measure => have := HI.out; omega
                case rel => exact ⟨3, rfl, ⟨by omega, by have := HI.out; omega⟩, ⟨(heap_setCell_same wr w7.heap.size 2 _ 48 _ HR.out).trans (by rw [rowB_set]; rfl)⟩, ⟨HB.out.setCell (p := ⟨w7.heap.size, 2, none⟩) (Nat.le_refl _) _⟩⟩
              · have q1 := (cell_of_row wr _ 3 _ 48 (0, 0) HR.out).trans (show _ = some (Value.int .u8 0) from rfl)
                have q2 := frozen_of_row wr _ 3 _ 48 HR.out
                go_wp2
                go_roundg k2
                case measure => have := HI.out; omega
                case rel => exact ⟨4, rfl, ⟨by omega, by have := HI.out; omega⟩, ⟨(heap_setCell_same wr w7.heap.size 3 _ 48 _ HR.out).trans (by rw [rowB_set]; rfl)⟩, ⟨HB.out.setCell (p := ⟨w7.heap.size, 3, none⟩) (Nat.le_refl _) _⟩⟩
              · have q1 := (cell_of_row wr _ 4 _ 48 (0, 0) HR.out).trans (show _ = some (Value.int .u8 0) from rfl)
                have q2 := frozen_of_row wr _ 4 _ 48 HR.out
                go_wp2
                go_roundg k2
                case measure => have := HI.out; omega
                case rel => exact ⟨5, rfl, ⟨by omega, by have := HI.out; omega⟩, ⟨(heap_setCell_same wr w7.heap.size 4 _ 48 _ HR.out).trans (by rw [rowB_set]; rfl)⟩, ⟨HB.out.setCell (p := ⟨w7.heap.size, 4, none⟩) (Nat.le_refl _) _⟩⟩
              · have q1 := (cell_of_row wr _ 5 _ 48 (0, 0) HR.out).trans (show _ = some (Value.int .u8 0) from rfl)
                have q2 := frozen_of_row wr _ 5 _ 48 HR.out
                go_wp2
                go_roundg k2
                case measure => have := HI.out; omega
                case rel => exact ⟨6, rfl, ⟨by omega, by have := HI.out; omega⟩, ⟨(heap_setCell_same wr w7.heap.size 5 _ 48 _ HR.out).trans (by rw [rowB_set]; rfl)⟩, ⟨HB.out.setCell (p := ⟨w7.heap.size, 5, none⟩) (Nat.le_refl _) _⟩⟩
              · have q1 := (cell_of_row wr _ 6 _ 48 (0, 0) HR.out).trans (show _ = some (Value.int .u8 0) from rfl)
                have q2 := frozen_of_row wr _ 6 _ 48 HR.out
                go_wp2
                go_roundg k2
                case measure => have := HI.out; omega
                case rel => exact ⟨7, rfl, ⟨by omega, by have := HI.out; omega⟩, ⟨(heap_setCell_same wr w7.heap.size 6 _ 48 _ HR.out).trans (by rw [rowB_set]; rfl)⟩, ⟨HB.out.setCell (p := ⟨w7.heap.size, 6, none⟩) (Nat.le_refl _) _⟩⟩
              · have q1 := (cell_of_row wr _ 7 _ 48 (0, 0) HR.out).trans (show _ = some (Value.int .u8 0) from rfl)
                have q2 := frozen_of_row wr _ 7 _ 48 HR.out
                go_wp2
                go_roundg k2
                case measure => have := HI.out; omega
                case rel => exact ⟨8, rfl, ⟨by omega, by have := HI.out; omega⟩, ⟨(heap_setCell_same wr w7.heap.size 7 _ 48 _ HR.out).trans (by rw [rowB_set]; rfl)⟩, ⟨HB.out.setCell (p := ⟨w7.heap.size, 7, none⟩) (Nat.le_refl _) _⟩⟩
            · have ei : i = 8 := by have := HI.out; omega
              subst ei
              clear hi
              have HT8 : Aside0 (wr.heap[w7.heap.size]? = some (.cells (rowB (tail8 (8 * m.length))) 48)) := ⟨HR.out.trans (by rw [tailN_eq m n HNL.out.1]; rfl)⟩
              have HEN3 := Aside0.mk (HEN2.out.below HB.out)
              have HW13 := Aside0.mk (write_rd HEN3.out (tail8 (8 * m.length)) (k := 8) rfl (reads_row HT8.out (by rw [tail8_len]; decide)) 8 (by rw [padK_len, tail8_len]; have := HNL.out.2; have := zeros_le m.length; omega) (tail8_b _) (fun _ ad e => by cases e; have := HEN2.out.st.lt; show w7.heap.size ≠ g3; omega))
              obtain ⟨b0, b1, b2, b3, b4, b5, b6, b7, hb8⟩ := eight (eatAll h0L (pad m)).1 (eatAll_h _ _ rfl)
              have HB8 := Aside0.mk hb8
              clear hb8
              go_wp2_with (first | (go_at_call 11; (with_reducible refine HW13.out.mono ?_); rintro e w8 ⟨rfl, hen⟩; have HE8 : Aside0 (En w w8 g3 (pad m)) := Aside0.mk hen; have HR8 := Aside0.mk (row8_is hen HB8.out); clear hen) | ((with_reducible refine gate_dst (N := 54) rfl ?_); refine wpList_load_mid rfl 44 (.tmp 53) rfl g3 0 rfl ([b0, b1, b2, b3, b4, b5, b6, b7].map (Value.int .u32)) _ (HR8.out _ (below_alloc (Below.refl _ _) _)) Tryd.underlying44 rfl (by kernel_rfl) ?_))
              obtain ⟨bs, hbs⟩ : ∃ x, x = [b0, b1, b2, b3, b4, b5, b6, b7] := ⟨_, rfl⟩
              have HBS := Aside0.mk hbs
              have HBL : Aside0 (bs.length = 8) := ⟨by rw [hbs]; rfl⟩
              clear hbs
              go_loopg [55] 9 (fun kq v55 w' => ∃ i : Nat, v55 = .int .i64 i ∧ Aside0 (i ≤ 8 ∧ 8 - i < kq) ∧ Aside0 (w'.heap[w8.heap.size]? = some (.cells (rowB (fillO (outs bs) (4 * i))) 24)) ∧ Aside0 (Below w8.heap.size w8 w'))
              case atStart => exact ⟨0, rfl, ⟨by omega, by omega⟩, ⟨heap_alloc_new w8 _⟩, ⟨below_alloc (Below.refl _ _) _⟩⟩
              case round =>
                clear HR HB HI
                obtain ⟨i, rfl, HI, HR, HB⟩ := hrel
                cases gk with
                | zero => exact absurd HI.out.2 (by omega)
                | succ k2 =>
                  by_cases hi : i < 8
                  · have c1 : decide ((i : Int) < 8) = true := decide_eq_true (by omega)
                    obtain ⟨x, hx⟩ : ∃ x, x = bs.getD i 0 := ⟨_, rfl⟩
                    have HX := Aside0.mk hx
                    have hix := index44 ([b0, b1, b2, b3, b4, b5, b6, b7].map (Value.int .u32)).toArray (i : Int) (.int .u32 x) wr (by omega) (by omega) (by rw [Int.toNat_natCast, ← HBS.out, hx, List.getElem?_toArray, List.getElem?_map, List.getElem?_eq_getElem (by rw [HBL.out]; omega), List.getD_eq_getElem?_getD, List.getElem?_eq_getElem (by rw [HBL.out]; omega)]; rfl)
                    simp only [List.map_cons, List.map_nil] at hix
                    have t1 := eq_true (show (0 : Int) ≤ (i : Int) by omega)
                    have hw : wrap64 ((i : Int) + 1) = ((i + 1 : Nat) : Int) := by unfold wrap64; omega
                    have HW := Aside0.mk hw
                    have HI0 := Aside0.mk hi
                    clear hx hi hw
                    go_wp2
                    go_loopg [59] 5 (fun kq v59 w' => ∃ k : Nat, v59 = .int .i64 k ∧ Aside0 (k ≤ 4 ∧ 4 - k < kq) ∧ Aside0 (w'.heap[w8.heap.size]? = some (.cells (rowB (fillO (outs bs) (4 * i + k))) 24)) ∧ Aside0 (Below w8.heap.size w8 w'))
                    case atStart => exact ⟨0, rfl, ⟨by omega, by omega⟩, HR, HB⟩
                    case round =>
                      clear HR HB hix
                      obtain ⟨k, rfl, HJ, HR, HB⟩ := hrel
                      cases gk with
                      | zero => exact absurd HJ.out.2 (by omega)
                      | succ k3 =>
                        by_cases hk : k < 4
                        · have hk4 : k = 0 ∨ k = 1 ∨ k = 2 ∨ k = 3 := by omega
                          clear hk
                          have hm : wrap64 (4 * (i : Int)) = 4 * i := by have := HI0.out; unfold wrap64; omega
                          rcases hk4 with rfl | rfl | rfl | rfl
                          · rw [Nat.add_zero] at HR
                            have e1 : (4 * (i : Int)).toNat = 4 * i := by omega
                            have e2 : wrap64 (4 * (i : Int)) = 4 * i := by have := HI0.out; unfold wrap64; omega
                            have t2 := eq_true (show (0 : Int) ≤ 4 * (i : Int) by omega)
                            have t3 := eq_true (show 4 * (i : Int) < 32 by have := HI0.out; omega)
                            have hlen : (fillO (outs bs) (4 * i)).length = 32 := fillO_len _ _ (by rw [outs_len, HBL.out]; have := HI0.out; omega) (by have := HI0.out; omega)
                            have q1 := (cell_of_row wr _ (4 * i) _ 24 (0, 0) HR.out).trans (rowB_get _ (4 * i) (by rw [hlen]; have := HI0.out; omega))
                            have q2 := frozen_of_row wr w8.heap.size (4 * i) _ 24 HR.out
                            have HV : Aside0 ((outs bs).getD (4 * i) 0 = x / 16777216 % 256) := ⟨(outs_get bs i 0 (by decide) (by rw [HBL.out]; exact HI0.out)).trans (by rw [← HX.out]; rfl)⟩
                            clear hlen
                            go_wp2
                            go_roundg k3
                            case measure => have := HJ.out; omega
                            case rel => exact ⟨1, rfl, ⟨by omega, by have := HJ.out; omega⟩, ⟨(heap_setCell_same wr w8.heap.size (4 * i) _ 24 _ HR.out).trans (by rw [rowB_set, ← HV.out, fillO_set _ _ (by rw [outs_len, HBL.out]; have := HI0.out; omega) (by have := HI0.out; omega)])⟩, ⟨HB.out.setCell (p := ⟨w8.heap.size, 4 * i, none⟩) (Nat.le_refl _) _⟩⟩
                          · have e1 : (4 * (i : Int) + 1).toNat = 4 * i + 1 := by omega
                            have e2 : wrap64 (4 * (i : Int) + 1) = 4 * i + 1 := by have := HI0.out; unfold wrap64; omega
                            have t2 := eq_true (show (0 : Int) ≤ 4 * (i : Int) + 1 by omega)
                            have t3 := eq_true (show 4 * (i : Int) + 1 < 32 by have := HI0.out; omega)
                            have hlen : (fillO (outs bs) (4 * i + 1)).length = 32 := fillO_len _ _ (by rw [outs_len, HBL.out]; have := HI0.out; omega) (by have := HI0.out; omega)
                            have q1 := (cell_of_row wr _ (4 * i + 1) _ 24 (0, 0) HR.out).trans (rowB_get _ (4 * i + 1) (by rw [hlen]; have := HI0.out; omega))
                            have q2 := frozen_of_row wr w8.heap.size (4 * i + 1) _ 24 HR.out
                            have HV : Aside0 ((outs bs).getD (4 * i + 1) 0 = x / 65536 % 256) := ⟨by rw [outs_get _ _ _ (by decide) (by rw [HBL.out]; exact HI0.out), ← HX.out]; rfl⟩
                            clear hlen
                            go_wp2
                            go_roundg k3
                            case measure => have := HJ.out; omega
                            case rel => exact ⟨1 + 1, rfl, ⟨by omega, by have := HJ.out; omega⟩, ⟨(heap_setCell_same wr w8.heap.size (4 * i + 1) _ 24 _ HR.out).trans (by rw [rowB_set, ← HV.out, fillO_set _ _ (by rw [outs_len, HBL.out]; have := HI0.out; omega) (by have := HI0.out; omega)])⟩, ⟨HB.out.setCell (p := ⟨w8.heap.size, 4 * i + 1, none⟩) (Nat.le_refl _) _⟩⟩
                          · have e1 : (4 * (i : Int) + 2).toNat = 4 * i + 2 := by omega
                            have e2 : wrap64 (4 * (i : Int) + 2) = 4 * i + 2 := by have := HI0.out; unfold wrap64; omega
                            have t2 := eq_true (show (0 : Int) ≤ 4 * (i : Int) + 2 by omega)
                            have t3 := eq_true (show 4 * (i : Int) + 2 < 32 by have := HI0.out; omega)
                            have hlen : (fillO (outs bs) (4 * i + 2)).length = 32 := fillO_len _ _ (by rw [outs_len, HBL.out]; have := HI0.out; omega) (by have := HI0.out; omega)
                            have q1 := (cell_of_row wr _ (4 * i + 2) _ 24 (0, 0) HR.out).trans (rowB_get _ (4 * i + 2) (by rw [hlen]; have := HI0.out; omega))
                            have q2 := frozen_of_row wr w8.heap.size (4 * i + 2) _ 24 HR.out
                            have HV : Aside0 ((outs bs).getD (4 * i + 2) 0 = x / 256 % 256) := ⟨by rw [outs_get _ _ _ (by decide) (by rw [HBL.out]; exact HI0.out), ← HX.out]; rfl⟩
                            clear hlen
                            go_wp2
                            go_roundg k3
                            case measure => have := HJ.out; omega
                            case rel => exact ⟨2 + 1, rfl, ⟨by omega, by have := HJ.out; omega⟩, ⟨(heap_setCell_same wr w8.heap.size (4 * i + 2) _ 24 _ HR.out).trans (by rw [rowB_set, ← HV.out, fillO_set _ _ (by rw [outs_len, HBL.out]; have := HI0.out; omega) (by have := HI0.out; omega)])⟩, ⟨HB.out.setCell (p := ⟨w8.heap.size, 4 * i + 2, none⟩) (Nat.le_refl _) _⟩⟩
                          · have e1 : (4 * (i : Int) + 3).toNat = 4 * i + 3 := by omega
                            have e2 : wrap64 (4 * (i : Int) + 3) = 4 * i + 3 := by have := HI0.out; unfold wrap64; omega
                            have t2 := eq_true (show (0 : Int) ≤ 4 * (i : Int) + 3 by omega)
                            have t3 := eq_true (show 4 * (i : Int) + 3 < 32 by have := HI0.out; omega)
                            have hlen : (fillO (outs bs) (4 * i + 3)).length = 32 := fillO_len _ _ (by rw [outs_len, HBL.out]; have := HI0.out; omega) (by have := HI0.out; omega)
                            have q1 := (cell_of_row wr _ (4 * i + 3) _ 24 (0, 0) HR.out).trans (rowB_get _ (4 * i + 3) (by rw [hlen]; have := HI0.out; omega))
                            have q2 := frozen_of_row wr w8.heap.size (4 * i + 3) _ 24 HR.out
                            have HV : Aside0 ((outs bs).getD (4 * i + 3) 0 = x % 256) := ⟨by rw [outs_get _ _ _ (by decide) (by rw [HBL.out]; exact HI0.out), ← HX.out]; rfl⟩
                            clear hlen
                            go_wp2
                            go_roundg k3
                            case measure => have := HJ.out; omega
                            case rel => exact ⟨3 + 1, rfl, ⟨by omega, by have := HJ.out; omega⟩, ⟨(heap_setCell_same wr w8.heap.size (4 * i + 3) _ 24 _ HR.out).trans (by rw [rowB_set, ← HV.out, fillO_set _ _ (by rw [outs_len, HBL.out]; have := HI0.out; omega) (by have := HI0.out; omega)])⟩, ⟨HB.out.setCell (p := ⟨w8.heap.size, 4 * i + 3, none⟩) (Nat.le_refl _) _⟩⟩
                        · have ek : k = 4 := by have := HJ.out; omega
                          subst ek
                          clear hk
                          go_wp2
                          go_roundg k2
                          case measure => have := HI.out; have := HI0.out; omega
                          case rel => exact ⟨i + 1, (by rw [HW.out]), ⟨by have := HI0.out; omega, by have := HI.out; have := HI0.out; omega⟩, HR, HB⟩
                  · have ei : i = 8 := by have := HI.out; omega
                    subst ei
                    have HOUT : Aside0 (wr.heap[w8.heap.size]? = some (.cells (rowB (digest m)) 24)) := ⟨HR.out.trans (by rw [show digest m = outs bs by (unfold digest; rw [HB8.out, HBS.out]), fillO_all _ (by rw [outs_len, HBL.out])])⟩
                    have HE9 := Aside0.mk (HE8.out.below HB.out)
                    have hD : (digest m).length = 32 := digest_len m
                    have HD := Aside0.mk hD
                    obtain ⟨dg, hdg⟩ : ∃ x, x = digest m := ⟨_, rfl⟩
                    have HDG := Aside0.mk hdg
                    rw [← hdg] at HOUT HD
                    clear hi hD hdg
                    go_wp2_with (first | ((with_reducible refine gate_dst (N := 75) rfl ?_); refine wpList_load_row rfl 24 (.tmp 7) rfl w8.heap.size rfl 24 (rowB dg) (0, 0) _ HOUT.out Tryd.underlying24 rfl (size24 HD.out) ?_) | ((with_reducible refine gate_store (t := 24) (p := 2) rfl ?_); refine wpList_store_row rfl 24 (.tmp 2) (.tmp 75) rfl w.heap.size (rowB dg) rfl rfl 24 (rowB (List.replicate 32 0)) HE9.out.res (size24 HD.out) (by rw [rowB_size, rowB_size, HD.out]; rfl) (rowB_one _) ?_))
                    refine bodyPost_ret (v := .agg (rowB dg)) (results_cell_row rfl _ _ w.heap.size 24 _ (0, 0) _ rfl (setRow_heap wr w.heap.size _ _ 24 (0, 0) HE9.out.res) Tryd.underlying24 rfl (size24 HD.out)) rfl ⟨by rw [HDG.out], below_setRow HE9.out.b (Nat.le_refl _) _⟩
      · have hl6 : ¬ ll = 56 := by rw [hl64, hend]; exact hk
        have c1n : ((ll : Int) != 56) = true := bne_iff_ne.2 (by omega)
        have HW12 := Aside0.mk (write_en HE.out [0] (k := 1) (cs := #[.int .u8 0]) rfl rfl (by have := HNL.out.2; have := HI.out.1; have := zeros_le m.length; rw [padK_len]; show _ + 1 < _; omega) b_0)
        have HK := Aside0.mk hk
        clear hl64 hend hl6 hk
        go_wp2_with (first | (go_at_call 11; (with_reducible refine HW12.out.mono ?_); rintro e w6 ⟨rfl, hen⟩; have HE6 := Aside0.mk hen; clear hen))
        go_roundg k2
        case measure => have := HI.out; have := HK.out; omega
        case rel => exact ⟨k + 1, ⟨by have := HI.out; have := HK.out; omega, by have := HI.out; have := HK.out; omega⟩, ⟨by rw [← padK_succ]; exact HE6.out⟩⟩
end Go.Proofs.YtldkofdpohaahaaDoor.Sum
