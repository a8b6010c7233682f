/- cert.Copy: its contract: one like it, in new memory; for small certificates. -/
import Derived.Test.YtbemdnjcnmponaaClone
import Derived.Test.YtbemdnjcnmponaaWTab
namespace Go.Proofs.Ytbemdnjcnmponaa.Copy
open Go.RowKit Go.Proofs.YtbemdnjcnmponaaW.PrintWords Go.Proofs.YtbemdnjcnmponaaW.PrintLast Go.Proofs.YtbemdnjcnmponaaW.PrintMore Go.Proofs.Ytbemdnjcnmponaa.PCertSame Go.Proofs.Ytbemdnjcnmponaa.Data Go.Proofs.Ytbemdnjcnmponaa.Check Go.Proofs.Ytbemdnjcnmponaa.Laws1 Go.Proofs.Ytbemdnjcnmponaa.Lit Go.Proofs.Ytbemdnjcnmponaa.Clone
set_option linter.unusedVariables false
set_option linter.unusedSimpArgs false
def cp.T1 : Bool × List (List Nat × List Nat) := (true, [([], []), ([0], [0]), ([], []), ([2], [2]), ([3], [3]), ([1, 4], [1, 4]), ([], []), ([6, 5, 4, 0, 1, 2, 3, 4, 5, 6], [5, 6])])
def cp.B1 : List Nat := [0, 1, 0, 4, 12, 31, 0, 127]
theorem cp.tab1 : rtab .any (opsOf Try.f12 1) = cp.T1 := by kernel_rfl
theorem cp.bits1 : waitsOk cp.T1.2 cp.B1 = true := by kernel_rfl
def cp.T5 : Bool × List (List Nat × List Nat) := (true, [([], []), ([0], [0]), ([1], [1]), ([], []), ([3], [3]), ([4, 2], [4]), ([0, 1, 2, 3, 4], []), ([6, 2, 5, 0, 1, 2, 3, 4], [2, 6]), ([0, 1, 2, 3, 4, 5, 6, 7], []), ([8, 5, 7, 0, 1, 2, 3, 4, 5, 6, 7], [5, 8])])
def cp.B5 : List Nat := [0, 1, 3, 0, 8, 31, 31, 127, 255, 511]
theorem cp.tab5 : rtab .any (opsOf Try.f12 5) = cp.T5 := by kernel_rfl
theorem cp.bits5 : waitsOk cp.T5.2 cp.B5 = true := by kernel_rfl

theorem below_size2 {w W X : World} (h : Below W.heap.size W X) (h0 : Below w.heap.size w W) : w.heap.size ≤ X.heap.size := Nat.le_trans h0.size h.size
theorem alloc26 {W0 W : World} (h : Below W0.heap.size W0 W) : (W.alloc (.cells (litC (fun _ => 0) (.slice none 0 0) (.slice none 0 0)) 26)).heap[W.heap.size]? = some (.cells (litC (fun _ => 0) (.slice none 0 0) (.slice none 0 0)) 26) ∧ W.heap.size < (W.alloc (.cells (litC (fun _ => 0) (.slice none 0 0) (.slice none 0 0)) 26)).heap.size ∧ W0.heap.size ≤ W.heap.size :=
  ⟨heap_alloc_new W _, by simp, h.size⟩
theorem below_setRow {n : Nat} {W0 W : World} (h : Below n W0 W) {g : Nat} (hg : n ≤ g) (cs : Array Value) : Below n W0 (W.setRow g cs) :=
  h.trans ⟨rfl, rfl, rfl, by rw [setRow_size]; exact Nat.le_refl _, fun k hk => setRow_other W g k cs (by omega)⟩
theorem R_setRow {α : Type} {d : Kd α} {e : Nat} {w : World} {base : Nat} {v : Value} {xs : List α} (h : d.R e w base (fun _ => True) v xs) {g t : Nat} {old : Array Value} (hg : w.heap[g]? = some (.cells old t (0, 0))) (ht : (e :: d.E).all (fun q => q != t) = true) (cs : Array Value) :
    d.R e (w.setRow g cs) base (fun _ => True) v xs := by
  have h1 := Kd.R_types h hg (fun q hq => by have := List.all_eq_true.1 ht q hq; simpa using this)
  exact Kd.R_mono (Kd.R_step h1 (fun k hk _ => setRow_other w g k cs hk.2)) (fun _ _ => trivial)
theorem start_any {P : Program} {ops : Array Oper} {Q : Exit → Act → World → Prop} {S : World → Prop} {ds : List Nat} {id n : Nat} {a : Act} {w : World} (l : Array Bool) (hm : P.follows .mixedOrders = true) (hn : ops.size = n) (hl : Array.replicate n false = l) (hS : S w.drew)
    (h : ∀ wd, S wd → wpAnyLast P .any ops Q S ds n l a wd) : (Code.region id ops true).wp P Q a w := start_ l hm hn hl hS (fun _ => h _ hS)
theorem lit_one (dg : Nat → Int) (A B : Option Addr) (n m c d : Nat) : (litC dg (.slice A n c) (.slice B m d)).all (·.oneCell') = true := by
  rw [← Array.all_toList]; rfl
/-- what holds while a section is copied: g: its box, cs: the box's cells -/
structure Inv (W2 : World) (base go g : Nat) (dg : Nat → Int) (AS : Option Addr) (cS : Nat) (xs : List Sec) (Aj : Option Addr) (cj : Nat) (js : List S40) (cs : Array Value) (w' : World) : Prop where
  hb : Below W2.heap.size W2 w'
  rs : Kd.R kSec 38 w' base (fun k => k < g) (.slice AS xs.length cS) xs
  rj : Kd.R k40 40 w' base (fun k => k < g) (.slice Aj js.length cj) js
  out : w'.heap[go]? = some (.cells (litC dg (.slice AS xs.length cS) (.slice Aj js.length cj)) 26)
  box : w'.heap[g]? = some (.cells cs 38)
  hg : W2.heap.size ≤ g
  hgo : W2.heap.size ≤ go

theorem lt_of_heap {w : World} {g : Nat} {o : Obj} (h : w.heap[g]? = some o) : g < w.heap.size := (Array.getElem?_eq_some_iff.1 h).1

theorem Inv.below {W2 : World} {base go g : Nat} {dg : Nat → Int} {AS : Option Addr} {cS : Nat} {xs : List Sec} {Aj : Option Addr} {cj : Nat} {js : List S40} {cs : Array Value} {w1 w2 : World} (h : Inv W2 base go g dg AS cS xs Aj cj js cs w1) (hb : Below w1.heap.size w1 w2) :
    Inv W2 base go g dg AS cS xs Aj cj js cs w2 :=
  ⟨below_step h.hb hb, Kd.R_below h.rs hb, Kd.R_below h.rj hb, (hb.block _ (lt_of_heap h.out)).trans h.out, (hb.block _ (lt_of_heap h.box)).trans h.box, h.hg, h.hgo⟩

theorem Inv.start {W2 : World} {base go : Nat} {dg : Nat → Int} {AS : Option Addr} {cS : Nat} {xs : List Sec} {Aj : Option Addr} {cj : Nat} {js : List S40} {wr : World} (hb : Below W2.heap.size W2 wr)
    (rs : Kd.R kSec 38 wr base (fun _ => True) (.slice AS xs.length cS) xs) (rj : Kd.R k40 40 wr base (fun _ => True) (.slice Aj js.length cj) js) (out : wr.heap[go]? = some (.cells (litC dg (.slice AS xs.length cS) (.slice Aj js.length cj)) 26)) (hgo : W2.heap.size ≤ go) (cs : Array Value) :
    Inv W2 base go wr.heap.size dg AS cS xs Aj cj js cs (wr.alloc (.cells cs 38)) :=
  ⟨below_alloc hb _, Kd.R_alloc (Kd.R_mono (Kd.R_bound rs) (fun k hk => hk.2.2.1)) _, Kd.R_alloc (Kd.R_mono (Kd.R_bound rj) (fun k hk => hk.2.2.1)) _, (Go.heap_alloc_old wr _ (lt_of_heap out)).trans out, Go.heap_alloc_new wr _, hb.size, hgo⟩

theorem Inv.drew {W2 : World} {base go g : Nat} {dg : Nat → Int} {AS : Option Addr} {cS : Nat} {xs : List Sec} {Aj : Option Addr} {cj : Nat} {js : List S40} {cs : Array Value} {w1 : World} (h : Inv W2 base go g dg AS cS xs Aj cj js cs w1) : Inv W2 base go g dg AS cS xs Aj cj js cs w1.drew :=
  h.below (below_drew1 (Below.refl _ _))

/-- a store into the box -/
theorem Inv.store {W2 : World} {base go g : Nat} {dg : Nat → Int} {AS : Option Addr} {cS : Nat} {xs : List Sec} {Aj : Option Addr} {cj : Nat} {js : List S40} {cs : Array Value} {w1 : World} (h : Inv W2 base go g dg AS cS xs Aj cj js cs w1) (j : Nat) (v : Value) :
    Inv W2 base go g dg AS cS xs Aj cj js (cs.setIfInBounds j v) (w1.setCell ⟨g, j, none⟩ v) := by
  have hne : go ≠ g := by
    rintro rfl
    have h1 := h.out
    rw [h.box] at h1
    injection h1 with h1
    injection h1 with _ h1
    exact absurd h1 (by decide)
  refine ⟨h.hb.setCell (p := ⟨g, j, none⟩) h.hg v, Kd.R_step h.rs (fun k hk _ => heap_setCell_other w1 _ k v (by show k ≠ g; omega)), Kd.R_step h.rj (fun k hk _ => heap_setCell_other w1 _ k v (by show k ≠ g; omega)), ?_, heap_setCell_same w1 g j cs 38 v h.box, h.hg, h.hgo⟩
  rw [heap_setCell_other w1 _ go v hne]; exact h.out

theorem row_store {d : Kd Int} {w : World} {base : Nat} {v : Value} {xs : List Int} (hE : d.E = []) (h : d.R 35 w base (fun _ => True) v xs) {g : Nat} {cs : Array Value} (hg : w.heap[g]? = some (.cells cs 38)) (j : Nat) (u : Value) : d.R 35 (w.setCell ⟨g, j, none⟩ u) base (fun _ => True) v xs :=
  Kd.R_set h hg (by rw [hE]; intro q hq; simp at hq; subst hq; decide) j u

theorem box_cell {w : World} {g : Nat} {cs : Array Value} (h : w.heap[g]? = some (.cells cs 38)) (j : Nat) (hj : j < cs.size) : w.cell? ⟨g, j, none⟩ = some cs[j] ∧ w.frozen? ⟨g, j, none⟩ = false := by
  refine ⟨?_, frozen_of_row w g j cs 38 h⟩
  rw [cell_of_row w g j cs 38 (0, 0) h]
  simp [hj]

/-- the copied section's cells are of the call's own -/
theorem sec_made {w : World} {base : Nat} {s : Sec} {Ah Al AS : Option Addr} {ch cl cS : Nat} {xs : List Sec} (hh : Kd.R (Kd.int .u32) 35 w base (fun _ => True) (.slice Ah s.held.length ch) s.held) (hl : Kd.R (Kd.int .u32) 35 w base (fun _ => True) (.slice Al s.live.length cl) s.live)
    (hs : Kd.R kSec 38 w base (fun _ => True) (.slice AS xs.length cS) xs) :
    kSec.M w base (fun k => some k ≠ (Value.slice AS xs.length cS).ownBlock) s [.int .u32 s.entry, .int .u32 s.exit, .slice Ah s.held.length ch, .int .u32 s.le, .int .u32 s.lx, .slice Al s.live.length cl] := by
  have key : ∀ {v : Value} {l : List Int}, Kd.R (Kd.int .u32) 35 w base (fun _ => True) v l → Kd.R (Kd.int .u32) 35 w base (fun k => some k ≠ (Value.slice AS xs.length cS).ownBlock) v l := fun h =>
    Kd.R_mono (Kd.R_bound h) (fun k hk => by
      obtain ⟨_, _, _, q, hq, cells, hc⟩ := hk
      have : q = 35 := by
        rcases List.mem_cons.1 hq with h | h
        · exact h
        · cases h
      subst this
      exact Kd.R_ne hs hc (by decide))
  exact ⟨[_], _, rfl, rfl, [_], _, rfl, rfl, [_], _, rfl, ⟨_, rfl, key hh⟩, [_], _, rfl, rfl, [_], _, rfl, rfl, _, rfl, key hl⟩

theorem info38t : (Try.prog.info? 38).map (fun i => (i.zero, i.size, i.bytes)) = some (some (.agg #[.int .u32 0, .int .u32 0, .slice none 0 0, .int .u32 0, .int .u32 0, .slice none 0 0]), 6, 64) := by kernel_rfl
theorem size38 {a b c d e f : Value} : (Try.prog.info? 38).map (·.size) = some (#[a, b, c, d, e, f] : Array Value).size := by
  show _ = some 6
  kernel_rfl
theorem go_cell {w : World} {go : Nat} {dg : Nat → Int} {S J : Value} (h : w.heap[go]? = some (.cells (litC dg S J) 26)) : w.cell? ⟨go, 32, none⟩ = some S ∧ w.frozen? ⟨go, 32, none⟩ = false :=
  ⟨by rw [cell_of_row w go 32 _ 26 (0, 0) h]; rfl, frozen_of_row w go 32 _ 26 h⟩

theorem just_ne {w : World} {base : Nat} {S : Value} {xs : List Sec} (hs : Kd.R kSec 38 w base (fun _ => True) S xs) {k : Nat} (h : ∃ q, q ∈ 40 :: k40.E ∧ ∃ cells, w.heap[k]? = some (.cells cells q (0, 0))) : some k ≠ S.ownBlock := by
  obtain ⟨q, hq, cells, hc⟩ := h
  have : q = 40 := by
    rcases List.mem_cons.1 hq with h | h
    · exact h
    · exact absurd h (by simp [k40, Kd.iso, Kd.pair, Kd.int, Kd.scalar])
  subst this
  exact Kd.R_ne hs hc (by decide)

theorem take_rdS (xs : List Sec) (i : Int) (h0 : 0 ≤ i) (h1 : i < xs.length) : xs.take (i + 1).toNat = xs.take i.toNat ++ [rdS xs i] := by
  have h' : i.toNat < xs.length := by omega
  rw [show (i + 1).toNat = i.toNat + 1 by omega, List.take_succ_eq_append_getElem h']
  unfold rdS; simp [h']
theorem exec_load {o : Oper} {a : Act} {w : World} (ty : TypeId) (x : Operand) (ho : o.op = .load ty x) (g off : Nat) (hx : a.eval x = .pointer (some ⟨g, off, none⟩)) (v : Value) (hl : (loadVar ty ⟨g, off, none⟩).run Try.prog w = .ok v w) :
    (execOp a.eval o).run Try.prog w = .ok (.value v) w := by
  unfold execOp
  simp only [ho, hx, Instr.loadAt, Instr.sureAddr, Sem.run_bind, Sem.run_pure, Result.andThen_ok, hl]

set_option maxHeartbeats 8000000 in
set_option maxRecDepth 100000 in
theorem copy_any (c : Crt) (dg : Nat → Int) (A B : Option Addr) (a b : Nat) (w : World) (h : CrtVal w c (litC dg (.slice A c.secs.length a) (.slice B c.justs.length b)) A a B b) (h1 : c.secs.length ≤ 40) (h2 : c.justs.length ≤ 40) (h3 : ∀ s ∈ c.secs, s.held.length ≤ 100 ∧ s.live.length ≤ 100) :
    Calls Try.prog 12 #[.agg #[.int .u8 (dg 0), .int .u8 (dg 1), .int .u8 (dg 2), .int .u8 (dg 3), .int .u8 (dg 4), .int .u8 (dg 5), .int .u8 (dg 6), .int .u8 (dg 7), .int .u8 (dg 8), .int .u8 (dg 9), .int .u8 (dg 10), .int .u8 (dg 11), .int .u8 (dg 12), .int .u8 (dg 13), .int .u8 (dg 14), .int .u8 (dg 15), .int .u8 (dg 16), .int .u8 (dg 17), .int .u8 (dg 18), .int .u8 (dg 19), .int .u8 (dg 20), .int .u8 (dg 21), .int .u8 (dg 22), .int .u8 (dg 23), .int .u8 (dg 24), .int .u8 (dg 25), .int .u8 (dg 26), .int .u8 (dg 27), .int .u8 (dg 28), .int .u8 (dg 29), .int .u8 (dg 30), .int .u8 (dg 31), .slice A c.secs.length a, .slice B c.justs.length b]] w fun e w' => ∃ S J, e = .returned (.agg (litC dg S J)) ∧ Kd.R kSec 38 w' w.heap.size (fun _ => True) S c.secs ∧ Kd.R k40 40 w' w.heap.size (fun _ => True) J c.justs ∧ Below w.heap.size w w' := by
  have HV := Aside0.mk h
  have HJ := Aside0.mk h.hB
  have HS3 := Aside0.mk h3
  have HN1 := Aside0.mk h1
  have hlj : c.justs.length ≤ 1000 := by omega
  have HLJ := Aside0.mk hlj
  have HW2 := Aside0.mk (below_alloc (below_alloc (Below.refl w.heap.size w) (.cells (litC dg (.slice A c.secs.length a) (.slice B c.justs.length b)) 26)) (.cells (litC (fun _ => 0) (.slice none 0 0) (.slice none 0 0)) 26))
  have HB := Aside0.mk (below_drew1 (Below.refl ((w.alloc (.cells (litC dg (.slice A c.secs.length a) (.slice B c.justs.length b)) 26)).alloc (.cells (litC (fun _ => 0) (.slice none 0 0) (.slice none 0 0)) 26)).heap.size ((w.alloc (.cells (litC dg (.slice A c.secs.length a) (.slice B c.justs.length b)) 26)).alloc (.cells (litC (fun _ => 0) (.slice none 0 0) (.slice none 0 0)) 26))))
  have hbox : ∀ w', Below ((w.alloc (.cells (litC dg (.slice A c.secs.length a) (.slice B c.justs.length b)) 26)).alloc (.cells (litC (fun _ => 0) (.slice none 0 0) (.slice none 0 0)) 26)).heap.size ((w.alloc (.cells (litC dg (.slice A c.secs.length a) (.slice B c.justs.length b)) 26)).alloc (.cells (litC (fun _ => 0) (.slice none 0 0) (.slice none 0 0)) 26)) w' → w'.heap[w.heap.size]? = some (.cells (litC dg (.slice A c.secs.length a) (.slice B c.justs.length b)) 26) := fun w' hb => by
    rw [hb.block w.heap.size (by simp; omega), heap_alloc2_old]
  have HX := Aside0.mk hbox
  have hcell33 : ∀ w', Below ((w.alloc (.cells (litC dg (.slice A c.secs.length a) (.slice B c.justs.length b)) 26)).alloc (.cells (litC (fun _ => 0) (.slice none 0 0) (.slice none 0 0)) 26)).heap.size ((w.alloc (.cells (litC dg (.slice A c.secs.length a) (.slice B c.justs.length b)) 26)).alloc (.cells (litC (fun _ => 0) (.slice none 0 0) (.slice none 0 0)) 26)) w' → w'.cell? ⟨w.heap.size, 33, none⟩ = some (.slice B c.justs.length b) := fun w' hb => by
    rw [cell_of_row w' w.heap.size 33 _ 26 (0, 0) (hbox w' hb)]; rfl
  have hcell32 : ∀ w', Below ((w.alloc (.cells (litC dg (.slice A c.secs.length a) (.slice B c.justs.length b)) 26)).alloc (.cells (litC (fun _ => 0) (.slice none 0 0) (.slice none 0 0)) 26)).heap.size ((w.alloc (.cells (litC dg (.slice A c.secs.length a) (.slice B c.justs.length b)) 26)).alloc (.cells (litC (fun _ => 0) (.slice none 0 0) (.slice none 0 0)) 26)) w' → w'.cell? ⟨w.heap.size, 32, none⟩ = some (.slice A c.secs.length a) := fun w' hb => by
    rw [cell_of_row w' w.heap.size 32 _ 26 (0, 0) (hbox w' hb)]; rfl
  have H33 := Aside0.mk hcell33
  have hg2 : ∀ w', Below ((w.alloc (.cells (litC dg (.slice A c.secs.length a) (.slice B c.justs.length b)) 26)).alloc (.cells (litC (fun _ => 0) (.slice none 0 0) (.slice none 0 0)) 26)).heap.size ((w.alloc (.cells (litC dg (.slice A c.secs.length a) (.slice B c.justs.length b)) 26)).alloc (.cells (litC (fun _ => 0) (.slice none 0 0) (.slice none 0 0)) 26)) w' → w'.heap[w.heap.size + 1]? = some (.cells (litC (fun _ => 0) (.slice none 0 0) (.slice none 0 0)) 26) := fun w' hb => by
    rw [hb.block (w.heap.size + 1) (by simp), heap_alloc2_new]
  have HG2 := Aside0.mk hg2
  have H32 := Aside0.mk hcell32
  clear h h1 h2 h3 hlj hbox hcell33 hcell32 hg2
  go_enter Try.func12, Try.ntmps12
  go_wp2
  refine start_any (n := 8) (S := fun w' => Below ((w.alloc (.cells (litC dg (.slice A c.secs.length a) (.slice B c.justs.length b)) 26)).alloc (.cells (litC (fun _ => 0) (.slice none 0 0) (.slice none 0 0)) 26)).heap.size ((w.alloc (.cells (litC dg (.slice A c.secs.length a) (.slice B c.justs.length b)) 26)).alloc (.cells (litC (fun _ => 0) (.slice none 0 0) (.slice none 0 0)) 26)) w') (ds := []) #[false, false, false, false, false, false, false, false] (by kernel_rfl) rfl rfl HB.out (fun wd hHeld => ?_); refine with_tabW cp.tab1 cp.bits1 (fun HT_ HW_ => ?_)
  clear HB
  have HB := Aside0.mk hHeld
  refine pure_ (i := 0) (N := some 6) (v := ?_) (a' := ?_) #[true, false, false, false, false, false, false, false] rfl rfl (any_of HT_.out (by kernel_rfl)) (fun _ _ _ h => h) (Or.inl ⟨by rfl, ?_⟩) ?_ ?_
  rotate_left
  · intro w'
    go_simp
    with_reducible rfl
  rotate_left
  · simp only [Act.put, List.setIfInBounds_toArray, List.set_cons_zero, List.set_cons_succ, i64_w, i32_w]
    rfl
  refine take_ (i := 1) (N := some 7) (v := ?_) (a' := ?_) #[true, true, false, false, false, false, false, false] rfl rfl (take_ofW HT_.out HW_.out (by kernel_rfl)) (fun _ _ _ h => h) (Or.inl ⟨by rfl, ?_⟩) hHeld ?_ ?_
  rotate_left
  · intro w' hw'
    refine Eq.trans (exec_load 22 (.tmp 6) rfl w.heap.size 0 rfl _ (run_loadVar_sub w' w.heap.size 0 26 22 _ (litD dg) (0, 0) _ (HX.out w' hw') (dig_sub dg _ _) Try.underlying22 rfl (size22 dg))) ?_
    with_reducible rfl
  rotate_left
  · simp only [Act.put, List.setIfInBounds_toArray, List.set_cons_zero, List.set_cons_succ, i64_w, i32_w]
    rfl
  refine pure_ (i := 2) (N := some 8) (v := ?_) (a' := ?_) #[true, true, true, false, false, false, false, false] rfl rfl (any_of HT_.out (by kernel_rfl)) (fun _ _ _ h => h) (Or.inl ⟨by rfl, ?_⟩) ?_ ?_
  rotate_left
  · intro w'
    go_simp
    with_reducible rfl
  rotate_left
  · simp only [Act.put, List.setIfInBounds_toArray, List.set_cons_zero, List.set_cons_succ, i64_w, i32_w]
    rfl
  refine take_ (i := 3) (N := some 9) (v := ?_) (a' := ?_) #[true, true, true, true, false, false, false, false] rfl rfl (take_ofW HT_.out HW_.out (by kernel_rfl)) (fun _ _ _ h => h) (Or.inl ⟨by rfl, ?_⟩) hHeld ?_ ?_
  rotate_left
  · intro w' hw'
    have hq := H33.out w' hw'
    go_simp
    with_reducible rfl
  rotate_left
  · simp only [Act.put, List.setIfInBounds_toArray, List.set_cons_zero, List.set_cons_succ, i64_w, i32_w]
    rfl
  refine join_ (σ := (Option Addr × Nat) × Nat) 1 #[true, true, true, true, true, true, true, false] (fun s => [(10, .slice s.1.1 c.justs.length s.1.2), (11, .agg (litC dg (.slice none 0 0) (.slice s.1.1 c.justs.length s.1.2))), (3, .pointer (some ⟨s.2, 0, none⟩))]) (fun s w' => Aside0 (Kd.R k40 40 w' ((w.alloc (.cells (litC dg (.slice A c.secs.length a) (.slice B c.justs.length b)) 26)).alloc (.cells (litC (fun _ => 0) (.slice none 0 0) (.slice none 0 0)) 26)).heap.size (fun _ => True) (.slice s.1.1 c.justs.length s.1.2) c.justs) ∧ Aside0 (w'.heap[s.2]? = some (.cells (litC (fun _ => 0) (.slice none 0 0) (.slice none 0 0)) 26) ∧ s.2 < w'.heap.size ∧ ((w.alloc (.cells (litC dg (.slice A c.secs.length a) (.slice B c.justs.length b)) 26)).alloc (.cells (litC (fun _ => 0) (.slice none 0 0) (.slice none 0 0)) 26)).heap.size ≤ s.2) ∧ Aside0 (Below ((w.alloc (.cells (litC dg (.slice A c.secs.length a) (.slice B c.justs.length b)) 26)).alloc (.cells (litC (fun _ => 0) (.slice none 0 0) (.slice none 0 0)) 26)).heap.size ((w.alloc (.cells (litC dg (.slice A c.secs.length a) (.slice B c.justs.length b)) 26)).alloc (.cells (litC (fun _ => 0) (.slice none 0 0) (.slice none 0 0)) 26)) w')) (fun s wj HF => ?_) (fun hcont => ?_)
  rotate_left
  · refine two_ (i := 4) (j := 6) (Ni := some 10) (Nj := some 3) #[true, true, true, true, true, false, false, false] #[true, true, true, true, false, false, true, false] rfl rfl rfl rfl (two_of HT_.out (by kernel_rfl)) (by decide) (by decide) (fun K hK => ?_) (fun K hK => ?_)
    · refine goes_ Try.func19 (by kernel_rfl) rfl #[.slice B c.justs.length b] (by rfl) rfl rfl (by (try simp only [List.map_toArray, List.map_cons, List.map_nil]); first | done | rfl) ?_
      with_reducible refine (clone_just B b c.justs _ (Kd.C_below HJ.out (below_step HW2.out HB.out)) HLJ.out).mono ?_
      rintro e wc ⟨vj, rfl, ho, hb⟩
      obtain ⟨Aj, cj, rfl⟩ := Kd.R_slice ho
      refine ⟨_, rfl, ?_⟩
      have HO := Aside0.mk (Kd.R_lower ho HB.out.size)
      have n_ := Aside0.mk (below_step HB.out hb)
      clear HB
      have HB := n_
      clear n_ ho hb
      refine hK.out _ _ HB.out (fun hHeld => ?_)
      clear hK K
      refine norm_ (a' := ?_) ?_ ?_
      rotate_left
      · show Act.put _ (some 10) _ = _
        simp only [Act.put, List.setIfInBounds_toArray, List.set_cons_zero, List.set_cons_succ, i64_w, i32_w]
        rfl
      refine pure_ (i := 5) (N := some 11) (v := ?_) (a' := ?_) #[true, true, true, true, true, true, false, false] rfl rfl (any_of HT_.out (by kernel_rfl)) (fun _ _ _ h => h) (Or.inl ⟨by rfl, ?_⟩) ?_ ?_
      rotate_left
      · intro w'
        go_simp
        with_reducible rfl
      rotate_left
      · simp only [Act.put, List.setIfInBounds_toArray, List.set_cons_zero, List.set_cons_succ, i64_w, i32_w]
        rfl
      refine one_ (i := 6) (N := some 3) #[true, true, true, true, true, true, true, false] rfl rfl (one_of HT_.out (by kernel_rfl)) (by decide) (fun K hK => ?_)
      have hal := alloc26 (W := _) HB.out
      refine value_ (w1 := ?_) (v := ?_) (by rfl) rfl ?_ ?_
      rotate_left 2
      · go_simp
        constructor
        · rfl
        · rfl
      have HN := Aside0.mk hal
      have n_ := Aside0.mk (below_alloc HB.out (.cells (litC (fun _ => 0) (.slice none 0 0) (.slice none 0 0)) 26))
      have m_ := Aside0.mk (Kd.R_alloc HO.out (.cells (litC (fun _ => 0) (.slice none 0 0) (.slice none 0 0)) 26))
      clear HB HO
      have HB := n_
      have HO := m_
      clear n_ hal m_
      refine hK.out _ _ HB.out (fun hHeld => ?_)
      clear hK K
      refine norm_ (a' := ?_) ?_ ?_
      rotate_left
      · show Act.put _ (some 3) _ = _
        simp only [Act.put, List.setIfInBounds_toArray, List.set_cons_zero, List.set_cons_succ, i64_w, i32_w]
        rfl
      exact hcont ((Aj, cj), _) _ ⟨HO, HN, HB⟩
    · have hal := alloc26 (W := _) HB.out
      refine value_ (w1 := ?_) (v := ?_) (by rfl) rfl ?_ ?_
      rotate_left 2
      · go_simp
        constructor
        · rfl
        · rfl
      have HN := Aside0.mk hal
      have n_ := Aside0.mk (below_alloc HB.out (.cells (litC (fun _ => 0) (.slice none 0 0) (.slice none 0 0)) 26))
      clear HB
      have HB := n_
      clear n_ hal
      refine hK.out _ _ HB.out (fun hHeld => ?_)
      clear hK K
      refine norm_ (a' := ?_) ?_ ?_
      rotate_left
      · show Act.put _ (some 3) _ = _
        simp only [Act.put, List.setIfInBounds_toArray, List.set_cons_zero, List.set_cons_succ, i64_w, i32_w]
        rfl
      refine one_ (i := 4) (N := some 10) #[true, true, true, true, true, false, true, false] rfl rfl (one_of HT_.out (by kernel_rfl)) (by decide) (fun K hK => ?_)
      refine goes_ Try.func19 (by kernel_rfl) rfl #[.slice B c.justs.length b] (by rfl) rfl rfl (by (try simp only [List.map_toArray, List.map_cons, List.map_nil]); first | done | rfl) ?_
      with_reducible refine (clone_just B b c.justs _ (Kd.C_below HJ.out (below_step HW2.out HB.out)) HLJ.out).mono ?_
      rintro e wc ⟨vj, rfl, ho, hb⟩
      obtain ⟨Aj, cj, rfl⟩ := Kd.R_slice ho
      refine ⟨_, rfl, ?_⟩
      have HO := Aside0.mk (Kd.R_lower ho HB.out.size)
      have n_ := Aside0.mk (below_step HB.out hb)
      have m_ := Aside0.mk ((hb.block _ HN.out.2.1).trans HN.out.1)
      have m2_ := Aside0.mk (And.intro m_.out (And.intro (Nat.lt_of_lt_of_le HN.out.2.1 hb.size) HN.out.2.2))
      clear HB HN
      have HB := n_
      have HN := m2_
      clear n_ ho hb m_ m2_
      refine hK.out _ _ HB.out (fun hHeld => ?_)
      clear hK K
      refine norm_ (a' := ?_) ?_ ?_
      rotate_left
      · show Act.put _ (some 10) _ = _
        simp only [Act.put, List.setIfInBounds_toArray, List.set_cons_zero, List.set_cons_succ, i64_w, i32_w]
        rfl
      refine pure_ (i := 5) (N := some 11) (v := ?_) (a' := ?_) #[true, true, true, true, true, true, true, false] rfl rfl (any_of HT_.out (by kernel_rfl)) (fun _ _ _ h => h) (Or.inl ⟨by rfl, ?_⟩) ?_ ?_
      rotate_left
      · intro w'
        go_simp
        with_reducible rfl
      rotate_left
      · simp only [Act.put, List.setIfInBounds_toArray, List.set_cons_zero, List.set_cons_succ, i64_w, i32_w]
        rfl
      exact hcont ((Aj, cj), _) _ ⟨HO, HN, HB⟩
  obtain ⟨⟨Aj, cj⟩, go⟩ := s
  obtain ⟨HO, HN, HB1⟩ := HF
  clear HB hHeld
  have HB := HB1
  have hHeld := HB.out
  clear HB1
  refine norm_ (a' := ?_) ?_ ?_
  rotate_left
  · simp only [putAll, Act.put, List.setIfInBounds_toArray, List.set_cons_zero, List.set_cons_succ, i64_w, i32_w]
    rfl
  refine one_ (i := 7) (N := none) #[true, true, true, true, true, true, true, true] rfl rfl (one_of HT_.out (by kernel_rfl)) (by decide) (fun K hK => ?_)
  rw [if_pos (by rfl)]
  refine wp_store_row 26 (.tmp 3) (.tmp 11) rfl go (litC dg (.slice none 0 0) (.slice Aj c.justs.length cj)) rfl rfl 26 (litC (fun _ => 0) (.slice none 0 0) (.slice none 0 0)) HN.out.1 (by kernel_rfl) rfl (lit_one dg none Aj 0 c.justs.length 0 cj) ?_
  have n_ := Aside0.mk (below_setRow HB.out HN.out.2.2 (litC dg (.slice none 0 0) (.slice Aj c.justs.length cj)))
  have m_ := Aside0.mk (R_setRow HO.out HN.out.1 (by decide) (litC dg (.slice none 0 0) (.slice Aj c.justs.length cj)))
  have q_ := Aside0.mk (setRow_heap wj go _ (litC dg (.slice none 0 0) (.slice Aj c.justs.length cj)) 26 (0, 0) HN.out.1)
  have g_ := Aside0.mk HN.out.2.2
  clear HB HO HN
  have HB := n_
  have HO := m_
  have HOUT := q_
  have HGO := g_
  clear n_ m_ q_ g_
  refine hK.out _ _ HB.out (fun hHeld => ?_)
  clear hK K
  refine norm_ (a' := ?_) ?_ ?_
  rotate_left
  · show Act.put _ (none) _ = _
    simp only [Act.put, List.setIfInBounds_toArray, List.set_cons_zero, List.set_cons_succ, i64_w, i32_w]
    rfl
  refine done_ (done_of HT_.out (by kernel_rfl)) ?_
  have q32 := H32.out _ HB.out
  go_wp2
  go_loopg [15] (c.secs.length + 1) (fun kq v15 w' => ∃ (i : Int) (xs : List Sec) (AS : Option Addr) (cS : Nat), v15 = .int .i64 i ∧ Aside0 (0 ≤ i ∧ i ≤ c.secs.length ∧ c.secs.length - i < kq ∧ xs = c.secs.take i.toNat) ∧ Aside0 (Kd.R kSec 38 w' ((w.alloc (.cells (litC dg (.slice A c.secs.length a) (.slice B c.justs.length b)) 26)).alloc (.cells (litC (fun _ => 0) (.slice none 0 0) (.slice none 0 0)) 26)).heap.size (fun _ => True) (.slice AS xs.length cS) xs) ∧ Aside0 (Kd.R k40 40 w' ((w.alloc (.cells (litC dg (.slice A c.secs.length a) (.slice B c.justs.length b)) 26)).alloc (.cells (litC (fun _ => 0) (.slice none 0 0) (.slice none 0 0)) 26)).heap.size (fun _ => True) (.slice Aj c.justs.length cj) c.justs) ∧ Aside0 (w'.heap[go]? = some (.cells (litC dg (.slice AS xs.length cS) (.slice Aj c.justs.length cj)) 26)) ∧ Aside0 (Below ((w.alloc (.cells (litC dg (.slice A c.secs.length a) (.slice B c.justs.length b)) 26)).alloc (.cells (litC (fun _ => 0) (.slice none 0 0) (.slice none 0 0)) 26)).heap.size ((w.alloc (.cells (litC dg (.slice A c.secs.length a) (.slice B c.justs.length b)) 26)).alloc (.cells (litC (fun _ => 0) (.slice none 0 0) (.slice none 0 0)) 26)) w'))
  case atStart => exact ⟨0, [], none, 0, rfl, ⟨by omega, by omega, by omega, rfl⟩, ⟨Kd.R_nil _ _ _ _ _⟩, HO, HOUT, HB⟩
  case round =>
    clear q32 HB HO HOUT
    obtain ⟨i, xs, AS, cS, rfl, HI, HS, HO, HOUT, HB⟩ := hrel
    cases gk with
    | zero => exact absurd HI.out (by omega)
    | succ k2 =>
      obtain ⟨i0, i1, ik, hxs⟩ := HI.out
      by_cases hi : i < c.secs.length
      · have hw : wrap64 (i + 1) = i + 1 := by have := HN1.out; unfold wrap64; omega
        have HW := Aside0.mk hw
        have c1d : decide (i < (c.secs.length : Int)) = true := decide_eq_true hi
        have p1 := eq_true i0
        have p2 := eq_true hi
        obtain ⟨ad, A1, c1, B1, c1', e133, q0, q1, q2, q3, q4, q5, r1, r2, r3, r4⟩ := at_sec HV.out.hA i i0 hi
        cases e133
        have hbw := below_step HW2.out HB.out
        have q0' := (hbw.cell (World.block_lt_of_cell? w _ q0)).trans q0
        have q1' := (hbw.cell (World.block_lt_of_cell? w _ q1)).trans q1
        have q2' := (hbw.cell (World.block_lt_of_cell? w _ q2)).trans q2
        have q3' := (hbw.cell (World.block_lt_of_cell? w _ q3)).trans q3
        have q4' := (hbw.cell (World.block_lt_of_cell? w _ q4)).trans q4
        have q5' := (hbw.cell (World.block_lt_of_cell? w _ q5)).trans q5
        have hnext : c.secs.take (i + 1).toNat = xs ++ [rdS c.secs i] := by rw [hxs]; exact take_rdS c.secs i i0 hi
        have h100 := HS3.out _ (rdS_mem c.secs i i0 hi)
        obtain ⟨s, hs⟩ : ∃ s, s = rdS c.secs i := ⟨_, rfl⟩
        rw [← hs] at q0' q1' q2' q3' q4' q5' r2 r4 hnext h100
        have HNX := Aside0.mk hnext
        have R1 := Aside0.mk r2
        have R2 := Aside0.mk r4
        have H100 := Aside0.mk h100
        have HXL := Aside0.mk (show xs.length ≤ 40 by rw [hxs, List.length_take]; have := HN1.out; omega)
        have HST := Aside0.mk ((Inv.start HB.out HS.out HO.out HOUT.out HGO.out #[.int .u32 s.entry, .int .u32 s.exit, .slice A1 s.held.length c1, .int .u32 s.le, .int .u32 s.lx, .slice B1 s.live.length c1']).drew)
        clear q0 q1 q2 q3 q4 q5 r1 r2 r3 r4 hbw hw hi i0 i1 ik hs hnext h100 hxs HS HO HOUT HB
        go_wp2
        refine start_any (n := 10) (S := fun w' => Inv ((w.alloc (.cells (litC dg (.slice (some ad) c.secs.length a) (.slice B c.justs.length b)) 26)).alloc (.cells (litC (fun _ => 0) (.slice none 0 0) (.slice none 0 0)) 26)) ((w.alloc (.cells (litC dg (.slice (some ad) c.secs.length a) (.slice B c.justs.length b)) 26)).alloc (.cells (litC (fun _ => 0) (.slice none 0 0) (.slice none 0 0)) 26)).heap.size go wr.heap.size dg AS cS xs Aj cj c.justs #[.int .u32 s.entry, .int .u32 s.exit, .slice A1 s.held.length c1, .int .u32 s.le, .int .u32 s.lx, .slice B1 s.live.length c1'] w') (ds := [7, 9]) #[false, false, false, false, false, false, false, false, false, false] (by kernel_rfl) rfl rfl HST.out (fun wd hHeld => ?_); refine with_tabW cp.tab5 cp.bits5 (fun HT_ HW_ => ?_)
        have HI1 := Aside0.mk hHeld
        refine pure_ (i := 0) (N := some 19) (v := ?_) (a' := ?_) #[true, false, false, false, false, false, false, false, false, false] rfl rfl (any_of HT_.out (by kernel_rfl)) (fun _ _ _ h => h) (Or.inl ⟨by rfl, ?_⟩) ?_ ?_
        rotate_left
        · intro w'
          go_simp
          with_reducible rfl
        rotate_left
        · simp only [Act.put, List.setIfInBounds_toArray, List.set_cons_zero, List.set_cons_succ, i64_w, i32_w]
          rfl
        refine take_ (i := 1) (N := some 20) (v := ?_) (a' := ?_) #[true, true, false, false, false, false, false, false, false, false] rfl rfl (take_ofW HT_.out HW_.out (by kernel_rfl)) (fun _ _ _ h => h) (Or.inl ⟨by rfl, ?_⟩) hHeld ?_ ?_
        rotate_left
        · intro w' hw'
          have hq : w'.cell? ⟨wr.heap.size, 2, none⟩ = some (.slice A1 s.held.length c1) := (box_cell hw'.box 2 (by show (2 : Nat) < 6; omega)).1
          go_simp
          with_reducible rfl
        rotate_left
        · simp only [Act.put, List.setIfInBounds_toArray, List.set_cons_zero, List.set_cons_succ, i64_w, i32_w]
          rfl
        refine pure_ (i := 3) (N := some 22) (v := ?_) (a' := ?_) #[true, true, false, true, false, false, false, false, false, false] rfl rfl (any_of HT_.out (by kernel_rfl)) (fun _ _ _ h => h) (Or.inl ⟨by rfl, ?_⟩) ?_ ?_
        rotate_left
        · intro w'
          go_simp
          with_reducible rfl
        rotate_left
        · simp only [Act.put, List.setIfInBounds_toArray, List.set_cons_zero, List.set_cons_succ, i64_w, i32_w]
          rfl
        refine take_ (i := 4) (N := some 23) (v := ?_) (a' := ?_) #[true, true, false, true, true, false, false, false, false, false] rfl rfl (take_ofW HT_.out HW_.out (by kernel_rfl)) (fun _ _ _ h => h) (Or.inl ⟨by rfl, ?_⟩) hHeld ?_ ?_
        rotate_left
        · intro w' hw'
          have hq : w'.cell? ⟨wr.heap.size, 5, none⟩ = some (.slice B1 s.live.length c1') := (box_cell hw'.box 5 (by show (5 : Nat) < 6; omega)).1
          go_simp
          with_reducible rfl
        rotate_left
        · simp only [Act.put, List.setIfInBounds_toArray, List.set_cons_zero, List.set_cons_succ, i64_w, i32_w]
          rfl
        refine one_ (i := 2) (N := some 21) #[true, true, true, true, true, false, false, false, false, false] rfl rfl (one_of HT_.out (by kernel_rfl)) (by decide) (fun K hK => ?_)
        refine goes_ Try.func20 (by kernel_rfl) rfl #[.slice A1 s.held.length c1] (by rfl) rfl rfl (by (try simp only [List.map_toArray, List.map_cons, List.map_nil]); first | done | rfl) ?_
        with_reducible refine (clone_u32 A1 c1 s.held _ (Kd.C_below R1.out (below_step HW2.out HI1.out.hb)) (Nat.le_trans H100.out.1 (by omega))).mono ?_
        rintro e w2 ⟨v2, rfl, ho, hb⟩
        obtain ⟨Ah, ch, rfl⟩ := Kd.R_slice ho
        refine ⟨_, rfl, ?_⟩
        have RH := Aside0.mk (Kd.R_lower ho HI1.out.hb.size)
        have HI2 := Aside0.mk (HI1.out.below hb)
        clear ho hb
        refine hK.out _ _ HI2.out (fun hHeld => ?_)
        clear hK K
        refine norm_ (a' := ?_) ?_ ?_
        rotate_left
        · show Act.put _ (some 21) _ = _
          simp only [Act.put, List.setIfInBounds_toArray, List.set_cons_zero, List.set_cons_succ, i64_w, i32_w]
          rfl
        refine pure_ (i := 6) (N := some 25) (v := ?_) (a' := ?_) #[true, true, true, true, true, false, true, false, false, false] rfl rfl (any_of HT_.out (by kernel_rfl)) (fun _ _ _ h => h) (Or.inl ⟨by rfl, ?_⟩) ?_ ?_
        rotate_left
        · intro w'
          go_simp
          with_reducible rfl
        rotate_left
        · simp only [Act.put, List.setIfInBounds_toArray, List.set_cons_zero, List.set_cons_succ, i64_w, i32_w]
          rfl
        refine one_ (i := 5) (N := some 24) #[true, true, true, true, true, true, true, false, false, false] rfl rfl (one_of HT_.out (by kernel_rfl)) (by decide) (fun K hK => ?_)
        refine goes_ Try.func20 (by kernel_rfl) rfl #[.slice B1 s.live.length c1'] (by rfl) rfl rfl (by (try simp only [List.map_toArray, List.map_cons, List.map_nil]); first | done | rfl) ?_
        with_reducible refine (clone_u32 B1 c1' s.live _ (Kd.C_below R2.out (below_step HW2.out HI2.out.hb)) (Nat.le_trans H100.out.2 (by omega))).mono ?_
        rintro e w5 ⟨v5, rfl, ho, hb⟩
        obtain ⟨Al, cl, rfl⟩ := Kd.R_slice ho
        refine ⟨_, rfl, ?_⟩
        have RL := Aside0.mk (Kd.R_lower ho HI2.out.hb.size)
        have HI5 := Aside0.mk (HI2.out.below hb)
        have RH5 := Aside0.mk (Kd.R_below RH.out hb)
        clear ho hb RH
        refine hK.out _ _ HI5.out (fun hHeld => ?_)
        clear hK K
        refine norm_ (a' := ?_) ?_ ?_
        rotate_left
        · show Act.put _ (some 24) _ = _
          simp only [Act.put, List.setIfInBounds_toArray, List.set_cons_zero, List.set_cons_succ, i64_w, i32_w]
          rfl
        refine last_ (i := 7) (N := none) #[true, true, true, true, true, true, true, true, false, false] rfl rfl (one_of HT_.out (by kernel_rfl)) (by decide) (fun K hK => ?_)
        have hc7 : w5.cell? ⟨wr.heap.size, 2, none⟩ = some (.slice A1 s.held.length c1) := (box_cell HI5.out.box 2 (by show (2 : Nat) < 6; omega)).1
        have hf7 := (box_cell HI5.out.box 2 (by show (2 : Nat) < 6; omega)).2
        refine skip_ (w1 := ?_) (by rfl) rfl ?_ ?_
        rotate_left
        · go_simp
          rfl
        have hi7 : Inv ((w.alloc (.cells (litC dg (.slice (some ad) c.secs.length a) (.slice B c.justs.length b)) 26)).alloc (.cells (litC (fun _ => 0) (.slice none 0 0) (.slice none 0 0)) 26)) ((w.alloc (.cells (litC dg (.slice (some ad) c.secs.length a) (.slice B c.justs.length b)) 26)).alloc (.cells (litC (fun _ => 0) (.slice none 0 0) (.slice none 0 0)) 26)).heap.size go wr.heap.size dg AS cS xs Aj cj c.justs #[.int .u32 s.entry, .int .u32 s.exit, .slice Ah s.held.length ch, .int .u32 s.le, .int .u32 s.lx, .slice B1 s.live.length c1'] (w5.setCell ⟨wr.heap.size, 2, none⟩ (.slice Ah s.held.length ch)) := HI5.out.store 2 _
        have HI7 := Aside0.mk hi7
        have RH7 := Aside0.mk (row_store rfl RH5.out HI5.out.box 2 (.slice Ah s.held.length ch))
        have RL7 := Aside0.mk (row_store rfl RL.out HI5.out.box 2 (.slice Ah s.held.length ch))
        clear hc7 hf7 hi7
        refine hK.out _ _ ?_
        clear hK K
        refine pure_ (i := 8) (N := some 26) (v := ?_) (a' := ?_) #[true, true, true, true, true, true, true, true, true, false] rfl rfl (any_of HT_.out (by kernel_rfl)) (fun _ _ _ h => h) (Or.inl ⟨by rfl, ?_⟩) ?_ ?_
        rotate_left
        · intro w'
          go_simp
          with_reducible rfl
        rotate_left
        · simp only [Act.put, List.setIfInBounds_toArray, List.set_cons_zero, List.set_cons_succ, i64_w, i32_w]
          rfl
        refine last_ (i := 9) (N := none) #[true, true, true, true, true, true, true, true, true, true] rfl rfl (one_of HT_.out (by kernel_rfl)) (by decide) (fun K hK => ?_)
        have hc9 := (box_cell HI7.out.box 5 (by show (5 : Nat) < 6; omega)).1
        have hf9 := (box_cell HI7.out.box 5 (by show (5 : Nat) < 6; omega)).2
        refine skip_ (w1 := ?_) (by rfl) rfl ?_ ?_
        rotate_left
        · go_simp
          rfl
        have hi9 : Inv ((w.alloc (.cells (litC dg (.slice (some ad) c.secs.length a) (.slice B c.justs.length b)) 26)).alloc (.cells (litC (fun _ => 0) (.slice none 0 0) (.slice none 0 0)) 26)) ((w.alloc (.cells (litC dg (.slice (some ad) c.secs.length a) (.slice B c.justs.length b)) 26)).alloc (.cells (litC (fun _ => 0) (.slice none 0 0) (.slice none 0 0)) 26)).heap.size go wr.heap.size dg AS cS xs Aj cj c.justs #[.int .u32 s.entry, .int .u32 s.exit, .slice Ah s.held.length ch, .int .u32 s.le, .int .u32 s.lx, .slice Al s.live.length cl] ((w5.setCell ⟨wr.heap.size, 2, none⟩ (.slice Ah s.held.length ch)).setCell ⟨wr.heap.size, 5, none⟩ (.slice Al s.live.length cl)) := HI7.out.store 5 _
        have HI9 := Aside0.mk hi9
        have RH9 := Aside0.mk (row_store rfl RH7.out HI7.out.box 5 (.slice Al s.live.length cl))
        have RL9 := Aside0.mk (row_store rfl RL7.out HI7.out.box 5 (.slice Al s.live.length cl))
        clear hc9 hf9 hi9
        refine hK.out _ _ ?_
        clear hK K
        refine done_ (done_of HT_.out (by kernel_rfl)) ?_
        have q32 := (go_cell HI9.out.out).1
        have hs9 := Kd.R_mono (ok' := fun _ => True) HI9.out.rs (fun _ _ => trivial)
        have HS9 := Aside0.mk hs9
        have HM := Aside0.mk (sec_made (s := s) RH9.out RL9.out hs9)
        have hj9 := Kd.R_mono (Kd.R_bound (Kd.R_mono (ok' := fun _ => True) HI9.out.rj (fun _ _ => trivial))) (ok' := fun k => some k ≠ (Value.slice AS xs.length cS).ownBlock) (fun k hk => just_ne hs9 hk.2.2.2)
        have HJ9 := Aside0.mk hj9
        clear hs9 hj9
        go_wp2_with (first | ((with_reducible refine gate_dst (N := 29) rfl ?_); refine wpList_load_row rfl 38 (.tmp 5) rfl wr.heap.size rfl 38 #[.int .u32 s.entry, .int .u32 s.exit, .slice Ah s.held.length ch, .int .u32 s.le, .int .u32 s.lx, .slice Al s.live.length cl] (0, 0) _ HI9.out.box Try.underlying38 rfl size38 ?_) | ((with_reducible refine gate_builtin (b := .append) (xs := #[.tmp 28, .tmp 30]) rfl ?_); at_builtin; refine Kd.R_append kSec (w0 := ((w.alloc (.cells (litC dg (.slice (some ad) c.secs.length a) (.slice B c.justs.length b)) 26)).alloc (.cells (litC (fun _ => 0) (.slice none 0 0) (.slice none 0 0)) 26))) ((w.alloc (.cells (litC dg (.slice (some ad) c.secs.length a) (.slice B c.justs.length b)) 26)).alloc (.cells (litC (fun _ => 0) (.slice none 0 0) (.slice none 0 0)) 26)).heap.size rfl (.tmp 28) (.tmp 30) 23 38 _ 64 rfl Try.underlying23 info38t rfl (by decide) (by omega) (.slice AS xs.length cS) xs s [.int .u32 s.entry, .int .u32 s.exit, .slice Ah s.held.length ch, .int .u32 s.le, .int .u32 s.lx, .slice Al s.live.length cl] (fun _ => True) (fun k => some k ≠ (Value.slice AS xs.length cS).ownBlock) rfl (by show Value.slice (some ⟨w5.heap.size, 0, none⟩) 1 1 = _; simp) HM.out (fun _ h => ⟨trivial, h⟩) (fun _ _ => trivial) HS9.out HI9.out.hb HI9.out.hb.size ?aL ?_; (case aL => have := HXL.out; omega); intro v7 w7 ho7 hb7 hg7 hat7; obtain ⟨A7, c7, rfl⟩ := Kd.R_slice ho7; have HS7 := Aside0.mk ho7; have HB7 := Aside0.mk hb7; have HO7 := Aside0.mk (Kd.R_grown HJ9.out hg7 (fun _ hk => hk)); have HOUT7 := Aside0.mk ((hg7.block go (lt_of_heap HI9.out.out) (Kd.R_ne HS9.out HI9.out.out (by decide))).trans HI9.out.out); have q7 := (go_cell HOUT7.out).1; have f7 := (go_cell HOUT7.out).2; clear ho7 hb7 hg7 hat7))
        go_roundg k2
        case measure => omega
        case rel =>
          refine ⟨i + 1, xs ++ [s], A7, c7, (by rw [HW.out]), ⟨by have := HI.out; omega, by have := HI.out; have := of_eq_true p2; omega, by have := HI.out; omega, HNX.out.symm⟩, ⟨?_⟩, ⟨?_⟩, ⟨?_⟩, ⟨?_⟩⟩
          · exact Kd.R_set HS7.out HOUT7.out (by decide) 32 _
          · exact Kd.R_set (Kd.R_mono HO7.out (fun _ _ => trivial)) HOUT7.out (by decide) 32 _
          · have hx := heap_setCell_same w7 go 32 _ 26 (.slice A7 (xs.length + 1) c7) HOUT7.out
            rw [show (xs ++ [s]).length = xs.length + 1 by simp]
            exact hx
          · exact HB7.out.setCell (p := ⟨go, 32, none⟩) HI9.out.hgo _
      · have ei : i = c.secs.length := by omega
        have hxe : xs = c.secs := by rw [hxs, ei]; simp
        have c1d : decide (i < (c.secs.length : Int)) = false := decide_eq_false hi
        have HE := Aside0.mk hxe
        clear hi hxs ei i0 i1 ik hxe HI
        go_wp2_with (first | ((with_reducible refine gate_dst (N := 34) rfl ?_); refine wpList_load_row rfl 26 (.tmp 3) rfl go rfl 26 (litC dg (.slice AS xs.length cS) (.slice Aj c.justs.length cj)) (0, 0) _ HOUT.out Try.underlying26 rfl (size26 rfl) ?_) | (refine wpList_store_row rfl 26 (.tmp 2) (.tmp 34) rfl (w.heap.size + 1) (litC dg (.slice AS xs.length cS) (.slice Aj c.justs.length cj)) rfl rfl 26 (litC (fun _ => 0) (.slice none 0 0) (.slice none 0 0)) (HG2.out _ HB.out) (size26 rfl) rfl (lit_one dg AS Aj xs.length c.justs.length cS cj) ?_))
        refine bodyPost_ret (v := .agg (litC dg (.slice AS xs.length cS) (.slice Aj c.justs.length cj))) (results_cell_row rfl _ _ (w.heap.size + 1) 26 _ (0, 0) _ rfl (setRow_heap wr (w.heap.size + 1) _ _ 26 (0, 0) (HG2.out _ HB.out)) Try.underlying26 rfl (size26 rfl)) rfl ⟨_, _, rfl, ?_, ?_, ?_⟩
        · rw [← HE.out]; exact Kd.R_lower (R_setRow HS.out (HG2.out _ HB.out) (by decide) _) HW2.out.size
        · exact Kd.R_lower (R_setRow HO.out (HG2.out _ HB.out) (by decide) _) HW2.out.size
        · exact below_setRow (below_step HW2.out HB.out) (by omega) _
end Go.Proofs.Ytbemdnjcnmponaa.Copy
