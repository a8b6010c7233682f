/- Two copies of a certificate, the one changed and the other not: what stays; no condition. -/
import Derived.Test.YtbemdnjcnmponaaRefSame
import Derived.Deep.MidRow
namespace Go.Proofs.Ytbemdnjcnmponaa.CopiesP
open Go.RowKit Go.Proofs.YtbemdnjcnmponaaW.PrintWords Go.Proofs.YtbemdnjcnmponaaW.PrintLast Go.Proofs.YtbemdnjcnmponaaW.PrintMore Go.Proofs.Ytbemdnjcnmponaa.PCertSame Go.Proofs.Ytbemdnjcnmponaa.Data Go.Proofs.Ytbemdnjcnmponaa.Plain Go.Proofs.Ytbemdnjcnmponaa.Check Go.Proofs.Ytbemdnjcnmponaa.Awake Go.Proofs.Ytbemdnjcnmponaa.Laws1 Go.Proofs.Ytbemdnjcnmponaa.Lit Go.Proofs.Ytbemdnjcnmponaa.SameP Go.Proofs.Ytbemdnjcnmponaa.Same Go.Proofs.Ytbemdnjcnmponaa.Copy Go.Proofs.Ytbemdnjcnmponaa.RefSame
set_option linter.unusedVariables false
set_option linter.unusedSimpArgs false

theorem few_parts {c : Crt} (h : fewOk c = true) : c.secs.length ≤ 40 ∧ c.justs.length ≤ 40 ∧ SmallS c.secs := by
  unfold fewOk at h
  simp only [Bool.and_eq_true, decide_eq_true_eq, List.all_eq_true] at h
  exact ⟨h.1.1, h.1.2, fun s hs => h.2 s hs⟩
theorem byt_of {c : Crt} (hg : c.Good) : Byt (fun i => c.dig.getD i 0) := by
  intro i
  by_cases hi : i < c.dig.length
  · have : c.dig.getD i 0 = c.dig[i] := by simp [hi]
    show 0 ≤ c.dig.getD i 0 ∧ c.dig.getD i 0 < 256
    rw [this]
    exact hg.dig _ (List.getElem_mem hi)
  · have : c.dig.getD i 0 = 0 := by rw [List.getD_eq_getElem?_getD, List.getElem?_eq_none (by omega)]; rfl
    show 0 ≤ c.dig.getD i 0 ∧ c.dig.getD i 0 < 256
    rw [this]; omega
abbrev zC : Array Value := litC (fun _ => 0) (.slice none 0 0) (.slice none 0 0)
/-- cert.Copy, its result as a call has it -/
theorem copy_is (c : Crt) (dg : Nat → Int) (A B : Option Addr) (a b : Nat) (w : World) (h : CrtVal w c (litC dg (.slice A c.secs.length a) (.slice B c.justs.length b)) A a B b) (hf : fewOk c = true) :
    Calls Try.prog 12 #[.agg (litC dg (.slice A c.secs.length a) (.slice B c.justs.length b))] w fun e w' => ∃ AS cS AJ cJ, e = .returned (.agg (litC dg (.slice AS c.secs.length cS) (.slice AJ c.justs.length cJ))) ∧
      Kd.R kSec 38 w' w.heap.size (fun _ => True) (.slice AS c.secs.length cS) c.secs ∧ Kd.R k40 40 w' w.heap.size (fun _ => True) (.slice AJ c.justs.length cJ) c.justs ∧ Below w.heap.size w w' := by
  refine (copy_any c dg A B a b w h (few_parts hf).1 (few_parts hf).2.1 (few_parts hf).2.2).mono ?_
  rintro e w' ⟨S, J, rfl, hS, hJ, hb⟩
  obtain ⟨AS, cS, rfl, l1, r1⟩ := Kd.R_reads hS
  obtain ⟨AJ, cJ, rfl, l2, r2⟩ := Kd.R_reads hJ
  exact ⟨AS, cS, AJ, cJ, rfl, hS, hJ, hb⟩
theorem crt_of {c : Crt} {dg : Nat → Int} {AS AJ : Option Addr} {cS cJ : Nat} {w : World} {b1 b2 : Nat} {o1 o2 : Nat → Prop} (hS : Kd.R kSec 38 w b1 o1 (.slice AS c.secs.length cS) c.secs) (hJ : Kd.R k40 40 w b2 o2 (.slice AJ c.justs.length cJ) c.justs) :
    CrtVal w c (litC dg (.slice AS c.secs.length cS) (.slice AJ c.justs.length cJ)) AS cS AJ cJ :=
  ⟨rfl, rfl, rfl, (Kd.R_reads' hS).2.1, (Kd.R_reads' hJ).2.1, (Kd.R_reads' hS).2.2, (Kd.R_reads' hJ).2.2⟩

/-! ### the parts of an own row -/
theorem R_place {α : Type} {d : Kd α} {e : Nat} {w : World} {base : Nat} {ok : Nat → Prop} {v : Value} {xs : List α} (h : d.R e w base ok v xs) {j : Nat} {x : α} (hx : xs[j]? = some x) :
    ∃ g cap cells cs, v = .slice (some ⟨g, 0, none⟩) xs.length cap ∧ ok g ∧ base ≤ g ∧ w.heap[g]? = some (.cells cells e (0, 0)) ∧ d.M w base ok x cs ∧ ∀ k u, cs[k]? = some u → k < d.sz → cells[j * d.sz + k]? = some u := by
  obtain ⟨h0, inner, ⟨hlen, hv⟩, hr⟩ := h
  have hj : j < xs.length := (List.getElem?_eq_some_iff.1 hx).1
  rcases hv with ⟨_, hn⟩ | ⟨g, cap, cur, rfl, hg, hh, h1, h2, h3, h4⟩
  · omega
  refine ⟨g, cap, cur, _, rfl, h0 g rfl, hg, hh, d.M_mono (fun k hk => hk.1) (hr.2 j x hx), fun k u hu hk => ?_⟩
  rw [List.getElem?_take_of_lt hk, List.getElem?_drop, ← h4, List.getElem?_take_of_lt] at hu
  · rw [← Array.getElem?_toList]; exact hu
  · have : (j + 1) * d.sz ≤ xs.length * d.sz := Nat.mul_le_mul_right _ hj
    rw [Nat.succ_mul] at this
    omega

/-- a place that holds a number in a world, in a range of blocks -/
def IsInt (W0 : World) (lo hi : Nat) (p : Addr) : Prop := lo ≤ p.block ∧ p.block < hi ∧ p.spot = none ∧ ∃ cells e K x, W0.heap[p.block]? = some (.cells cells e (0, 0)) ∧ cells[p.off]? = some (.int K x)
/-- a place that holds a slice -/
def IsSl (W0 : World) (p : Addr) (A : Option Addr) (n c : Nat) : Prop := p.spot = none ∧ ∃ cells e, W0.heap[p.block]? = some (.cells cells e (0, 0)) ∧ cells[p.off]? = some (.slice A n c)

theorem sec_at {w : World} {lo hi : Nat} {AS : Option Addr} {n cS : Nat} {l : List Sec} (h : Kd.R kSec 38 w lo (fun k => k < hi) (.slice AS n cS) l) (i : Int) (h0 : 0 ≤ i) (h1 : i < l.length) :
    ∃ ad Ah ch Al cl, AS = some ad ∧ IsInt w lo hi (ad.add (i.toNat * 6)) ∧ IsSl w ⟨(ad.add (i.toNat * 6)).block, (ad.add (i.toNat * 6)).off + 2, none⟩ Ah (rdS l i).held.length ch ∧ IsSl w ⟨(ad.add (i.toNat * 6)).block, (ad.add (i.toNat * 6)).off + 5, none⟩ Al (rdS l i).live.length cl ∧
      Kd.R (Kd.int .u32) 35 w lo (fun k => k < hi) (.slice Ah (rdS l i).held.length ch) (rdS l i).held ∧ Kd.R (Kd.int .u32) 35 w lo (fun k => k < hi) (.slice Al (rdS l i).live.length cl) (rdS l i).live := by
  have hj : i.toNat < l.length := by omega
  have hx : l[i.toNat]? = some (rdS l i) := by unfold rdS; simp [hj]
  obtain ⟨g, cap, cells, cs, hv, hg1, hg2, hh, hM, hc⟩ := R_place h hx
  obtain ⟨_, _, rfl, rfl, _, _, rfl, rfl, _, _, rfl, ⟨v1, rfl, r1⟩, _, _, rfl, rfl, _, _, rfl, rfl, v2, rfl, r2⟩ := hM
  obtain ⟨Ah, ch, rfl⟩ := Kd.R_slice r1
  obtain ⟨Al, cl, rfl⟩ := Kd.R_slice r2
  injection hv with hv _ _
  have ha : (⟨g, 0, none⟩ : Addr).add (i.toNat * 6) = ⟨g, i.toNat * 6, none⟩ := by rw [Addr.add_mid, Nat.zero_add]
  refine ⟨_, Ah, ch, Al, cl, hv, ?_, ?_, ?_, r1, r2⟩
  · rw [ha]
    exact ⟨hg2, hg1, rfl, cells, 38, _, _, hh, hc 0 _ rfl (show 0 < 6 by decide)⟩
  · rw [ha]
    exact ⟨rfl, cells, 38, hh, hc 2 _ rfl (show 2 < 6 by decide)⟩
  · rw [ha]
    exact ⟨rfl, cells, 38, hh, hc 5 _ rfl (show 5 < 6 by decide)⟩

theorem num_at {w : World} {lo hi : Nat} {A : Option Addr} {n c : Nat} {l : List Int} (h : Kd.R (Kd.int .u32) 35 w lo (fun k => k < hi) (.slice A n c) l) (i : Int) (h0 : 0 ≤ i) (h1 : i < l.length) :
    ∃ ad, A = some ad ∧ IsInt w lo hi (ad.add i.toNat) := by
  have hj : i.toNat < l.length := by omega
  obtain ⟨g, cap, cells, cs, hv, hg1, hg2, hh, hM, hc⟩ := R_place h (List.getElem?_eq_getElem hj)
  injection hv with hv _ _
  refine ⟨_, hv, ?_⟩
  rw [Addr.add_mid, Nat.zero_add]
  have hM' : cs = [Value.int .u32 l[i.toNat]] := hM
  subst hM'
  have := hc 0 _ rfl (show 0 < 1 by decide)
  exact ⟨hg2, hg1, rfl, cells, 35, _, _, hh, by have h2 : i.toNat * (Kd.int .u32).sz + 0 = i.toNat := Nat.mul_one _; rw [h2] at this; exact this⟩

theorem just_at {w : World} {lo hi : Nat} {A : Option Addr} {n c : Nat} {l : List S40} (h : Kd.R k40 40 w lo (fun k => k < hi) (.slice A n c) l) (i : Int) (h0 : 0 ≤ i) (h1 : i < l.length) :
    ∃ g, A = some ⟨g, 0, none⟩ ∧ IsInt w lo hi ⟨g, i.toNat * 2, none⟩ ∧ IsInt w lo hi ⟨g, i.toNat * 2 + 1, none⟩ := by
  have hj : i.toNat < l.length := by omega
  obtain ⟨g, cap, cells, cs, hv, hg1, hg2, hh, hM, hc⟩ := R_place h (List.getElem?_eq_getElem hj)
  injection hv with hv _ _
  obtain ⟨_, _, rfl, rfl, rfl⟩ := hM
  exact ⟨g, hv, ⟨hg2, hg1, rfl, cells, 40, _, _, hh, hc 0 _ rfl (show 0 < 2 by decide)⟩, ⟨hg2, hg1, rfl, cells, 40, _, _, hh, hc 1 _ rfl (show 1 < 2 by decide)⟩⟩

/-! ### a world that is changed in places of numbers alone -/
structure Ch (w2 W0 : World) (lo hi : Nat) (W : World) : Prop where
  hb : Below w2.heap.size w2 W
  hlo : w2.heap.size ≤ lo
  size : W0.heap.size ≤ W.heap.size
  out : ∀ k, k < W0.heap.size → (k < lo ∨ hi ≤ k) → W.heap[k]? = W0.heap[k]?
  keep : ∀ (k : Nat) (cs : Array Value) (e : Nat), W0.heap[k]? = some (.cells cs e (0, 0)) → ∃ cs', W.heap[k]? = some (.cells cs' e (0, 0)) ∧ cs'.size = cs.size ∧ ∀ (j : Nat) (v : Value), cs[j]? = some v → (∀ K x, v ≠ .int K x) → cs'[j]? = some v

theorem Ch.start {w2 W0 : World} {lo hi : Nat} (hb : Below w2.heap.size w2 W0) (hlo : w2.heap.size ≤ lo) : Ch w2 W0 lo hi W0 :=
  ⟨hb, hlo, Nat.le_refl _, fun _ _ _ => rfl, fun k cs e h => ⟨cs, h, rfl, fun _ _ hv _ => hv⟩⟩
theorem Ch.below {w2 W0 : World} {lo hi : Nat} {W W' : World} (h : Ch w2 W0 lo hi W) (hb : Below W.heap.size W W') : Ch w2 W0 lo hi W' :=
  ⟨below_step h.hb hb, h.hlo, Nat.le_trans h.size hb.size, fun k hk ho => (hb.block k (Nat.lt_of_lt_of_le hk h.size)).trans (h.out k hk ho), fun k cs e hc => by
    obtain ⟨cs', h1, h2⟩ := h.keep k cs e hc
    exact ⟨cs', (hb.block k (lt_of_heap h1)).trans h1, h2⟩⟩
theorem Ch.sl {w2 W0 : World} {lo hi : Nat} {W : World} (h : Ch w2 W0 lo hi W) {p : Addr} {A : Option Addr} {n c : Nat} (hp : IsSl W0 p A n c) : W.cell? p = some (.slice A n c) ∧ W.frozen? p = false := by
  obtain ⟨g, o, s⟩ := p
  obtain ⟨hs, cells, e, h1, h2⟩ := hp
  cases hs
  obtain ⟨cs', h3, _, h4⟩ := h.keep g cells e h1
  exact ⟨by rw [cell_of_row W g o cs' e (0, 0) h3]; exact h4 o _ h2 (fun K x => by simp), frozen_of_row W g o cs' e h3⟩
theorem Ch.num {w2 W0 : World} {lo hi : Nat} {W : World} (h : Ch w2 W0 lo hi W) {p : Addr} (hp : IsInt W0 lo hi p) : ∃ v, W.cell? p = some v ∧ W.frozen? p = false := by
  obtain ⟨g, o, s⟩ := p
  obtain ⟨_, _, hs, cells, e, K, x, h1, h2⟩ := hp
  cases hs
  obtain ⟨cs', h3, h5, h4⟩ := h.keep g cells e h1
  have ho : o < cells.size := (Array.getElem?_eq_some_iff.1 h2).1
  exact ⟨cs'[o]'(by omega), by rw [cell_of_row W g o cs' e (0, 0) h3]; exact Array.getElem?_eq_getElem _, frozen_of_row W g o cs' e h3⟩
theorem Ch.put {w2 W0 : World} {lo hi : Nat} {W : World} (h : Ch w2 W0 lo hi W) {p : Addr} (hp : IsInt W0 lo hi p) (v : Value) : Ch w2 W0 lo hi (W.setCell p v) := by
  obtain ⟨g, o, s⟩ := p
  obtain ⟨hlo, hhi, hs, cells, e, K, x, h1, h2⟩ := hp
  cases hs
  have hlo' : lo ≤ g := hlo
  have hhi' : g < hi := hhi
  refine ⟨h.hb.setCell (p := ⟨g, o, none⟩) (Nat.le_trans h.hlo hlo) v, h.hlo, by simpa [World.setCell] using h.size, fun k hk ho => ?_, fun k cs e' hc => ?_⟩
  · rw [heap_setCell_other W _ k v (by show k ≠ g; omega)]; exact h.out k hk ho
  · by_cases hkg : k = g
    · subst hkg
      obtain ⟨cs', h3, h5, h4⟩ := h.keep k cs e' hc
      refine ⟨_, heap_setCell_same W k o cs' e' v h3, by simp [h5], fun j u hu hn => ?_⟩
      have h6 := h1.symm.trans hc
      injection h6 with h6
      injection h6 with h6 _ _
      subst h6
      have hjo : o ≠ j := fun he => by
        subst he
        have : cells[o]? = some (Value.int K x) := h2
        rw [hu] at this
        injection this with this
        exact hn _ _ this
      rw [Array.getElem?_setIfInBounds_ne hjo]
      exact h4 j u hu hn
    · obtain ⟨cs', h3, h45⟩ := h.keep k cs e' hc
      exact ⟨cs', by rw [heap_setCell_other W _ k v (by show k ≠ g; omega)]; exact h3, h45⟩
theorem Ch.there {w2 W0 : World} {lo hi : Nat} {W : World} (h : Ch w2 W0 lo hi W) {g o : Nat} (h0 : IsInt W0 lo hi ⟨g, o, none⟩) (h1 : IsInt W0 lo hi ⟨g, o + 1, none⟩) : W.there g o 2 := by
  intro j hj
  have hj2 : j = 0 ∨ j = 1 := by omega
  rcases hj2 with rfl | rfl
  · obtain ⟨v, hv, hf⟩ := h.num h0
    exact ⟨by show (W.cell? ⟨g, o, none⟩).isSome = true; rw [hv]; rfl, hf⟩
  · obtain ⟨v, hv, hf⟩ := h.num h1
    exact ⟨by show (W.cell? ⟨g, o + 1, none⟩).isSome = true; rw [hv]; rfl, hf⟩
theorem Ch.put2 {w2 W0 : World} {lo hi : Nat} {W : World} (h : Ch w2 W0 lo hi W) {g o : Nat} (h0 : IsInt W0 lo hi ⟨g, o, none⟩) (h1 : IsInt W0 lo hi ⟨g, o + 1, none⟩) (u v : Value) : Ch w2 W0 lo hi (W.setCells g o [u, v]) := (h.put h0 u).put h1 v
/-- a row behind the range stays -/
theorem Ch.row {w2 W0 : World} {lo hi : Nat} {W : World} (h : Ch w2 W0 lo hi W) {α : Type} {d : Kd α} {e : Nat} {ok : Nat → Prop} {v : Value} {xs : List α} (hr : d.R e W0 hi ok v xs) : d.R e W hi ok v xs :=
  Kd.R_mono (Kd.R_move (Kd.R_bound hr) (fun k hk => h.out k hk.2.2.1 (Or.inr hk.2.1))) (fun _ hk => hk.1)

/-! ### the two copies, while they are made -/
structure Pst (w2 : World) (c : Crt) (L : List Nat) (b : Option (Value × Value × Nat × Nat)) (q : Option (Value × Value)) (W : World) : Prop where
  hb : Below w2.heap.size w2 W
  nd : L.Nodup
  box : ∀ g ∈ L, W.heap[g]? = some (.cells zC 26) ∧ w2.heap.size ≤ g ∧ ∀ t, b = some t → g < t.2.2.1 ∨ t.2.2.2 ≤ g
  rb : ∀ t, b = some t → w2.heap.size ≤ t.2.2.1 ∧ t.2.2.2 ≤ W.heap.size ∧ Kd.R kSec 38 W t.2.2.1 (fun k => k < t.2.2.2) t.1 c.secs ∧ Kd.R k40 40 W t.2.2.1 (fun k => k < t.2.2.2) t.2.1 c.justs
  rc : ∀ t u, b = some t → q = some u → Kd.R kSec 38 W t.2.2.2 (fun _ => True) u.1 c.secs ∧ Kd.R k40 40 W t.2.2.2 (fun _ => True) u.2 c.justs

theorem Pst.start {w2 W : World} (c : Crt) (hb : Below w2.heap.size w2 W) : Pst w2 c [] none none W :=
  ⟨hb, List.nodup_nil, fun g hg => by (cases hg), fun t ht => by (cases ht), fun t u ht => by (cases ht)⟩
theorem Pst.below {w2 W W' : World} {c : Crt} {L : List Nat} {b : Option (Value × Value × Nat × Nat)} {q : Option (Value × Value)} (h : Pst w2 c L b q W) (hb : Below W.heap.size W W') : Pst w2 c L b q W' :=
  ⟨below_step h.hb hb, h.nd, fun g hg => ⟨(hb.block g (lt_of_heap (h.box g hg).1)).trans (h.box g hg).1, (h.box g hg).2⟩, fun t ht => ⟨(h.rb t ht).1, Nat.le_trans (h.rb t ht).2.1 hb.size, Kd.R_below (h.rb t ht).2.2.1 hb, Kd.R_below (h.rb t ht).2.2.2 hb⟩,
   fun t u ht hu => ⟨Kd.R_below (h.rc t u ht hu).1 hb, Kd.R_below (h.rc t u ht hu).2 hb⟩⟩
theorem Pst.alloc {w2 W : World} {c : Crt} {L : List Nat} {b : Option (Value × Value × Nat × Nat)} {q : Option (Value × Value)} (h : Pst w2 c L b q W) : Pst w2 c (W.heap.size :: L) b q (W.alloc (.cells zC 26)) := by
  have h2 := h.below (below_alloc (Below.refl W.heap.size W) (.cells zC 26))
  refine ⟨h2.hb, List.nodup_cons.2 ⟨fun hm => ?_, h.nd⟩, fun g hg => ?_, h2.rb, h2.rc⟩
  · exact absurd (lt_of_heap (h.box _ hm).1) (Nat.lt_irrefl _)
  · rcases List.mem_cons.1 hg with rfl | hg
    · exact ⟨heap_alloc_new W _, h.hb.size, fun t ht => Or.inr (h.rb t ht).2.1⟩
    · exact h2.box g hg
theorem Pst.call1 {w2 W W' : World} {c : Crt} {L : List Nat} (h : Pst w2 c L none none W) (hb : Below W.heap.size W W') {S J : Value} (hS : Kd.R kSec 38 W' W.heap.size (fun _ => True) S c.secs) (hJ : Kd.R k40 40 W' W.heap.size (fun _ => True) J c.justs) :
    Pst w2 c L (some (S, J, W.heap.size, W'.heap.size)) none W' := by
  have h2 := h.below hb
  refine ⟨h2.hb, h2.nd, fun g hg => ⟨(h2.box g hg).1, (h2.box g hg).2.1, fun t ht => ?_⟩, fun t ht => ?_, fun t u ht hu => by (cases hu)⟩
  · cases ht
    exact Or.inl (lt_of_heap (h.box g hg).1)
  · cases ht
    exact ⟨h.hb.size, Nat.le_refl _, Kd.R_mono (Kd.R_bound hS) (fun k hk => hk.2.2.1), Kd.R_mono (Kd.R_bound hJ) (fun k hk => hk.2.2.1)⟩
theorem Pst.call2 {w2 W W' : World} {c : Crt} {L : List Nat} {t : Value × Value × Nat × Nat} (h : Pst w2 c L (some t) none W) (hb : Below W.heap.size W W') {S J : Value} (hS : Kd.R kSec 38 W' W.heap.size (fun _ => True) S c.secs) (hJ : Kd.R k40 40 W' W.heap.size (fun _ => True) J c.justs) :
    Pst w2 c L (some t) (some (S, J)) W' := by
  have h2 := h.below hb
  refine ⟨h2.hb, h2.nd, h2.box, h2.rb, fun t' u ht hu => ?_⟩
  cases ht
  cases hu
  exact ⟨Kd.R_lower hS (h.rb t rfl).2.1, Kd.R_lower hJ (h.rb t rfl).2.1⟩
theorem Pst.swap {w2 W : World} {c : Crt} {g g' : Nat} {b : Option (Value × Value × Nat × Nat)} {q : Option (Value × Value)} (h : Pst w2 c [g, g'] b q W) : Pst w2 c [g', g] b q W :=
  ⟨h.hb, by have := h.nd; simp at this ⊢; exact fun e => this e.symm, fun k hk => h.box k (by simp at hk ⊢; exact hk.symm), h.rb, h.rc⟩
theorem Pst.re {w2 W : World} {c : Crt} {L L' : List Nat} {b : Option (Value × Value × Nat × Nat)} {q : Option (Value × Value)} (h : Pst w2 c L b q W) (e : L = L') : Pst w2 c L' b q W := e ▸ h
theorem R_row {α : Type} {d : Kd α} {e : Nat} {w : World} {base : Nat} {ok : Nat → Prop} {v : Value} {xs : List α} (h : d.R e w base ok v xs) {g t : Nat} {old : Array Value} (hg : w.heap[g]? = some (.cells old t (0, 0))) (ht : (e :: d.E).all (fun q => q != t) = true) (cs : Array Value) :
    d.R e (w.setRow g cs) base ok v xs := by
  have h1 := Kd.R_types h hg (fun q hq => by have := List.all_eq_true.1 ht q hq; simpa using this)
  exact Kd.R_mono (Kd.R_step h1 (fun k hk _ => setRow_other w g k cs hk.2)) (fun _ hk => hk.1)
theorem Pst.row {w2 W : World} {c : Crt} {g : Nat} {L : List Nat} {b : Option (Value × Value × Nat × Nat)} {q : Option (Value × Value)} (h : Pst w2 c (g :: L) b q W) (cs : Array Value) : Pst w2 c L b q (W.setRow g cs) := by
  have hg := h.box g (by simp)
  have hn := List.nodup_cons.1 h.nd
  refine ⟨below_setRow h.hb hg.2.1 cs, hn.2, fun k hk => ?_, fun t ht => ?_, fun t u ht hu => ?_⟩
  · refine ⟨?_, (h.box k (List.mem_cons_of_mem _ hk)).2⟩
    rw [setRow_other W g k cs (fun e => hn.1 (e ▸ hk))]
    exact (h.box k (List.mem_cons_of_mem _ hk)).1
  · obtain ⟨h1, h2, h3, h4⟩ := h.rb t ht
    exact ⟨h1, by rw [setRow_size]; exact h2, R_row h3 hg.1 (by decide) cs, R_row h4 hg.1 (by decide) cs⟩
  · obtain ⟨h1, h2⟩ := h.rc t u ht hu
    exact ⟨R_row h1 hg.1 (by decide) cs, R_row h2 hg.1 (by decide) cs⟩

/-- made -/
structure Two (w2 : World) (c : Crt) (dg : Nat → Int) (AS : Option Addr) (cS : Nat) (AJ : Option Addr) (cJ : Nat) (AS' : Option Addr) (cS' : Nat) (AJ' : Option Addr) (cJ' gb gc lo hi : Nat) (W : World) : Prop where
  hb : Below w2.heap.size w2 W
  hlo : w2.heap.size ≤ lo
  bs : Kd.R kSec 38 W lo (fun k => k < hi) (.slice AS c.secs.length cS) c.secs
  bj : Kd.R k40 40 W lo (fun k => k < hi) (.slice AJ c.justs.length cJ) c.justs
  cs : Kd.R kSec 38 W hi (fun _ => True) (.slice AS' c.secs.length cS') c.secs
  cj : Kd.R k40 40 W hi (fun _ => True) (.slice AJ' c.justs.length cJ') c.justs
  xb : W.heap[gb]? = some (.cells (litC dg (.slice AS c.secs.length cS) (.slice AJ c.justs.length cJ)) 26)
  xc : W.heap[gc]? = some (.cells (litC dg (.slice AS' c.secs.length cS') (.slice AJ' c.justs.length cJ')) 26)
  nc : gc < lo ∨ hi ≤ gc

theorem Pst.done {w2 W : World} {c : Crt} {dg : Nat → Int} {AS AJ AS' AJ' : Option Addr} {cS cJ cS' cJ' gb gc lo hi : Nat}
    (h : Pst w2 c [gb, gc] (some (.slice AS c.secs.length cS, .slice AJ c.justs.length cJ, lo, hi)) (some (.slice AS' c.secs.length cS', .slice AJ' c.justs.length cJ')) W) :
    Two w2 c dg AS cS AJ cJ AS' cS' AJ' cJ' gb gc lo hi ((W.setRow gb (litC dg (.slice AS c.secs.length cS) (.slice AJ c.justs.length cJ))).setRow gc (litC dg (.slice AS' c.secs.length cS') (.slice AJ' c.justs.length cJ'))) := by
  have hn := List.nodup_cons.1 h.nd
  have hne : gb ≠ gc := fun e => hn.1 (by simp [e])
  have hb := h.box gb (by simp)
  have hc := h.box gc (by simp)
  have h1 := h.row (litC dg (.slice AS c.secs.length cS) (.slice AJ c.justs.length cJ))
  have hc1 := h1.box gc (by simp)
  have h2 := h1.row (litC dg (.slice AS' c.secs.length cS') (.slice AJ' c.justs.length cJ'))
  obtain ⟨r1, r2, r3, r4⟩ := h2.rb _ rfl
  obtain ⟨r5, r6⟩ := h2.rc _ _ rfl rfl
  refine ⟨h2.hb, r1, r3, r4, r5, r6, ?_, setRow_heap _ gc _ _ 26 (0, 0) hc1.1, hc.2.2 _ rfl⟩
  rw [setRow_other _ gc gb _ hne]
  exact setRow_heap W gb _ _ 26 (0, 0) hb.1
end Go.Proofs.Ytbemdnjcnmponaa.CopiesP
