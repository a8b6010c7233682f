/- A certificate that may be still may be with a justification less and with places set to 0: the plain law; a world that is changed to 0 in places of sets alone. No condition. -/
import Derived.Test.YtbemdnjcnmponaaRefSame
import Derived.Deep.MidRow
namespace Go.Proofs.Ytbemdnjcnmponaa.LessP
open Go.RowKit Go.Proofs.YtbemdnjcnmponaaW.PrintWords Go.Proofs.YtbemdnjcnmponaaW.PrintLast Go.Proofs.YtbemdnjcnmponaaW.PrintMore Go.Proofs.Ytbemdnjcnmponaa.PCertSame Go.Proofs.Ytbemdnjcnmponaa.Data Go.Proofs.Ytbemdnjcnmponaa.Within Go.Proofs.Ytbemdnjcnmponaa.Section Go.Proofs.Ytbemdnjcnmponaa.Plain Go.Proofs.Ytbemdnjcnmponaa.Check Go.Proofs.Ytbemdnjcnmponaa.Awake Go.Proofs.Ytbemdnjcnmponaa.Laws1 Go.Proofs.Ytbemdnjcnmponaa.Lit Go.Proofs.Ytbemdnjcnmponaa.SameP Go.Proofs.Ytbemdnjcnmponaa.Same Go.Proofs.Ytbemdnjcnmponaa.Copy Go.Proofs.Ytbemdnjcnmponaa.RefSame
set_option linter.unusedVariables false
set_option linter.unusedSimpArgs false

theorem few_parts {c : Crt} (h : fewOk c = true) : c.secs.length ≤ 40 ∧ c.justs.length ≤ 40 ∧ SmallS c.secs := by
  unfold fewOk at h
  simp only [Bool.and_eq_true, decide_eq_true_eq, List.all_eq_true] at h
  exact ⟨h.1.1, h.1.2, fun s hs => h.2 s hs⟩
theorem byt_of {c : Crt} (hg : c.Good) : Byt (fun i => c.dig.getD i 0) := by
  intro i
  by_cases hi : i < c.dig.length
  · have : c.dig.getD i 0 = c.dig[i] := by simp [hi]
    show 0 ≤ c.dig.getD i 0 ∧ c.dig.getD i 0 < 256
    rw [this]
    exact hg.dig _ (List.getElem_mem hi)
  · have : c.dig.getD i 0 = 0 := by rw [List.getD_eq_getElem?_getD, List.getElem?_eq_none (by omega)]; rfl
    show 0 ≤ c.dig.getD i 0 ∧ c.dig.getD i 0 < 256
    rw [this]; omega
abbrev zC : Array Value := litC (fun _ => 0) (.slice none 0 0) (.slice none 0 0)
theorem copy_is (c : Crt) (dg : Nat → Int) (A B : Option Addr) (a b : Nat) (w : World) (h : CrtVal w c (litC dg (.slice A c.secs.length a) (.slice B c.justs.length b)) A a B b) (hf : fewOk c = true) :
    Calls Try.prog 12 #[.agg (litC dg (.slice A c.secs.length a) (.slice B c.justs.length b))] w fun e w' => ∃ AS cS AJ cJ, e = .returned (.agg (litC dg (.slice AS c.secs.length cS) (.slice AJ c.justs.length cJ))) ∧
      Kd.R kSec 38 w' w.heap.size (fun _ => True) (.slice AS c.secs.length cS) c.secs ∧ Kd.R k40 40 w' w.heap.size (fun _ => True) (.slice AJ c.justs.length cJ) c.justs ∧ Below w.heap.size w w' := by
  refine (copy_any c dg A B a b w h (few_parts hf).1 (few_parts hf).2.1 (few_parts hf).2.2).mono ?_
  rintro e w' ⟨S, J, rfl, hS, hJ, hb⟩
  obtain ⟨AS, cS, rfl, l1, r1⟩ := Kd.R_reads hS
  obtain ⟨AJ, cJ, rfl, l2, r2⟩ := Kd.R_reads hJ
  exact ⟨AS, cS, AJ, cJ, rfl, hS, hJ, hb⟩
theorem R_place {α : Type} {d : Kd α} {e : Nat} {w : World} {base : Nat} {ok : Nat → Prop} {v : Value} {xs : List α} (h : d.R e w base ok v xs) {j : Nat} {x : α} (hx : xs[j]? = some x) :
    ∃ g cap cells cs, v = .slice (some ⟨g, 0, none⟩) xs.length cap ∧ ok g ∧ base ≤ g ∧ w.heap[g]? = some (.cells cells e (0, 0)) ∧ d.M w base ok x cs ∧ ∀ k u, cs[k]? = some u → k < d.sz → cells[j * d.sz + k]? = some u := by
  obtain ⟨h0, inner, ⟨hlen, hv⟩, hr⟩ := h
  have hj : j < xs.length := (List.getElem?_eq_some_iff.1 hx).1
  rcases hv with ⟨_, hn⟩ | ⟨g, cap, cur, rfl, hg, hh, h1, h2, h3, h4⟩
  · omega
  refine ⟨g, cap, cur, _, rfl, h0 g rfl, hg, hh, d.M_mono (fun k hk => hk.1) (hr.2 j x hx), fun k u hu hk => ?_⟩
  rw [List.getElem?_take_of_lt hk, List.getElem?_drop, ← h4, List.getElem?_take_of_lt] at hu
  · rw [← Array.getElem?_toList]; exact hu
  · have : (j + 1) * d.sz ≤ xs.length * d.sz := Nat.mul_le_mul_right _ hj
    rw [Nat.succ_mul] at this
    omega
def IsSl (W0 : World) (p : Addr) (A : Option Addr) (n c : Nat) : Prop := p.spot = none ∧ ∃ cells e, W0.heap[p.block]? = some (.cells cells e (0, 0)) ∧ cells[p.off]? = some (.slice A n c)
theorem R_row {α : Type} {d : Kd α} {e : Nat} {w : World} {base : Nat} {ok : Nat → Prop} {v : Value} {xs : List α} (h : d.R e w base ok v xs) {g t : Nat} {old : Array Value} (hg : w.heap[g]? = some (.cells old t (0, 0))) (ht : (e :: d.E).all (fun q => q != t) = true) (cs : Array Value) :
    d.R e (w.setRow g cs) base ok v xs := by
  have h1 := Kd.R_types h hg (fun q hq => by have := List.all_eq_true.1 ht q hq; simpa using this)
  exact Kd.R_mono (Kd.R_step h1 (fun k hk _ => setRow_other w g k cs hk.2)) (fun _ hk => hk.1)
/-! ### the plain law -/
structure Zl (l l' : List Int) : Prop where
  len : l'.length = l.length
  mem : ∀ x ∈ l', x ∈ l ∨ x = 0
structure Z (s s' : Sec) : Prop where
  entry : s'.entry = s.entry ∨ s'.entry = 0
  exit : s'.exit = s.exit ∨ s'.exit = 0
  held : Zl s.held s'.held
  le : s'.le = s.le ∨ s'.le = 0
  lx : s'.lx = s.lx ∨ s'.lx = 0
  live : Zl s.live s'.live

theorem out0 (all : Int) : (out 0 all == 0) = true := by
  unfold out bits
  simp
  first | rfl | decide | (rw [IntKind.wrap_u32]; rfl)
theorem allIn_zl {all : Int} {l l' : List Int} (h : Zl l l') (hl : allIn all l = true) : allIn all l' = true := by
  unfold allIn at hl ⊢
  rw [List.all_eq_true] at hl ⊢
  intro x hx
  rcases h.mem x hx with h1 | rfl
  · exact hl x h1
  · exact out0 all
theorem allIn_two {all x y x' y' : Int} (hx : x' = x ∨ x' = 0) (hy : y' = y ∨ y' = 0) (hl : allIn all [x, y] = true) : allIn all [x', y'] = true := by
  refine allIn_zl (l := [x, y]) ⟨rfl, fun u hu => ?_⟩ hl
  simp only [List.mem_cons, List.not_mem_nil, or_false] at hu ⊢
  rcases hu with rfl | rfl
  · rcases hx with h | h
    · exact Or.inl (Or.inl h)
    · exact Or.inr h
  · rcases hy with h | h
    · exact Or.inl (Or.inr h)
    · exact Or.inr h
theorem secOk_z {s s' : Sec} (h : Z s s') (hs : secOk s = true) : secOk s' = true := by
  unfold secOk at hs ⊢
  simp only [Bool.and_eq_true, decide_eq_true_eq, beq_iff_eq] at hs ⊢
  obtain ⟨⟨⟨⟨⟨⟨h1, h2⟩, h3⟩, h4⟩, h5⟩, h6⟩, h7⟩ := hs
  exact ⟨⟨⟨⟨⟨⟨by rw [h.held.len]; exact h1, by rw [h.held.len]; exact h2⟩, by rw [h.held.len, h.live.len]; exact h3⟩, allIn_two h.entry h.exit h4⟩, allIn_zl h.held h5⟩, allIn_two h.le h.lx h6⟩, allIn_zl h.live h7⟩
theorem badAt_all {α : Type} (p : α → Bool) : ∀ (l : List α) (i : Int), 0 ≤ i → (¬ 0 ≤ badAt p l i ↔ ∀ x ∈ l, p x = true)
  | [], i, h => by simp [badAt]
  | x :: r, i, h => by
    unfold badAt
    by_cases c : p x = true
    · rw [if_pos c, badAt_all p r (i + 1) (by omega)]
      simp [c]
    · rw [if_neg c]
      simp [c, h]
theorem chk_zero (c : Crt) : (chk c).2 = 0 ↔ (c.secs.length ≠ 0 ∧ c.secs.length ≤ 16 ∧ c.justs.length ≤ 16 ∧ (∀ s ∈ c.secs, secOk s = true) ∧ (∀ j ∈ c.justs, justOk j = true)) := by
  rw [← badAt_all secOk c.secs 0 (by omega), ← badAt_all justOk c.justs 0 (by omega)]
  unfold chk
  repeat' split
  all_goals (simp only; first | omega | (constructor <;> intro h <;> simp_all <;> omega))
theorem chk_ok {c : Crt} (h : (c.secs.length ≠ 0 ∧ c.secs.length ≤ 16 ∧ c.justs.length ≤ 16 ∧ (∀ s ∈ c.secs, secOk s = true) ∧ (∀ j ∈ c.justs, justOk j = true))) : chk c = (0, 0) := by
  obtain ⟨h1, h2, h3, h4, h5⟩ := h
  rw [← badAt_all secOk c.secs 0 (by omega)] at h4
  rw [← badAt_all justOk c.justs 0 (by omega)] at h5
  unfold chk
  rw [if_neg h1, if_neg (by omega), if_neg h4, if_neg h5]

/-! ### a world that is changed to 0 in places of sets alone -/
/-- a place that holds a set, in a row of sets or of sections -/
def IsM (w2 W0 : World) (p : Addr) : Prop := w2.heap.size ≤ p.block ∧ p.spot = none ∧ ∃ cells e x, (e = 35 ∨ e = 38) ∧ W0.heap[p.block]? = some (.cells cells e (0, 0)) ∧ cells[p.off]? = some (.int .u32 x)
structure Cz (w2 W0 W : World) : Prop where
  hb : Below w2.heap.size w2 W
  size : W0.heap.size ≤ W.heap.size
  same : ∀ (k : Nat) (cs : Array Value) (e : Nat), W0.heap[k]? = some (.cells cs e (0, 0)) → e ≠ 35 → e ≠ 38 → W.heap[k]? = some (.cells cs e (0, 0))
  keep : ∀ (k : Nat) (cs : Array Value) (e : Nat), W0.heap[k]? = some (.cells cs e (0, 0)) → ∃ cs', W.heap[k]? = some (.cells cs' e (0, 0)) ∧ cs'.size = cs.size ∧ ∀ (j : Nat) (v : Value), cs[j]? = some v → cs'[j]? = some v ∨ ∃ x, v = .int .u32 x ∧ cs'[j]? = some (.int .u32 0)

theorem Cz.start {w2 W0 : World} (hb : Below w2.heap.size w2 W0) : Cz w2 W0 W0 := ⟨hb, Nat.le_refl _, fun _ _ _ h _ _ => h, fun k cs e h => ⟨cs, h, rfl, fun _ _ hv => Or.inl hv⟩⟩
theorem Cz.below {w2 W0 W W' : World} (h : Cz w2 W0 W) (hb : Below W.heap.size W W') : Cz w2 W0 W' :=
  ⟨below_step h.hb hb, Nat.le_trans h.size hb.size, fun k cs e hc h1 h2 => (hb.block k (lt_of_heap (h.same k cs e hc h1 h2))).trans (h.same k cs e hc h1 h2), fun k cs e hc => by
    obtain ⟨cs', h1, h2⟩ := h.keep k cs e hc
    exact ⟨cs', (hb.block k (lt_of_heap h1)).trans h1, h2⟩⟩
theorem Cz.sl {w2 W0 W : World} (h : Cz w2 W0 W) {p : Addr} {A : Option Addr} {n c : Nat} (hp : IsSl W0 p A n c) : W.cell? p = some (.slice A n c) ∧ W.frozen? p = false := by
  obtain ⟨g, o, s⟩ := p
  obtain ⟨hs, cells, e, h1, h2⟩ := hp
  cases hs
  obtain ⟨cs', h3, _, h4⟩ := h.keep g cells e h1
  refine ⟨?_, frozen_of_row W g o cs' e h3⟩
  rw [cell_of_row W g o cs' e (0, 0) h3]
  rcases h4 o _ h2 with h5 | ⟨x, h5, _⟩
  · exact h5
  · cases h5
theorem Cz.num {w2 W0 W : World} (h : Cz w2 W0 W) {p : Addr} (hp : IsM w2 W0 p) : ∃ v, W.cell? p = some v ∧ W.frozen? p = false := by
  obtain ⟨g, o, s⟩ := p
  obtain ⟨_, hs, cells, e, x, _, h1, h2⟩ := hp
  cases hs
  obtain ⟨cs', h3, h5, h4⟩ := h.keep g cells e h1
  have ho : o < cells.size := (Array.getElem?_eq_some_iff.1 h2).1
  exact ⟨cs'[o]'(by omega), by rw [cell_of_row W g o cs' e (0, 0) h3]; exact Array.getElem?_eq_getElem _, frozen_of_row W g o cs' e h3⟩
theorem Cz.put {w2 W0 W : World} (h : Cz w2 W0 W) {p : Addr} (hp : IsM w2 W0 p) : Cz w2 W0 (W.setCell p (.int .u32 0)) := by
  obtain ⟨g, o, s⟩ := p
  obtain ⟨hlo, hs, cells, e, x, he, h1, h2⟩ := hp
  cases hs
  have hlo' : w2.heap.size ≤ g := hlo
  have h1' : W0.heap[g]? = some (.cells cells e (0, 0)) := h1
  refine ⟨h.hb.setCell (p := ⟨g, o, none⟩) hlo _, by simpa [World.setCell] using h.size, fun k cs e' hc n1 n2 => ?_, fun k cs e' hc => ?_⟩
  · have hkg : k ≠ g := fun hh => by
      subst hh
      have h6 := h1'.symm.trans hc
      injection h6 with h6
      injection h6 with _ h7 _
      rcases he with he | he
      · exact n1 (h7 ▸ he)
      · exact n2 (h7 ▸ he)
    rw [heap_setCell_other W _ k _ (by show k ≠ g; exact hkg)]; exact h.same k cs e' hc n1 n2
  · by_cases hkg : k = g
    · subst hkg
      obtain ⟨cs', h3, h5, h4⟩ := h.keep k cs e' hc
      refine ⟨_, heap_setCell_same W k o cs' e' _ h3, by simp [h5], fun j u hu => ?_⟩
      have h6 := h1'.symm.trans hc
      injection h6 with h6
      injection h6 with h6 _ _
      subst h6
      by_cases hjo : o = j
      · subst hjo
        have h7 : cells[o]? = some (Value.int .u32 x) := h2
        rw [hu] at h7
        injection h7 with h7
        have ho : o < cs'.size := by rw [h5]; exact (Array.getElem?_eq_some_iff.1 hu).1
        exact Or.inr ⟨x, h7, by rw [Array.getElem?_setIfInBounds_self_of_lt ho]⟩
      · rw [Array.getElem?_setIfInBounds_ne hjo]
        exact h4 j u hu
    · obtain ⟨cs', h3, h45⟩ := h.keep k cs e' hc
      exact ⟨cs', by rw [heap_setCell_other W _ k _ (by show k ≠ g; exact hkg)]; exact h3, h45⟩

/-- cells that may have turned to 0 -/
def Zc (cs cs' : List Value) : Prop := cs'.length = cs.length ∧ ∀ (k : Nat) (v : Value), cs[k]? = some v → cs'[k]? = some v ∨ ∃ x, v = .int .u32 x ∧ cs'[k]? = some (.int .u32 0)

theorem R_cz {α : Type} {d : Kd α} {e : Nat} {w2 W0 W : World} {base : Nat} {ok : Nat → Prop} {v : Value} {xs : List α} {Zr : α → α → Prop} (hc : Cz w2 W0 W) (hM : ∀ (o : Nat → Prop) (x : α) (cs cs' : List Value), d.M W0 base o x cs → Zc cs cs' → ∃ x', Zr x x' ∧ d.M W base o x' cs') (h : d.R e W0 base ok v xs) :
    ∃ xs', xs'.length = xs.length ∧ (∀ x' ∈ xs', ∃ x ∈ xs, Zr x x') ∧ d.R e W base ok v xs' := by
  obtain ⟨h0, inner, ⟨hlen, hv⟩, hr⟩ := h
  rcases hv with ⟨rfl, hn⟩ | ⟨g, cap, cur, rfl, hg, hh, h1, h2, h3, h4⟩
  · exact ⟨[], by simp [hn], fun x hx => (by cases hx), Kd.R_nil d e W base ok⟩
  obtain ⟨cur', g1, g2, g3⟩ := hc.keep g cur e hh
  have key : ∀ (i j : Nat), (List.range xs.length)[i]? = some j → ∃ x' : α, ∃ x, xs[j]? = some x ∧ Zr x x' ∧ d.M W base (fun k => ok k ∧ some k ≠ (Value.slice (some ⟨g, 0, none⟩) xs.length cap).ownBlock) x' (((cur'.toList.take (xs.length * d.sz)).drop (j * d.sz)).take d.sz) := by
    intro i j hij
    have hi : i < xs.length := by have := (List.getElem?_eq_some_iff.1 hij).1; simpa using this
    have : j = i := by rw [List.getElem?_range hi] at hij; injection hij with hij; exact hij.symm
    subst this
    have hx := List.getElem?_eq_getElem hi
    have hm := hr.2 j _ hx
    obtain ⟨x', z1, z2⟩ := hM _ _ _ (((cur'.toList.take (xs.length * d.sz)).drop (j * d.sz)).take d.sz) hm ⟨by rw [← h4]; simp [g2], fun k u hu => by
      have hk : k < d.sz := by have := (List.getElem?_eq_some_iff.1 hu).1; simp at this; omega
      have hjk : j * d.sz + k < xs.length * d.sz := by
        have : (j + 1) * d.sz ≤ xs.length * d.sz := Nat.mul_le_mul_right _ hi
        rw [Nat.succ_mul] at this
        omega
      rw [List.getElem?_take_of_lt hk, List.getElem?_drop, ← h4, List.getElem?_take_of_lt hjk, Array.getElem?_toList] at hu
      rw [List.getElem?_take_of_lt hk, List.getElem?_drop, List.getElem?_take_of_lt hjk, Array.getElem?_toList]
      exact g3 _ u hu⟩
    exact ⟨x', _, hx, z1, z2⟩
  obtain ⟨xs', k1, k2⟩ := exists_list (List.range xs.length) key
  have k1' : xs'.length = xs.length := by rw [k1, List.length_range]
  refine ⟨xs', k1', fun x' hx' => ?_, ?_⟩
  · obtain ⟨j, hj⟩ := List.mem_iff_getElem?.1 hx'
    have hjl : j < xs.length := by have := (List.getElem?_eq_some_iff.1 hj).1; omega
    obtain ⟨x, q1, q2, _⟩ := k2 j j x' (List.getElem?_range hjl) hj
    exact ⟨x, List.mem_of_getElem? q1, q2⟩
  · have hl' : cur'.toList.length = cap * d.sz := by rw [← h3, ← g2]; simp
    refine ⟨h0, cur'.toList.take (xs.length * d.sz), ⟨?_, Or.inr ⟨g, cap, cur', by rw [k1'], hg, g1, by omega, h2, by rw [g2]; exact h3, by rw [k1']⟩⟩, ?_, fun j x' hx' => ?_⟩
    · rw [k1', List.length_take, hl']
      exact Nat.min_eq_left (Nat.mul_le_mul_right _ h1)
    · rw [k1', List.length_take, hl']
      exact Nat.min_eq_left (Nat.mul_le_mul_right _ h1)
    · have hjl : j < xs.length := by have := (List.getElem?_eq_some_iff.1 hx').1; omega
      obtain ⟨x, _, _, q3⟩ := k2 j j x' (List.getElem?_range hjl) hx'
      exact q3

theorem zc_one {u : Value} {cs' : List Value} (h : Zc [u] cs') : ∃ u', cs' = [u'] ∧ (u' = u ∨ ∃ x, u = .int .u32 x ∧ u' = .int .u32 0) := by
  obtain ⟨h1, h2⟩ := h
  match cs', h1 with
  | [u'], _ =>
    refine ⟨u', rfl, ?_⟩
    rcases h2 0 u rfl with h | ⟨x, h3, h⟩
    · injection h with h; exact Or.inl h
    · injection h with h; exact Or.inr ⟨x, h3, h⟩
theorem zc_cons {u : Value} {cs cs' : List Value} (h : Zc (u :: cs) cs') : ∃ u' r, cs' = u' :: r ∧ (u' = u ∨ ∃ x, u = .int .u32 x ∧ u' = .int .u32 0) ∧ Zc cs r := by
  obtain ⟨h1, h2⟩ := h
  match cs', h1 with
  | u' :: r, h1 =>
    refine ⟨u', r, rfl, ?_, by simpa using h1, fun k v hv => h2 (k + 1) v hv⟩
    rcases h2 0 u rfl with h | ⟨x, h3, h⟩
    · injection h with h; exact Or.inl h
    · injection h with h; exact Or.inr ⟨x, h3, h⟩

theorem ints_cz {w2 W0 W : World} {base : Nat} {ok : Nat → Prop} {v : Value} {l : List Int} (hc : Cz w2 W0 W) (h : Kd.R (Kd.int .u32) 35 W0 base ok v l) : ∃ l', Zl l l' ∧ Kd.R (Kd.int .u32) 35 W base ok v l' := by
  obtain ⟨l', h1, h2, h3⟩ := R_cz (Zr := fun x x' => x' = x ∨ x' = 0) hc (fun o x cs cs' hm hz => by
    have hm' : cs = [Value.int .u32 x] := hm
    subst hm'
    obtain ⟨u', rfl, hu⟩ := zc_one hz
    rcases hu with rfl | ⟨y, hy, rfl⟩
    · exact ⟨x, Or.inl rfl, rfl⟩
    · exact ⟨0, Or.inr rfl, rfl⟩) h
  exact ⟨l', ⟨h1, fun x' hx' => by
    obtain ⟨x, hx, hz⟩ := h2 x' hx'
    rcases hz with rfl | hz
    · exact Or.inl hx
    · exact Or.inr hz⟩, h3⟩
theorem num_cz {x : Int} {u' : Value} (h : u' = .int .u32 x ∨ ∃ y, (Value.int .u32 x) = .int .u32 y ∧ u' = .int .u32 0) : ∃ x', (x' = x ∨ x' = 0) ∧ u' = .int .u32 x' := by
  rcases h with h | ⟨_, _, h⟩
  · exact ⟨x, Or.inl rfl, h⟩
  · exact ⟨0, Or.inr rfl, h⟩
theorem sl_cz {A : Option Addr} {n c : Nat} {u' : Value} (h : u' = .slice A n c ∨ ∃ y, (Value.slice A n c) = .int .u32 y ∧ u' = .int .u32 0) : u' = .slice A n c := by
  rcases h with h | ⟨_, h, _⟩
  · exact h
  · cases h
theorem secs_cz {w2 W0 W : World} {base : Nat} {ok : Nat → Prop} {v : Value} {l : List Sec} (hc : Cz w2 W0 W) (h : Kd.R kSec 38 W0 base ok v l) : ∃ l', l'.length = l.length ∧ (∀ s' ∈ l', ∃ s ∈ l, Z s s') ∧ Kd.R kSec 38 W base ok v l' := by
  refine R_cz hc (fun o s cs cs' hm hz => ?_) h
  obtain ⟨_, _, rfl, rfl, _, _, rfl, rfl, _, _, rfl, ⟨v1, rfl, r1⟩, _, _, rfl, rfl, _, _, rfl, rfl, v2, rfl, r2⟩ := hm
  obtain ⟨A1, c1, rfl⟩ := Kd.R_slice r1
  obtain ⟨A2, c2, rfl⟩ := Kd.R_slice r2
  obtain ⟨u1, t1, rfl, g1, hz⟩ := zc_cons hz
  obtain ⟨u2, t2, rfl, g2, hz⟩ := zc_cons hz
  obtain ⟨u3, t3, rfl, g3, hz⟩ := zc_cons hz
  obtain ⟨u4, t4, rfl, g4, hz⟩ := zc_cons hz
  obtain ⟨u5, t5, rfl, g5, hz⟩ := zc_cons hz
  obtain ⟨u6, rfl, g6⟩ := zc_one hz
  obtain ⟨y1, k1, rfl⟩ := num_cz g1
  obtain ⟨y2, k2, rfl⟩ := num_cz g2
  obtain ⟨y4, k4, rfl⟩ := num_cz g4
  obtain ⟨y5, k5, rfl⟩ := num_cz g5
  obtain rfl := sl_cz g3
  obtain rfl := sl_cz g6
  obtain ⟨l1, z1, q1⟩ := ints_cz hc r1
  obtain ⟨l2, z2, q2⟩ := ints_cz hc r2
  exact ⟨⟨y1, y2, l1, y4, y5, l2⟩, ⟨k1, k2, z1, k4, k5, z2⟩, [_], _, rfl, rfl, [_], _, rfl, rfl, [_], _, rfl, ⟨_, rfl, q1⟩, [_], _, rfl, rfl, [_], _, rfl, rfl, _, rfl, q2⟩

/-! ### what is made, and what of it is told at the end -/
structure Mk (w2 : World) (c : Crt) (dd : Nat → Int) (AS : Option Addr) (cS : Nat) (AJ : Option Addr) (cJ gb m : Nat) (W : World) : Prop where
  hb : Below w2.heap.size w2 W
  bs : Kd.R kSec 38 W w2.heap.size (fun _ => True) (.slice AS c.secs.length cS) c.secs
  bj : Kd.R k40 40 W w2.heap.size (fun _ => True) (.slice AJ c.justs.length cJ) c.justs
  xb : W.heap[gb]? = some (.cells (litC dd (.slice AS c.secs.length cS) (.slice AJ m cJ)) 26)
  hm : m ≤ c.justs.length

theorem C_take {α : Type} {d : Kd α} {w : World} {A : Option Addr} {n : Nat} {xs : List α} (h : d.C w A n xs) (m : Nat) (hm : m ≤ n) : d.C w A m (xs.take m) := by
  obtain ⟨h1, h2, h3⟩ := h
  refine ⟨by rw [List.length_take]; omega, by omega, fun hp => ?_⟩
  obtain ⟨ad, e, hc⟩ := h3 (by omega)
  refine ⟨ad, e, fun j p hj => hc j p ?_⟩
  have hjm : j < m := by have := (List.getElem?_eq_some_iff.1 hj).1; rw [List.length_take] at this; omega
  rw [List.getElem?_take_of_lt hjm] at hj
  exact hj

theorem Mk.final {w2 W0 W : World} {c : Crt} {dd : Nat → Int} {AS AJ : Option Addr} {cS cJ gb m : Nat} (h : Mk w2 c dd AS cS AJ cJ gb m W0) (hz : Cz w2 W0 W) (hk : (chk c).2 = 0) :
    ∃ c' : Crt, chk c' = (0, 0) ∧ Short c' ∧ CrtVal W c' (litC dd (.slice AS c'.secs.length cS) (.slice AJ c'.justs.length cJ)) AS cS AJ cJ ∧ W.heap[gb]? = some (.cells (litC dd (.slice AS c'.secs.length cS) (.slice AJ c'.justs.length cJ)) 26) := by
  obtain ⟨l', h1, h2, h3⟩ := secs_cz hz h.bs
  obtain ⟨k1, k2, k3, k4, k5⟩ := (chk_zero c).1 hk
  have hj : Kd.R k40 40 W w2.heap.size (fun _ => True) (.slice AJ c.justs.length cJ) c.justs := by
    refine Kd.R_mono (Kd.R_move (Kd.R_bound h.bj) (fun k hk => ?_)) (fun _ _ => trivial)
    obtain ⟨_, _, _, q, hq, cells, hcell⟩ := hk
    have : q = 40 := by
      rcases List.mem_cons.1 hq with h | h
      · exact h
      · exact absurd h (by simp [k40, Kd.iso, Kd.pair, Kd.int, Kd.scalar])
    subst this
    rw [hcell]
    exact hz.same k cells 40 hcell (by decide) (by decide)
  rw [← h1] at h3
  have hlm : (c.justs.take m).length = m := by rw [List.length_take]; have := h.hm; omega
  have r1 := Kd.R_reads' h3
  have r2 := Kd.R_reads' hj
  refine ⟨⟨c.dig, l', c.justs.take m⟩, chk_ok ⟨by rw [h1]; exact k1, by rw [h1]; exact k2, ?_, fun s' hs' => ?_, fun j hj => k5 j (List.mem_of_mem_take hj)⟩, ?_, ⟨rfl, rfl, rfl, r1.2.1, ?_, r1.2.2, ?_⟩, ?_⟩
  · show (c.justs.take m).length ≤ 16
    have := h.hm; omega
  · obtain ⟨s, hs, z⟩ := h2 s' hs'
    exact secOk_z z (k4 s hs)
  · exact short_of r1.2.2
  · show (c.justs.take m).length ≤ cJ
    have := r2.2.1; have := h.hm; omega
  · show Kd.C k40 W AJ (c.justs.take m).length (c.justs.take m)
    rw [hlm]
    exact C_take r2.2.2 m h.hm
  · show W.heap[gb]? = some (.cells (litC dd (.slice AS l'.length cS) (.slice AJ (c.justs.take m).length cJ)) 26)
    rw [hlm, h1]
    exact hz.same gb _ 26 h.xb (by decide) (by decide)

/-! ### the places -/
theorem secM_at {w2 w : World} {AS : Option Addr} {n cS : Nat} {l : List Sec} (h : Kd.R kSec 38 w w2.heap.size (fun _ => True) (.slice AS n cS) l) (i : Int) (h0 : 0 ≤ i) (h1 : i < l.length) :
    ∃ ad Ah ch Al cl, AS = some ad ∧ IsM w2 w (ad.add (i.toNat * 6)) ∧ IsSl w ⟨(ad.add (i.toNat * 6)).block, (ad.add (i.toNat * 6)).off + 2, none⟩ Ah (rdS l i).held.length ch ∧ IsSl w ⟨(ad.add (i.toNat * 6)).block, (ad.add (i.toNat * 6)).off + 5, none⟩ Al (rdS l i).live.length cl ∧
      Kd.R (Kd.int .u32) 35 w w2.heap.size (fun _ => True) (.slice Ah (rdS l i).held.length ch) (rdS l i).held ∧ Kd.R (Kd.int .u32) 35 w w2.heap.size (fun _ => True) (.slice Al (rdS l i).live.length cl) (rdS l i).live := by
  have hj : i.toNat < l.length := by omega
  have hx : l[i.toNat]? = some (rdS l i) := by unfold rdS; simp [hj]
  obtain ⟨g, cap, cells, cs, hv, _, hg2, hh, hM, hc⟩ := R_place h hx
  obtain ⟨_, _, rfl, rfl, _, _, rfl, rfl, _, _, rfl, ⟨v1, rfl, r1⟩, _, _, rfl, rfl, _, _, rfl, rfl, v2, rfl, r2⟩ := hM
  obtain ⟨Ah, ch, rfl⟩ := Kd.R_slice r1
  obtain ⟨Al, cl, rfl⟩ := Kd.R_slice r2
  injection hv with hv _ _
  have ha : (⟨g, 0, none⟩ : Addr).add (i.toNat * 6) = ⟨g, i.toNat * 6, none⟩ := by rw [Addr.add_mid, Nat.zero_add]
  refine ⟨_, Ah, ch, Al, cl, hv, ?_, ?_, ?_, r1, r2⟩
  · rw [ha]
    exact ⟨hg2, rfl, cells, 38, _, Or.inr rfl, hh, hc 0 _ rfl (show 0 < 6 by decide)⟩
  · rw [ha]
    exact ⟨rfl, cells, 38, hh, hc 2 _ rfl (show 2 < 6 by decide)⟩
  · rw [ha]
    exact ⟨rfl, cells, 38, hh, hc 5 _ rfl (show 5 < 6 by decide)⟩
theorem numM_at {w2 w : World} {A : Option Addr} {n c : Nat} {l : List Int} (h : Kd.R (Kd.int .u32) 35 w w2.heap.size (fun _ => True) (.slice A n c) l) (i : Nat) (h1 : i < l.length) :
    ∃ g, A = some ⟨g, 0, none⟩ ∧ IsM w2 w ⟨g, i, none⟩ := by
  obtain ⟨g, cap, cells, cs, hv, _, hg2, hh, hM, hc⟩ := R_place h (List.getElem?_eq_getElem h1)
  injection hv with hv _ _
  refine ⟨_, hv, ?_⟩
  have hM' : cs = [Value.int .u32 l[i]] := hM
  subst hM'
  have := hc 0 _ rfl (show 0 < 1 by decide)
  exact ⟨hg2, rfl, cells, 35, _, Or.inl rfl, hh, by have h2 : i * (Kd.int .u32).sz + 0 = i := Nat.mul_one _; rw [h2] at this; exact this⟩

/-! ### the store of a digest -/
def putL : Array Value → Nat → List Value → Array Value
  | cs, _, [] => cs
  | cs, o, v :: r => putL (cs.setIfInBounds o v) (o + 1) r
theorem setCells_heap (g t : Nat) : ∀ (vs : List Value) (o : Nat) (w : World) (cs : Array Value), w.heap[g]? = some (.cells cs t (0, 0)) → (w.setCells g o vs).heap[g]? = some (.cells (putL cs o vs) t (0, 0)) ∧ (w.setCells g o vs).heap.size = w.heap.size ∧ ∀ k, k ≠ g → (w.setCells g o vs).heap[k]? = w.heap[k]?
  | [], _, _, _, h => ⟨h, rfl, fun _ _ => rfl⟩
  | v :: r, o, w, cs, h => by
    obtain ⟨h1, h2, h3⟩ := setCells_heap g t r (o + 1) (w.setCell ⟨g, o, none⟩ v) (cs.setIfInBounds o v) (heap_setCell_same w g o cs t v h)
    exact ⟨h1, h2.trans (by simp [World.setCell]), fun k hk => (h3 k hk).trans (heap_setCell_other w _ k v hk)⟩
theorem setCells_below {n : Nat} {w2 : World} (g : Nat) (hg : n ≤ g) : ∀ (vs : List Value) (o : Nat) (w : World), Below n w2 w → Below n w2 (w.setCells g o vs)
  | [], _, _, h => h
  | v :: r, o, w, h => setCells_below g hg r (o + 1) _ (h.setCell (p := ⟨g, o, none⟩) hg v)
set_option maxRecDepth 100000 in
theorem putL_dig (dg dd : Nat → Int) (S J : Value) : putL (litC dg S J) 0 (litD dd).toList = litC dd S J := by
  kernel_rfl
theorem box_there {w : World} {g : Nat} {dg : Nat → Int} {S J : Value} (dd : Nat → Int) (h : w.heap[g]? = some (.cells (litC dg S J) 26)) : w.there g 0 (litD dd).size := by
  intro j hj
  have hj' : j < 32 := hj
  refine ⟨?_, frozen_of_row w g (0 + j) _ 26 h⟩
  rw [cell_of_row w g (0 + j) _ 26 (0, 0) h]
  have : 0 + j < (litC dg S J).size := by show 0 + j < 34; omega
  rw [Array.getElem?_eq_getElem this]; rfl

/-- behind the copy's store, the digest's, and the row's -/
theorem mk_start {w2 wc : World} {c : Crt} {AS AJ : Option Addr} {cS cJ : Nat} {wa : World} (hwa : Below w2.heap.size w2 wa) (hb : Below wa.heap.size wa wc) (hs : Kd.R kSec 38 wc wa.heap.size (fun _ => True) (.slice AS c.secs.length cS) c.secs) (hj : Kd.R k40 40 wc wa.heap.size (fun _ => True) (.slice AJ c.justs.length cJ) c.justs) (dg : Nat → Int) :
    Mk w2 c dg AS cS AJ cJ wc.heap.size c.justs.length ((wc.alloc (.cells zC 26)).setRow wc.heap.size (litC dg (.slice AS c.secs.length cS) (.slice AJ c.justs.length cJ))) := by
  have hbw := below_step hwa hb
  have ha := below_alloc (Below.refl wc.heap.size wc) (.cells zC 26)
  have hg := heap_alloc_new wc (.cells zC 26)
  exact ⟨below_setRow (below_step hbw ha) hbw.size _, Kd.R_lower (R_row (Kd.R_below hs ha) hg (by decide) _) hwa.size, Kd.R_lower (R_row (Kd.R_below hj ha) hg (by decide) _) hwa.size, setRow_heap _ _ _ _ 26 (0, 0) hg, Nat.le_refl _⟩
theorem R_keep1 {α : Type} {d : Kd α} {e : Nat} {w w' : World} {base : Nat} {v : Value} {xs : List α} (h : d.R e w base (fun _ => True) v xs) {g t : Nat} {old : Array Value} (hg : w.heap[g]? = some (.cells old t (0, 0))) (ht : (e :: d.E).all (fun q => q != t) = true) (hk : ∀ k, k ≠ g → w'.heap[k]? = w.heap[k]?) :
    d.R e w' base (fun _ => True) v xs := by
  have h1 := Kd.R_types h hg (fun q hq => by have := List.all_eq_true.1 ht q hq; simpa using this)
  exact Kd.R_mono (Kd.R_step h1 (fun k hk' _ => hk k hk'.2)) (fun _ _ => trivial)
theorem Mk.dig {w2 W : World} {c : Crt} {dg : Nat → Int} {AS AJ : Option Addr} {cS cJ gb m : Nat} (h : Mk w2 c dg AS cS AJ cJ gb m W) (hg : w2.heap.size ≤ gb) (dd : Nat → Int) : Mk w2 c dd AS cS AJ cJ gb m (W.setCells gb 0 (litD dd).toList) := by
  obtain ⟨h1, h2, h3⟩ := setCells_heap gb 26 (litD dd).toList 0 W _ h.xb
  exact ⟨setCells_below gb hg _ 0 W h.hb, R_keep1 h.bs h.xb (by decide) h3, R_keep1 h.bj h.xb (by decide) h3, by rw [h1, putL_dig], h.hm⟩
theorem Mk.cut {w2 W : World} {c : Crt} {dg : Nat → Int} {AS AJ : Option Addr} {cS cJ gb m : Nat} (h : Mk w2 c dg AS cS AJ cJ gb m W) (hg : w2.heap.size ≤ gb) (m' : Nat) (hm : m' ≤ c.justs.length) : Mk w2 c dg AS cS AJ cJ gb m' (W.setCell ⟨gb, 33, none⟩ (.slice AJ m' cJ)) := by
  have hk : ∀ k, k ≠ gb → (W.setCell ⟨gb, 33, none⟩ (.slice AJ m' cJ)).heap[k]? = W.heap[k]? := fun k hk => heap_setCell_other W _ k _ hk
  exact ⟨h.hb.setCell (p := ⟨gb, 33, none⟩) hg _, R_keep1 h.bs h.xb (by decide) hk, R_keep1 h.bj h.xb (by decide) hk, heap_setCell_same W gb 33 _ 26 _ h.xb, hm⟩
end Go.Proofs.Ytbemdnjcnmponaa.LessP
