/- What is hashed of a row of bytes and what is left: plain laws, and the state on its way; no condition. -/
import Derived.Test.YtldkofdpohaahaaDoorMix
namespace Go.Proofs.YtldkofdpohaahaaDoor.Eat
open Go.RowKit Go.Proofs.YtldkofdpohaahaaDoorW.PrintWords Go.Proofs.YtldkofdpohaahaaDoor.New Go.Proofs.YtldkofdpohaahaaDoor.Plain Go.Proofs.YtldkofdpohaahaaDoor.Spread Go.Proofs.YtldkofdpohaahaaDoor.Rounds Go.Proofs.YtldkofdpohaahaaDoor.Mix
set_option linter.unusedVariables false
def eat : Nat → List Int → List Int → List Int × List Int
  | 0, H, l => (H, l)
  | k + 1, H, l => eat k (compress H (l.take 64)) (l.drop 64)
def eatAll (H l : List Int) : List Int × List Int := eat (l.length / 64) H l
theorem eat_add : ∀ (j k : Nat) (H l : List Int), eat (j + k) H l = eat k (eat j H l).1 (eat j H l).2
  | 0, k, H, l => by rw [Nat.zero_add]; rfl
  | j + 1, k, H, l => by
    rw [show j + 1 + k = (j + k) + 1 by omega]
    exact eat_add j k _ _
theorem eat_app : ∀ (k : Nat) (H l b : List Int), 64 * k ≤ l.length → eat k H (l ++ b) = ((eat k H l).1, (eat k H l).2 ++ b)
  | 0, H, l, b, _ => rfl
  | k + 1, H, l, b, h => by
    have ht : (l ++ b).take 64 = l.take 64 := List.take_append_of_le_length (by omega)
    have hd : (l ++ b).drop 64 = l.drop 64 ++ b := List.drop_append_of_le_length (by omega)
    show eat k (compress H ((l ++ b).take 64)) ((l ++ b).drop 64) = _
    rw [ht, hd]
    exact eat_app k _ _ b (by rw [List.length_drop]; omega)
theorem eat_len : ∀ (k : Nat) (H l : List Int), 64 * k ≤ l.length → (eat k H l).2.length = l.length - 64 * k
  | 0, H, l, _ => by show l.length = _; omega
  | k + 1, H, l, h => by
    have := eat_len k (compress H (l.take 64)) (l.drop 64) (by rw [List.length_drop]; omega)
    show (eat k (compress H (l.take 64)) (l.drop 64)).2.length = _
    rw [this, List.length_drop]; omega
theorem eat_h : ∀ (k : Nat) (H l : List Int), H.length = 8 → (eat k H l).1.length = 8
  | 0, H, l, h => h
  | k + 1, H, l, h => eat_h k _ _ (compress_len _ _)
theorem eat_mem : ∀ (k : Nat) (H l : List Int) (x : Int), x ∈ (eat k H l).2 → x ∈ l
  | 0, H, l, x, h => h
  | k + 1, H, l, x, h => List.mem_of_mem_drop (eat_mem k _ _ x h)
/-- a round of the loop -/
theorem eatAll_step (H l : List Int) (h : 64 ≤ l.length) : eatAll (compress H (l.take 64)) (l.drop 64) = eatAll H l := by
  unfold eatAll
  rw [List.length_drop, show l.length / 64 = (l.length - 64) / 64 + 1 by omega]; rfl
theorem eatAll_end (H l : List Int) (h : l.length < 64) : eatAll H l = (H, l) := by
  unfold eatAll
  rw [show l.length / 64 = 0 by omega]; rfl
/-- more bytes -/
theorem eatAll_app (H m b : List Int) : eatAll (eatAll H m).1 ((eatAll H m).2 ++ b) = eatAll H (m ++ b) := by
  unfold eatAll
  have hl := eat_len (m.length / 64) H m (by omega)
  have ha := eat_app (m.length / 64) H m b (by omega)
  have e : (m ++ b).length / 64 = m.length / 64 + ((eat (m.length / 64) H m).2 ++ b).length / 64 := by
    rw [List.length_append, List.length_append, hl]; omega
  rw [e, eat_add, ha]
theorem eatAll_len (H m : List Int) : (eatAll H m).2.length = m.length % 64 := by
  unfold eatAll; rw [eat_len _ _ _ (by omega)]; omega
theorem eatAll_h (H m : List Int) (h : H.length = 8) : (eatAll H m).1.length = 8 := eat_h _ _ _ h
theorem eatAll_mem (H m : List Int) (x : Int) (h : x ∈ (eatAll H m).2) : x ∈ m := eat_mem _ _ _ x h
def h0L : List Int := [1779033703, 3144134277, 1013904242, 2773480762, 1359893119, 2600822924, 528734635, 1541459225]
theorem h0L_eq : h0 = fun i => h0L.getD i 0 := rfl
/-- bytes -/
def Bytes8 (m : List Int) : Prop := ∀ x ∈ m, 0 ≤ x ∧ x < 256
theorem Bytes8.app {m b : List Int} (h : Bytes8 m) (k : Bytes8 b) : Bytes8 (m ++ b) := fun x hx => (List.mem_append.1 hx).elim (h x) (k x)
theorem ReadsInt.ch {w w' : World} {k : IntKind} {A : Option Addr} {n g : Nat} {xs : List Int} (h : ReadsInt w k A n xs) (hc : Ch g w w') (hne : 0 < n → ∀ ad, A = some ad → ad.block ≠ g) : ReadsInt w' k A n xs :=
  ⟨h.1, h.2.1, fun hn => by
    obtain ⟨ad, e, hr⟩ := h.2.2 hn
    refine ⟨ad, e, fun j hj => ?_⟩
    have hb : (ad.add j).block = ad.block := by unfold Addr.add; split <;> rfl
    exact (hc.cell (by rw [hb]; exact hne hn ad e) (World.block_lt_of_cell? w _ (hr j hj))).trans (hr j hj)⟩
theorem ReadsInt.far {w : World} {k : IntKind} {A : Option Addr} {n g : Nat} {xs : List Int} (h : ReadsInt w k A n xs) (hg : w.heap.size ≤ g) : 0 < n → ∀ ad, A = some ad → ad.block ≠ g := fun hn ad e => by
  obtain ⟨ad', e', hr⟩ := h.2.2 hn
  rw [e] at e'; cases e'
  have := World.block_lt_of_cell? w _ (hr 0 hn)
  have hb : (ad.add 0).block = ad.block := by unfold Addr.add; split <;> rfl
  rw [hb] at this; omega
/-- a digest of m on its way, in block g; the block of what is left meets ok -/
structure St (w : World) (g : Nat) (ok : Nat → Prop) (m : List Int) : Prop where
  row : ∃ A c, w.heap[g]? = some (.cells (stateCells (fun i => (eatAll h0L m).1.getD i 0) (.slice A (eatAll h0L m).2.length c) m.length) 47) ∧ ReadsInt w .u8 A (eatAll h0L m).2.length (eatAll h0L m).2 ∧ (0 < (eatAll h0L m).2.length → ∀ ad, A = some ad → ok ad.block)
  ne : ∀ k, ok k → k ≠ g
  bytes : Bytes8 m
theorem St.ch {w w' : World} {g g2 : Nat} {ok : Nat → Prop} {m : List Int} (h : St w g ok m) (hc : Ch g2 w w') (hg : g ≠ g2) (hok : ∀ k, ok k → k ≠ g2) : St w' g ok m := by
  obtain ⟨A, c, hr, hrd, ho⟩ := h.row
  exact ⟨⟨A, c, (hc.block g hg (Array.getElem?_eq_some_iff.1 hr).1).trans hr, ReadsInt.ch hrd hc (fun hn ad e => hok _ (ho hn ad e)), ho⟩, h.ne, h.bytes⟩
theorem St.below {w w' : World} {g : Nat} {ok : Nat → Prop} {m : List Int} (h : St w g ok m) (hc : Below w.heap.size w w') : St w' g ok m := by
  obtain ⟨A, c, hr, hrd, ho⟩ := h.row
  exact ⟨⟨A, c, (hc.block g (Array.getElem?_eq_some_iff.1 hr).1).trans hr, hrd.below hc, ho⟩, h.ne, h.bytes⟩
theorem St.grown {w w' : World} {g : Nat} {ok : Nat → Prop} {m : List Int} {row : Option Nat} (h : St w g ok m) (hc : w.grownBy w' row) (hg : some g ≠ row) (hok : ∀ k, ok k → some k ≠ row) : St w' g ok m := by
  obtain ⟨A, c, hr, hrd, ho⟩ := h.row
  refine ⟨⟨A, c, (hc.block g (Array.getElem?_eq_some_iff.1 hr).1 hg).trans hr, ⟨hrd.1, hrd.2.1, fun hn => ?_⟩, ho⟩, h.ne, h.bytes⟩
  obtain ⟨ad, e, hx⟩ := hrd.2.2 hn
  refine ⟨ad, e, fun j hj => ?_⟩
  have hb : (ad.add j).block = ad.block := by unfold Addr.add; split <;> rfl
  exact (hc.cell_far (ad.add j) (World.block_lt_of_cell? w _ (hx j hj)) (by rw [hb]; exact hok _ (ho hn ad e))).trans (hx j hj)
/-- other blocks are met -/
theorem St.other {w : World} {g : Nat} {ok ok' : Nat → Prop} {m : List Int} (h : St w g ok m) (hok : ∀ k, k < w.heap.size → ok k → ok' k) (hne : ∀ k, ok' k → k ≠ g) : St w g ok' m := by
  obtain ⟨A, c, hr, hrd, ho⟩ := h.row
  refine ⟨⟨A, c, hr, hrd, fun hn ad e => ?_⟩, hne, h.bytes⟩
  obtain ⟨ad', e', hx⟩ := hrd.2.2 hn
  rw [e] at e'; cases e'
  have hb : (ad.add 0).block = ad.block := by unfold Addr.add; split <;> rfl
  have := World.block_lt_of_cell? w _ (hx 0 hn)
  rw [hb] at this
  exact hok _ this (ho hn ad e)
theorem St.lt {w : World} {g : Nat} {ok : Nat → Prop} {m : List Int} (h : St w g ok m) : g < w.heap.size := by
  obtain ⟨A, c, hr, _⟩ := h.row
  exact (Array.getElem?_eq_some_iff.1 hr).1
theorem St.new (w : World) (ok : Nat → Prop) (hok : ∀ k, ok k → k ≠ w.heap.size) : St (w.alloc (.cells (stateCells h0 (.slice none 0 0) 0) 47)) w.heap.size ok [] :=
  ⟨⟨none, 0, heap_alloc_new w _, ⟨rfl, by decide, fun h => absurd h (by decide)⟩, fun _ _ e => by cases e⟩, hok, fun x hx => by cases hx⟩
end Go.Proofs.YtldkofdpohaahaaDoor.Eat
