/- More bytes are taken (sha.State.Write): its contract; for fewer than 2^40 bytes in all. -/
import Derived.Test.YtldkofdpohaahaaDoorEat
namespace Go.Proofs.YtldkofdpohaahaaDoor.Write
open Go.RowKit Go.Proofs.YtldkofdpohaahaaDoorW.PrintWords Go.Proofs.YtldkofdpohaahaaDoorW.PrintLast Go.Proofs.YtldkofdpohaahaaDoorW.PrintMore Go.Proofs.YtldkofdpohaahaaDoor.New Go.Proofs.YtldkofdpohaahaaDoor.Plain Go.Proofs.YtldkofdpohaahaaDoor.Spread Go.Proofs.YtldkofdpohaahaaDoor.Rounds Go.Proofs.YtldkofdpohaahaaDoor.Mix Go.Proofs.YtldkofdpohaahaaDoor.Eat
set_option linter.unusedVariables false
set_option linter.unusedSimpArgs false
theorem info5 : (Tryd.prog.info? 5).map (fun i => (i.zero, i.size, i.bytes)) = some (some (.int .u8 0), 1, 1) := by kernel_rfl
structure FB (g : Nat) (H : Nat → Int) (L : Value) (n' : Int) (w wB : World) : Prop where
  row : wB.heap[g]? = some (.cells (stateCells H L n') 47)
  own : wB.ownsRow w.heap.size 5 1 (.slice (some ⟨w.heap.size, 0, none⟩) 0 0) 0 (nums .u8 [])
  ch : Ch g w wB
  le : w.heap.size ≤ wB.heap.size
  lt : g < w.heap.size
theorem write_fb {g : Nat} {H : Nat → Int} {L : Value} {n n' : Int} {w wB : World} (h : wB = (w.setCell ⟨g, 9, none⟩ (.int .u64 n')).alloc (.cells #[] 5)) (hr : w.heap[g]? = some (.cells (stateCells H L n) 47)) : FB g H L n' w wB := by
  subst h
  have h1 := heap_setCell_same w g 9 _ 47 (.int .u64 n') hr
  have hs : (w.setCell ⟨g, 9, none⟩ (.int .u64 n')).heap.size = w.heap.size := by simp
  have hc : Ch g w ((w.setCell ⟨g, 9, none⟩ (.int .u64 n')).alloc (.cells #[] 5)) := ((Ch.refl g w).setCell (p := ⟨g, 9, none⟩) rfl _).trans (Ch.of_below (below_alloc (Below.refl _ _) _))
  have h2 := (below_alloc (Below.refl (w.setCell ⟨g, 9, none⟩ (.int .u64 n')).heap.size (w.setCell ⟨g, 9, none⟩ (.int .u64 n'))) (.cells #[] 5)).block g (Array.getElem?_eq_some_iff.1 h1).1
  have ho := own_lit (w.setCell ⟨g, 9, none⟩ (.int .u64 n')) w.heap.size 5 .u8 [] (by omega) (by decide)
  rw [hs] at ho
  exact ⟨(h2.trans h1).trans rfl, ho, hc, hc.size, (Array.getElem?_eq_some_iff.1 hr).1⟩
structure Inv (kq : Nat) (H all H' rest : List Int) (n c' : Nat) : Prop where
  hn : n = rest.length
  lt : rest.length < kq
  hc : n ≤ c'
  hb : Bytes8 rest
  h8 : H'.length = 8
  eq : eatAll H' rest = eatAll H all
  le : n < 2199023255552
theorem reads_zero (w : World) (k : IntKind) (A : Option Addr) (xs : List Int) (h : xs.length = 64) {n : Nat} (hn : n = 64) : ReadsInt w k A (n - 64) (xs.drop 64) :=
  ⟨by rw [List.length_drop]; omega, by omega, fun h => absurd h (by omega)⟩
theorem reads_drop {w : World} {k : IntKind} {ad : Addr} {n : Nat} {xs : List Int} (h : ReadsInt w k (some ad) n xs) (hn : 64 ≤ n) : ReadsInt w k (some ⟨ad.block, ad.off + 64, none⟩) (n - 64) (xs.drop 64) :=
  ⟨by rw [List.length_drop, h.1], by have := h.2.1; omega, fun hp => ⟨_, rfl, fun j hj => by
    obtain ⟨ad', e, hr⟩ := h.2.2 (by omega)
    cases e
    have hj' := hr (64 + j) (by omega)
    rw [← addr_add] at hj'
    have e2 : (ad.add 64 : Addr) = ⟨ad.block, ad.off + 64, none⟩ := by unfold Addr.add; rw [if_neg (by decide)]
    rw [e2] at hj'
    rw [hj', List.getD_eq_getElem?_getD, List.getD_eq_getElem?_getD, List.getElem?_drop]⟩⟩
theorem own_cap {w : World} {base n c : Nat} {A : Option Addr} {xs : List Value} (h : w.ownsRow base 5 1 (.slice A n c) n xs) : n ≤ c ∧ ∀ ad, A = some ad → base ≤ ad.block := by
  rcases h.2 with ⟨he, h0⟩ | ⟨g, cap, cur, he, hb, _, hc, _⟩
  · injection he with e1 e2 e3
    exact ⟨by omega, fun ad e => by rw [e1] at e; cases e⟩
  · injection he with e1 e2 e3
    exact ⟨by omega, fun ad e => by rw [e1] at e; cases e; exact hb⟩
set_option maxHeartbeats 2000000 in
set_option maxRecDepth 100000 in
theorem write_any (g : Nat) (ok : Nat → Prop) (m b : List Int) (B : Option Addr) (c : Nat) (w : World) (hs : St w g ok m) (hok : ∀ k, w.heap.size ≤ k → ok k) (hk : KeysAt w) (h0 : 0 ≠ g) (hB : ReadsInt w .u8 B b.length b) (hne : 0 < b.length → ∀ ad, B = some ad → ad.block ≠ g) (hb : Bytes8 b) (hl : m.length + b.length < 1099511627776) :
    Calls Tryd.prog 11 #[.pointer (some ⟨g, 0, none⟩), .slice B b.length c] w fun e w' => e = .returned (.tuple #[]) ∧ St w' g ok (m ++ b) ∧ Ch g w w' := by
  obtain ⟨A, ca, hrow, hrd, hA⟩ := hs.row
  obtain ⟨H, hH⟩ : ∃ H, H = (eatAll h0L m).1 := ⟨_, rfl⟩
  obtain ⟨left, hleft⟩ : ∃ x, x = (eatAll h0L m).2 := ⟨_, rfl⟩
  rw [← hH, ← hleft] at hrow
  rw [← hleft] at hrd
  have HHL : Aside0 (H.length = 8) := ⟨by rw [hH]; exact eatAll_h _ _ rfl⟩
  have HLL : Aside0 (left.length < 64) := ⟨by rw [hleft, eatAll_len]; omega⟩
  have HLB : Aside0 (Bytes8 left) := ⟨by rw [hleft]; exact fun x hx => hs.bytes x (eatAll_mem _ _ x hx)⟩
  have HEQ : Aside0 (eatAll H (left ++ b) = eatAll h0L (m ++ b)) := ⟨by rw [hH, hleft]; exact eatAll_app _ _ _⟩
  have HA := Aside0.mk hA
  have HOK := Aside0.mk hok
  have HK := Aside0.mk hk
  have HS := Aside0.mk hs
  have HRW := Aside0.mk hrow
  have HB := Aside0.mk hB
  have HBB := Aside0.mk hb
  have HN := Aside0.mk (And.intro h0 hne)
  have HH := Aside0.mk hH
  have hgl := (Array.getElem?_eq_some_iff.1 hrow).1
  have q1 : w.cell? ⟨g, 9, none⟩ = some (.int .u64 m.length) := (cell_of_row w g 9 _ 47 (0, 0) hrow).trans rfl
  have q2 : w.frozen? ⟨g, 9, none⟩ = false := frozen_of_row w g 9 _ 47 hrow
  have q3 : ∀ v o, ((w.setCell ⟨g, 9, none⟩ v).alloc o).cell? ⟨g, 8, none⟩ = some (.slice A left.length ca) := fun v o => by
    have h1 := heap_setCell_same w g 9 _ 47 v hrow
    have h2 := (below_alloc (Below.refl (w.setCell ⟨g, 9, none⟩ v).heap.size (w.setCell ⟨g, 9, none⟩ v)) o).block g (Array.getElem?_eq_some_iff.1 h1).1
    exact (cell_of_row _ g 8 _ 47 (0, 0) (h2.trans h1)).trans rfl
  have hn1 : IntKind.u64.wrap (b.length : Int) = b.length := by
    show (b.length : Int) % 18446744073709551616 = b.length; omega
  have hn2 : IntKind.u64.wrap ((m.length : Int) + b.length) = (m.length : Int) + b.length := by
    show ((m.length : Int) + b.length) % 18446744073709551616 = _; omega
  obtain ⟨wB, hwB⟩ : ∃ x, x = (w.setCell ⟨g, 9, none⟩ (.int .u64 ((m.length : Int) + b.length))).alloc (.cells #[] 5) := ⟨_, rfl⟩
  have HWB := Aside0.mk hwB
  have HF := Aside0.mk (write_fb hwB hrow)
  have HRL := Aside0.mk (ReadsInt.ch hrd HF.out.ch (fun hn ad e => hs.ne _ (hA (by rw [hleft] at hn; exact hn) ad e)))
  have HLE : Aside0 (m.length + b.length < 1099511627776) := ⟨hl⟩
  clear hrd hA hok hk hrow hB hb h0 hne hgl hwB hH hleft hs hl
  go_enter Tryd.func11, Tryd.ntmps11
  go_wp2_with (first | ((with_reducible refine gate_builtin (b := .append) (xs := #[.tmp 15, .tmp 19]) rfl ?_); at_builtin; refine world_is HWB.out ?_; refine print_append_row (w0 := wB) w.heap.size rfl (.tmp 15) (.tmp 19) 22 5 .u8 1 rfl Tryd.underlying22 info5 (by decide) (.slice (some ⟨w.heap.size, 0, none⟩) 0 0) [] left A left.length ca rfl rfl HF.out.own HRL.out (Below.refl _ _) HF.out.le (by have := HLL.out; simp; omega) ?_; intro v1 w1 ho1 hb1 hg1 hat1; have HO1 := Aside0.mk ho1; have HB1 := Aside0.mk (HF.out.ch.step hb1); have HL1 := Aside0.mk (Nat.le_trans HF.out.le hb1.size); have HX1 := Aside0.mk hb1; clear ho1 hb1 hg1 hat1) | ((with_reducible refine gate_builtin (b := .append) (xs := #[.tmp 20, .tmp 21]) rfl ?_); at_builtin; refine print_append_row (w0 := w1) w.heap.size rfl (.tmp 20) (.tmp 21) 22 5 .u8 1 rfl Tryd.underlying22 info5 (by decide) v1 left b B b.length c rfl rfl HO1.out (ReadsInt.ch HB.out HB1.out HN.out.2) (Below.refl _ _) HL1.out (by have := HLL.out; have := HLE.out; omega) ?_; intro v2 w2 ho2 hb2 hg2 hat2; obtain ⟨A2, c2, rfl, hr2⟩ := own_reads ho2; have HO2 := Aside0.mk ho2; have HB2 := Aside0.mk (HB1.out.step hb2); have HR2 := Aside0.mk hr2; have HX2 := Aside0.mk (HX1.out.trans hb2); clear ho2 hb2 hr2 hg2 hat2 ))
  have HC2 := Aside0.mk (own_cap HO2.out)
  clear q1 q2 q3 hn1 hn2
  go_loopg [4] (left.length + b.length + 1) (fun kq v4 w' => ∃ (A' : Option Addr) (n c' : Nat) (rest H' : List Int), v4 = .slice A' n c' ∧ Aside0 (Inv kq H (left ++ b) H' rest n c') ∧ Aside0 (w'.heap[g]? = some (.cells (stateCells (fun i => H'.getD i 0) (.slice A left.length ca) ((m.length : Int) + b.length)) 47)) ∧ Aside0 (ReadsInt w' .u8 A' n rest) ∧ Aside0 (∀ ad, A' = some ad → w.heap.size ≤ ad.block) ∧ Aside0 (Ch g w w'))
  case atStart => exact ⟨A2, (left ++ b).length, c2, left ++ b, H, (by rw [List.length_append]), ⟨rfl, by rw [List.length_append]; omega, HC2.out.1, HLB.out.app HBB.out, HHL.out, rfl, by rw [List.length_append]; have := HLE.out; have := HLL.out; omega⟩, ⟨(HX2.out.block g HF.out.lt).trans HF.out.row⟩, HR2, ⟨HC2.out.2⟩, HB2⟩
  case round =>
    obtain ⟨A', n, c', rest, H', rfl, HI, HG, HR, HAB, HCH⟩ := hrel
    cases gk with
    | zero => exact absurd HI.out.lt (by omega)
    | succ k2 =>
      by_cases hi : 64 ≤ n
      · have c1 : decide (64 ≤ (n : Int)) = true := decide_eq_true (by omega)
        obtain ⟨ad, rfl, hcell⟩ := HR.out.2.2 (by omega)
        have HKR := Aside0.mk (HK.out.ch HCH.out (Nat.lt_of_le_of_lt (Nat.zero_le _) HF.out.lt) HN.out.1)
        have HZ : Aside0 (0 < wr.heap.size) := ⟨Nat.lt_of_le_of_lt (Nat.zero_le _) (Array.getElem?_eq_some_iff.1 HG.out).1⟩
        have HT : Aside0 ((rest.take 64).length = 64 ∧ 64 ≤ c' ∧ (∀ x ∈ rest.take 64, 0 ≤ x ∧ x < 256) ∧ ∀ i, i < 64 → wr.cell? (ad.add i) = some (.int .u8 ((rest.take 64).getD i 0))) := ⟨by rw [List.length_take, ← HI.out.hn]; exact Nat.min_eq_left hi, Nat.le_trans hi HI.out.hc, fun x hx => HI.out.hb x (List.mem_of_mem_take hx), fun i hi' => by
          rw [Sched.getD_take _ _ _ hi']; exact hcell i (by omega)⟩
        have t1 := eq_true (show (64 : Int) ≤ (c' : Int) by have := HI.out.hc; omega)
        have t2 := eq_true (show 64 ≤ c' by have := HI.out.hc; omega)
        have t3 := eq_true (show (64 : Int) ≤ (n : Int) by omega)
        have t4 := eq_true hi
        clear hcell hi
        rcases Nat.eq_or_lt_of_le (show 64 ≤ c' by rw [t2]; trivial) with hc | hc
        · subst hc
          go_wp2_with (first | (go_at_call 17; (with_reducible refine (mix_any g H' (.slice A left.length ca) ((m.length : Int) + b.length) ad _ (rest.take 64) wr HG.out HI.out.h8 HKR.out HZ.out HT.out.1 HT.out.2.1 HT.out.2.2.1 HT.out.2.2.2).mono ?_); rintro e w5 ⟨rfl, hg5, hc5⟩; have HG5 := Aside0.mk hg5; have HC5 := Aside0.mk hc5; clear hg5 hc5))
          go_roundg k2
          case measure => have := HI.out.lt; have := HI.out.hn; have := HT.out.1; rw [List.length_take] at this; omega
          case rel => exact ⟨some ad, _, _, rest.drop 64, compress H' (rest.take 64), rfl, ⟨by rw [List.length_drop, ← HI.out.hn], by have := HI.out.lt; have := HT.out.1; rw [List.length_take] at this; rw [List.length_drop]; omega, by have := HI.out.hc; omega, fun x hx => HI.out.hb x (List.mem_of_mem_drop hx), compress_len _ _, (eatAll_step _ _ (by have := HT.out.1; rw [List.length_take] at this; omega)).trans HI.out.eq, by have := HI.out.le; omega⟩, HG5, ⟨by have hn : n = 64 := by { have := HI.out.hc; have := HI.out.hn; have := HT.out.1; rw [List.length_take] at this; omega }; exact reads_zero _ _ _ _ (by have := HI.out.hn; omega) hn⟩, ⟨fun ad' e => by cases e; exact HAB.out ad rfl⟩, ⟨HCH.out.trans HC5.out⟩⟩
        · obtain ⟨c3, hc3⟩ : ∃ c3, c' - 64 = c3 + 1 := ⟨c' - 65, by omega⟩
          have t5 := eq_true hc
          have t6 := eq_true (show (64 : Int) < (c' : Int) by omega)
          have t7 := eq_false (show ¬ c' = 64 by omega)
          go_wp2_with (first | (go_at_call 17; (with_reducible refine (mix_any g H' (.slice A left.length ca) ((m.length : Int) + b.length) ad _ (rest.take 64) wr HG.out HI.out.h8 HKR.out HZ.out HT.out.1 HT.out.2.1 HT.out.2.2.1 HT.out.2.2.2).mono ?_); rintro e w5 ⟨rfl, hg5, hc5⟩; have HG5 := Aside0.mk hg5; have HC5 := Aside0.mk hc5; clear hg5 hc5))
          go_roundg k2
          case measure => have := HI.out.lt; have := HI.out.hn; have := HT.out.1; rw [List.length_take] at this; omega
          case rel => exact ⟨some ⟨ad.block, ad.off + 64, none⟩, _, _, rest.drop 64, compress H' (rest.take 64), rfl, ⟨by rw [List.length_drop, ← HI.out.hn], by have := HI.out.lt; have := HT.out.1; rw [List.length_take] at this; rw [List.length_drop]; omega, by have := HI.out.hc; omega, fun x hx => HI.out.hb x (List.mem_of_mem_drop hx), compress_len _ _, (eatAll_step _ _ (by have := HT.out.1; rw [List.length_take] at this; omega)).trans HI.out.eq, by have := HI.out.le; omega⟩, HG5, ⟨reads_drop (ReadsInt.ch HR.out HC5.out (fun _ ad' e => by cases e; have := HAB.out ad rfl; have := HF.out.lt; omega)) (by have := HI.out.hn; have := HT.out.1; rw [List.length_take] at this; omega)⟩, ⟨fun ad' e => by cases e; exact HAB.out ad rfl⟩, ⟨HCH.out.trans HC5.out⟩⟩
      · have c1 : decide (64 ≤ (n : Int)) = false := decide_eq_false (by omega)
        have HE : Aside0 ((H', rest) = eatAll h0L (m ++ b)) := ⟨by rw [← HEQ.out, ← HI.out.eq, eatAll_end _ _ (by rw [← HI.out.hn]; omega)]⟩
        have q5 : wr.cell? ⟨g, 8, none⟩ = some (.slice A left.length ca) := (cell_of_row wr g 8 _ 47 (0, 0) HG.out).trans rfl
        have q6 : wr.frozen? ⟨g, 8, none⟩ = false := frozen_of_row wr g 8 _ 47 HG.out
        clear hi
        go_wp2
        refine bodyPost_end (results_none rfl _ _ _) rfl ⟨rfl, ⟨⟨A', c', ?_, ?_, fun _ ad e => HOK.out _ (HAB.out ad e)⟩, HS.out.ne, HS.out.bytes.app HBB.out⟩, HCH.out.setCell (p := ⟨g, 8, none⟩) rfl _⟩
        · rw [← HE.out, heap_setCell_same wr g 8 _ 47 _ HG.out, ← HI.out.hn, List.length_append]; rfl
        · rw [← HE.out, ← HI.out.hn]
          exact ReadsInt.ch HR.out ((Ch.refl g wr).setCell (p := ⟨g, 8, none⟩) rfl _) (fun _ ad e => by have := HAB.out ad e; have := HF.out.lt; omega)
end Go.Proofs.YtldkofdpohaahaaDoor.Write
