/- What is handed in is neither changed nor kept (ShaKeeps): the walk of the law; for all bytes. -/
import Derived.Test.YtldkofdpohaahaaDoorEq
namespace Go.Proofs.YtldkofdpohaahaaDoor.Keeps
open Go.RowKit Go.Proofs.YtldkofdpohaahaaDoorW.PrintWords Go.Proofs.YtldkofdpohaahaaDoorW.PrintLast Go.Proofs.YtldkofdpohaahaaDoorW.PrintMore Go.Proofs.YtldkofdpohaahaaDoor.New Go.Proofs.YtldkofdpohaahaaDoor.Plain Go.Proofs.YtldkofdpohaahaaDoor.Rounds Go.Proofs.YtldkofdpohaahaaDoor.Mix Go.Proofs.YtldkofdpohaahaaDoor.Eat Go.Proofs.YtldkofdpohaahaaDoor.Write Go.Proofs.YtldkofdpohaahaaDoor.Pad Go.Proofs.YtldkofdpohaahaaDoor.Of Go.Proofs.YtldkofdpohaahaaDoor.Awake Go.Proofs.YtldkofdpohaahaaDoor.Eq
open Go.Proofs.YtldkofdpohaahaaDoor.Sum hiding start_any
set_option linter.unusedVariables false
set_option linter.unusedSimpArgs false
/-- the caller's own row, and the digest on its way in block g -/
structure Kp (w W : World) (g : Nat) (A1 : Option Addr) (n c1 : Nat) (zs m : List Int) : Prop where
  st : St W g (fun k => g < k) m
  keys : KeysAt W
  b : Below w.heap.size w W
  own : W.ownsRow w.heap.size 5 1 (.slice A1 n c1) n (nums .u8 zs)
  lt : ∀ ad, A1 = some ad → ad.block < g
  le : w.heap.size ≤ g
  h0 : 0 < w.heap.size
theorem kp_new {w w2 w3 : World} {A1 : Option Addr} {n c1 : Nat} {zs : List Int} (hk : KeysAt w) (h0 : 0 < w.heap.size) (hb : Below w.heap.size w w2) (ho : w2.ownsRow w.heap.size 5 1 (.slice A1 n c1) n (nums .u8 zs)) (hw : w3 = w2.alloc (.cells (stateCells Go.Proofs.YtldkofdpohaahaaDoor.New.h0 (.slice none 0 0) 0) 47)) : Kp w w3 w2.heap.size A1 n c1 zs [] := by
  subst hw
  have hb3 := below_alloc hb (.cells (stateCells Go.Proofs.YtldkofdpohaahaaDoor.New.h0 (.slice none 0 0) 0) 47)
  exact ⟨St.new w2 _ (fun k hk => Nat.ne_of_gt hk), hk.below hb3 h0, hb3, ho.alloc _, fun ad e => own_lt ho ad.block (by rw [e]; rfl), hb.size, h0⟩
theorem Kp.rd {w W : World} {g : Nat} {A1 : Option Addr} {n c1 : Nat} {zs m : List Int} (h : Kp w W g A1 n c1 zs m) : ReadsInt W .u8 A1 n zs := by
  obtain ⟨A', c', e, hr⟩ := own_reads h.own
  cases e; exact hr
theorem Kp.far {w W : World} {g : Nat} {A1 : Option Addr} {n c1 : Nat} {zs m : List Int} (h : Kp w W g A1 n c1 zs m) : 0 < zs.length → ∀ ad, A1 = some ad → ad.block ≠ g := fun _ ad e => Nat.ne_of_lt (h.lt ad e)
theorem Kp.write {w W : World} {g : Nat} {A1 : Option Addr} {n c1 : Nat} {zs m : List Int} (h : Kp w W g A1 n c1 zs m) (ys : List Int) {k : Nat} {B : Option Addr} (d : Nat) (hk : ys.length = k) (hr : ReadsInt W .u8 B k ys) (hy : Bytes8 ys) (hne : 0 < ys.length → ∀ ad, B = some ad → ad.block ≠ g) (hl : m.length + ys.length < 1099511627776) :
    Calls Tryd.prog 11 #[.pointer (some ⟨g, 0, none⟩), .slice B k d] W fun e w' => e = .returned (.tuple #[]) ∧ Kp w w' g A1 n c1 zs (m ++ ys) := by
  subst hk
  have hlt := h.st.lt
  have hle := h.le
  have h0 := h.h0
  refine (write_any g _ m ys B d W h.st (fun k hk => Nat.lt_of_lt_of_le hlt hk) h.keys (by omega) hr hne hy hl).mono ?_
  rintro e w' ⟨rfl, hst, hc⟩
  exact ⟨rfl, hst, h.keys.ch hc (by omega) (by omega), h.b.trans (hc.below hle h.b.size), own_ch h.own hc (fun k hk => by
    rcases h.own.2 with ⟨hv, _⟩ | ⟨g', cap', cur', hv, _, _, _⟩
    · rw [hv] at hk; simp [Value.ownBlock] at hk
    · injection hv with e1 e2 e3
      subst e1
      have : g' = k := by simpa [Value.ownBlock] using hk
      have h5 : g' < g := h.lt _ rfl
      omega), h.lt, hle, h0⟩
theorem Kp.store {w W : World} {g gA n c1 : Nat} {zs m : List Int} (h : Kp w W g (some ⟨gA, 0, none⟩) n c1 zs m) (i : Nat) (x : Int) : Kp w (W.setCell ⟨gA, i, none⟩ (.int .u8 x)) g (some ⟨gA, 0, none⟩) n c1 (zs.set i x) m := by
  have hlt : gA < g := h.lt _ rfl
  have hs := own_store h.own (i : Int) x
  rw [Int.toNat_natCast] at hs
  have hc : Ch gA W (W.setCell ⟨gA, i, none⟩ (.int .u8 x)) := (Ch.refl gA W).setCell (p := ⟨gA, i, none⟩) rfl _
  have hb := own_base h.own gA rfl
  exact ⟨h.st.ch hc (by omega) (fun k hk => by omega), h.keys.ch hc (Nat.lt_of_lt_of_le h.h0 h.b.size) (by have := h.h0; omega), h.b.trans (hc.below hb h.b.size), hs.1, h.lt, h.le, h.h0⟩
set_option maxHeartbeats 4000000 in
set_option maxRecDepth 100000 in
theorem keeps_big1 (A B : Option Addr) (c d : Nat) (xs ys : List Int) (w : World) (hA : ReadsInt w .u8 A xs.length xs) (hB : ReadsInt w .u8 B ys.length ys) (hk : KeysAt w) (h0 : 0 < w.heap.size) (hx : Bytes8 xs) (hy : Bytes8 ys) (hl : 3000 < xs.length) :
    Calls Tryd.prog 5 #[.slice A xs.length c, .slice B ys.length d] w fun e w' => e = .returned (.bool true) ∧ Below w.heap.size w w' := by
  have t1 : decide ((xs.length : Int) > 3000) = true := decide_eq_true (by omega)
  have t2 : decide (3000 < xs.length) = true := decide_eq_true hl
  have HA := Aside0.mk hA
  have HBB := Aside0.mk hB
  have HK := Aside0.mk hk
  have H0 := Aside0.mk h0
  have HX := Aside0.mk hx
  have HY := Aside0.mk hy
  have HB := Aside0.mk (Below.refl w.heap.size w)
  clear hA hB hk h0 hx hy
  clear hl
  go_enter Tryd.func5, Tryd.ntmps5
  go_wp2_with (first | (go_at_call 7; (with_reducible refine (awake_any _ (HK.out.below HB.out H0.out) (Nat.lt_of_lt_of_le H0.out HB.out.size)).mono ?_); rintro e wa ⟨rfl, hb⟩; have n_ := Aside0.mk (below_step HB.out hb); clear HB; have HB := n_; clear n_ hb))
  go_ret
  exact ⟨rfl, HB.out⟩
set_option maxHeartbeats 4000000 in
set_option maxRecDepth 100000 in
theorem keeps_big2 (A B : Option Addr) (c d : Nat) (xs ys : List Int) (w : World) (hA : ReadsInt w .u8 A xs.length xs) (hB : ReadsInt w .u8 B ys.length ys) (hk : KeysAt w) (h0 : 0 < w.heap.size) (hx : Bytes8 xs) (hy : Bytes8 ys) (hl : ¬ 3000 < xs.length) (hl2 : 3000 < ys.length) :
    Calls Tryd.prog 5 #[.slice A xs.length c, .slice B ys.length d] w fun e w' => e = .returned (.bool true) ∧ Below w.heap.size w w' := by
  have t1 : decide (3000 < xs.length) = false := decide_eq_false hl
  have t2 : decide (3000 < ys.length) = true := decide_eq_true hl2
  have t3 : decide (3000 < (xs.length : Int)) = false := decide_eq_false (by omega)
  have t4 : decide (3000 < (ys.length : Int)) = true := decide_eq_true (by omega)
  have HA := Aside0.mk hA
  have HBB := Aside0.mk hB
  have HK := Aside0.mk hk
  have H0 := Aside0.mk h0
  have HX := Aside0.mk hx
  have HY := Aside0.mk hy
  have HB := Aside0.mk (Below.refl w.heap.size w)
  clear hA hB hk h0 hx hy
  clear hl hl2
  go_enter Tryd.func5, Tryd.ntmps5
  go_wp2_with (first | (go_at_call 7; (with_reducible refine (awake_any _ (HK.out.below HB.out H0.out) (Nat.lt_of_lt_of_le H0.out HB.out.size)).mono ?_); rintro e wa ⟨rfl, hb⟩; have n_ := Aside0.mk (below_step HB.out hb); clear HB; have HB := n_; clear n_ hb))
  go_ret
  exact ⟨rfl, HB.out⟩
set_option maxHeartbeats 4000000 in
set_option maxRecDepth 100000 in
theorem keeps_small (A B : Option Addr) (c d : Nat) (xs ys : List Int) (w : World) (hA : ReadsInt w .u8 A xs.length xs) (hB : ReadsInt w .u8 B ys.length ys) (hk : KeysAt w) (h0 : 0 < w.heap.size) (hx : Bytes8 xs) (hy : Bytes8 ys) (hl : ¬ 3000 < xs.length) (hl2 : ¬ 3000 < ys.length) :
    Calls Tryd.prog 5 #[.slice A xs.length c, .slice B ys.length d] w fun e w' => e = .returned (.bool true) ∧ Below w.heap.size w w' := by
  have t1 : decide (3000 < xs.length) = false := decide_eq_false hl
  have t2 : decide (3000 < ys.length) = false := decide_eq_false hl2
  have t3 : decide (3000 < (xs.length : Int)) = false := decide_eq_false (by omega)
  have t4 : decide (3000 < (ys.length : Int)) = false := decide_eq_false (by omega)
  have HL := Aside0.mk (And.intro hl hl2)
  have HA := Aside0.mk hA
  have HBB := Aside0.mk hB
  have HK := Aside0.mk hk
  have H0 := Aside0.mk h0
  have HX := Aside0.mk hx
  have HY := Aside0.mk hy
  have HB := Aside0.mk (Below.refl w.heap.size w)
  clear hA hB hk h0 hx hy
  clear hl hl2
  go_enter Tryd.func5, Tryd.ntmps5
  go_wp2_with (first | (go_at_call 7; (with_reducible refine (awake_any _ (HK.out.below HB.out H0.out) (Nat.lt_of_lt_of_le H0.out HB.out.size)).mono ?_); rintro e wa ⟨rfl, hb⟩; have n_ := Aside0.mk (below_step HB.out hb); clear HB; have HB := n_; clear n_ hb) | ((with_reducible refine gate_builtin (b := .append) (xs := #[.tmp 21, .tmp 22]) rfl ?_); at_builtin; refine print_append_row (w0 := wa.alloc (.cells #[] 5)) w.heap.size rfl (.tmp 21) (.tmp 22) 22 5 .u8 1 rfl Tryd.underlying22 info5 (by decide) (.slice (some ⟨wa.heap.size, 0, none⟩) 0 0) [] xs A xs.length c rfl rfl (own_lit wa w.heap.size 5 .u8 [] HB.out.size (by decide)) (HA.out.below (below_alloc HB.out _)) (Below.refl _ _) (below_alloc HB.out (.cells #[] 5)).size (by have := HL.out.1; simp; omega) ?_; intro v1 w2 ho hb hg hat; simp only [List.nil_append] at ho; obtain ⟨A1, c1, rfl, hr1⟩ := own_reads ho; have HO := Aside0.mk ho; have n_ := Aside0.mk ((below_alloc HB.out (.cells #[] 5)).trans hb); clear HB; have HB := n_; clear n_ ho hb hg hat hr1) | (go_at_call 10; (with_reducible refine (new_any _).mono ?_); rintro e w3 ⟨rfl, hw3⟩; have HF := Aside0.mk (kp_new HK.out H0.out HB.out HO.out hw3); have HW1 := Aside0.mk (HF.out.write xs (k := xs.length) c1 rfl HF.out.rd HX.out HF.out.far (by have := HL.out.1; show 0 + xs.length < _; omega)); clear hw3 HB HO) | (go_at_call 11; (with_reducible refine HW1.out.mono ?_); rintro e w4 ⟨rfl, hf⟩; simp only [List.nil_append] at hf; have HF4 := Aside0.mk hf; have cv1 := string_of_reads (c := c1) Tryd.underlying22 Tryd.underlying5 Tryd.underlying9 hf.rd; have cv2 := string_of_reads (c := c) Tryd.underlying22 Tryd.underlying5 Tryd.underlying9 (HA.out.below hf.b); clear hf HF HW1))
  clear cv1 cv2
  go_loopg [7] (xs.length + 1) (fun kq v7 w' => ∃ (i : Nat) (zs : List Int), v7 = .int .i64 i ∧ Aside0 (i ≤ xs.length ∧ xs.length - i < kq) ∧ Aside0 (Kp w w' w2.heap.size A1 xs.length c1 zs xs))
  case atStart => exact ⟨0, xs, rfl, ⟨by omega, by omega⟩, HF4⟩
  case round =>
    clear HF4
    obtain ⟨i, zs, rfl, HI, HF⟩ := hrel
    cases gk with
    | zero => exact absurd HI.out.2 (by omega)
    | succ k2 =>
      by_cases hi : i < xs.length
      · have s1 : decide (i < xs.length) = true := decide_eq_true hi
        have s2 : decide ((i : Int) < (xs.length : Int)) = true := decide_eq_true (by omega)
        obtain ⟨gA, cap, he, _, _⟩ := HF.out.own.form (by omega)
        injection he with e1 e2 e3
        subst e1
        subst e3
        obtain ⟨q1, q2⟩ := own_at HF.out.own (i : Int) (by omega) (by omega)
        rw [Int.toNat_natCast] at q1 q2
        have u1 := eq_true (show (0 : Int) ≤ (i : Int) by omega)
        have u2 := eq_true (show (i : Int) < (xs.length : Int) by omega)
        have u3 := eq_true hi
        have hw : wrap64 ((i : Int) + 1) = ((i + 1 : Nat) : Int) := by have := HL.out.1; unfold wrap64; omega
        have HW := Aside0.mk hw
        have HS := Aside0.mk (fun x => HF.out.store i x)
        have HI0 := Aside0.mk hi
        clear hi hw e2
        go_wp2
        go_roundg k2
        case measure => have := HI.out; have := HI0.out; omega
        case rel => exact ⟨i + 1, _, (by rw [HW.out]), ⟨by have := HI0.out; omega, by have := HI.out; have := HI0.out; omega⟩, ⟨HS.out _⟩⟩
      · have s1 : decide (i < xs.length) = false := decide_eq_false hi
        have s2 : decide ((i : Int) < (xs.length : Int)) = false := decide_eq_false (by omega)
        have HW12 := Aside0.mk (HF.out.write ys (k := ys.length) d rfl (HBB.out.below HF.out.b) HY.out (ReadsInt.far HBB.out HF.out.le) (by have := HL.out.1; have := HL.out.2; omega))
        clear hi HF
        go_wp2_with (first | (go_at_call 11; (with_reducible refine HW12.out.mono ?_); rintro e w5 ⟨rfl, hf⟩; have HS5 := Aside0.mk (sum_any _ _ (xs ++ ys) w5 hf.st hf.keys (by rw [List.length_append]; have := HL.out.1; have := HL.out.2; omega)); have HB := Aside0.mk hf.b; clear hf HW12) | (go_at_call 12; (with_reducible refine HS5.out.mono ?_); rintro e w6 ⟨rfl, hb⟩; have n_ := Aside0.mk (below_step HB.out hb); clear HB; have HB := n_; clear n_ hb HS5) | ((with_reducible refine gate_builtin (b := .append) (xs := #[.tmp 52, .tmp 53]) rfl ?_); at_builtin; refine print_append_row (w0 := w6.alloc (.cells #[] 5)) w.heap.size rfl (.tmp 52) (.tmp 53) 22 5 .u8 1 rfl Tryd.underlying22 info5 (by decide) (.slice (some ⟨w6.heap.size, 0, none⟩) 0 0) [] xs A xs.length c rfl rfl (own_lit w6 w.heap.size 5 .u8 [] HB.out.size (by decide)) (HA.out.below (below_alloc HB.out _)) (Below.refl _ _) (below_alloc HB.out (.cells #[] 5)).size (by have := HL.out.1; simp; omega) ?_; intro v7 w7 ho hb hg hat; simp only [List.nil_append] at ho; have HO7 := Aside0.mk ho; have n_ := Aside0.mk ((below_alloc HB.out (.cells #[] 5)).trans hb); clear HB; have HB := n_; clear n_ ho hb hg hat) | ((with_reducible refine gate_builtin (b := .append) (xs := #[.tmp 54, .tmp 55]) rfl ?_); at_builtin; refine print_append_row (w0 := w7) w.heap.size rfl (.tmp 54) (.tmp 55) 22 5 .u8 1 rfl Tryd.underlying22 info5 (by decide) v7 xs ys B ys.length d rfl rfl HO7.out (HBB.out.below HB.out) (Below.refl _ _) HB.out.size (by have := HL.out.1; have := HL.out.2; omega) ?_; intro v8 w8 ho hb hg hat; obtain ⟨A8, c8, rfl, hr8⟩ := own_reads ho; have n_ := Aside0.mk (HB.out.trans hb); clear HB; have HB := n_; have HO8 := Aside0.mk (of1 w8 (HK.out.below HB.out H0.out) (Nat.lt_of_lt_of_le H0.out HB.out.size) A8 (xs ++ ys) c8 hr8 (HX.out.app HY.out) (by rw [List.length_append]; have := HL.out.1; have := HL.out.2; omega) (k := xs.length + ys.length) List.length_append); clear n_ ho hb hg hat hr8 HO7) | (go_at_call 8; (with_reducible refine HO8.out.mono ?_); rintro e w9 ⟨rfl, hb⟩; have heq := eq24 (digest (xs ++ ys)) w9 (digest_len _); have n_ := Aside0.mk (below_step HB.out hb); clear HB; have HB := n_; clear n_ hb HO8))
        go_ret
        exact ⟨rfl, HB.out⟩
theorem keeps_law (A B : Option Addr) (c d : Nat) (xs ys : List Int) (w : World) (hA : ReadsInt w .u8 A xs.length xs) (hB : ReadsInt w .u8 B ys.length ys) (hk : KeysAt w) (h0 : 0 < w.heap.size) (hx : Bytes8 xs) (hy : Bytes8 ys) :
    Calls Tryd.prog 5 #[.slice A xs.length c, .slice B ys.length d] w fun e w' => e = .returned (.bool true) ∧ Below w.heap.size w w' := by
  by_cases h1 : 3000 < xs.length
  · exact keeps_big1 A B c d xs ys w hA hB hk h0 hx hy h1
  · by_cases h2 : 3000 < ys.length
    · exact keeps_big2 A B c d xs ys w hA hB hk h0 hx hy h1 h2
    · exact keeps_small A B c d xs ys w hA hB hk h0 hx hy h1 h2
end Go.Proofs.YtldkofdpohaahaaDoor.Keeps
