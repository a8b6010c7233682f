/- Two digests on their way know nothing of each other (ShaApart): the walk of the law; for all bytes. -/
import Derived.Test.YtldkofdpohaahaaDoorKeeps
namespace Go.Proofs.YtldkofdpohaahaaDoor.Apart
open Go.RowKit Go.Proofs.YtldkofdpohaahaaDoorW.PrintWords Go.Proofs.YtldkofdpohaahaaDoorW.PrintLast Go.Proofs.YtldkofdpohaahaaDoorW.PrintMore Go.Proofs.YtldkofdpohaahaaDoor.New Go.Proofs.YtldkofdpohaahaaDoor.Plain Go.Proofs.YtldkofdpohaahaaDoor.Rounds Go.Proofs.YtldkofdpohaahaaDoor.Mix Go.Proofs.YtldkofdpohaahaaDoor.Eat Go.Proofs.YtldkofdpohaahaaDoor.Write Go.Proofs.YtldkofdpohaahaaDoor.Pad Go.Proofs.YtldkofdpohaahaaDoor.Of Go.Proofs.YtldkofdpohaahaaDoor.Awake Go.Proofs.YtldkofdpohaahaaDoor.Eq
open Go.Proofs.YtldkofdpohaahaaDoor.Sum hiding start_any
set_option linter.unusedVariables false
set_option linter.unusedSimpArgs false
def ap14.T14 : Bool × List (List Nat × List Nat) := (true, [([], []), ([0], [0]), ([], []), ([], []), ([2, 3], [2, 3]), ([4], [4]), ([5, 1], [5]), ([1, 6], [1, 6]), ([7, 6], [7]), ([8], [8]), ([9, 8, 8], [8, 9]), ([8], [8]), ([8], [8]), ([11, 12, 8], [8, 11, 12]), ([13, 8], [8, 13]), ([14, 10, 8], [8, 14]), ([10, 15, 8], [8, 10, 15]), ([8, 16], [8, 16]), ([17, 15, 0, 1, 2, 3, 4, 5, 6, 7, 8, 9, 10, 11, 12, 13, 14, 15, 16, 17], [17])])
def ap14.B14 : List Nat := [0, 1, 0, 0, 12, 28, 63, 127, 255, 511, 1023, 511, 511, 6655, 14847, 32767, 65535, 131071, 262143]
theorem ap14.tab14 : rtab .any (opsOf Tryd.f6 14) = ap14.T14 := by kernel_rfl
theorem ap14.bits14 : waitsOk ap14.T14.2 ap14.B14 = true := by kernel_rfl
theorem start_any {P : Program} {ops : Array Oper} {Q : Exit → Act → World → Prop} {S : World → Prop} {ds : List Nat} {id n : Nat} {a : Act} {w : World} (l : Array Bool) (hm : P.follows .mixedOrders = true) (hn : ops.size = n) (hl : Array.replicate n false = l) (hS : S w.drew)
    (h : ∀ wd, S wd → wpAnyLast P .any ops Q S ds n l a wd) : (Code.region id ops true).wp P Q a w := start_ l hm hn hl hS (fun _ => h _ hS)
theorem row_of {n : Nat} {w W : World} (h : Below n w W) (v : Value) : (W.alloc (.cells #[v] 22)).heap[W.heap.size]? = some (.cells #[v] 22) := heap_alloc_new W _
/-- a slice of bools that is read -/
def ReadsB (w : World) (T : Option Addr) (n : Nat) (ts : List Bool) : Prop := ts.length = n ∧ n ≤ 9223372036854775807 ∧ (0 < n → ∃ ad, T = some ad ∧ ∀ j, j < n → w.cell? (ad.add j) = some (.bool (ts.getD j false)))
theorem reads_take {w : World} {A : Option Addr} {xs : List Int} (h : ReadsInt w .u8 A xs.length xs) (i : Nat) (hi : i ≤ xs.length) : ReadsInt w .u8 A i (xs.take i) :=
  ⟨by rw [List.length_take]; omega, by have := h.2.1; omega, fun hp => by
    obtain ⟨ad, e, hr⟩ := h.2.2 (by omega)
    exact ⟨ad, e, fun j hj => by rw [hr j (by omega), Sched.getD_take _ _ _ hj]⟩⟩
theorem reads_one {w : World} {ad : Addr} {xs : List Int} (h : ReadsInt w .u8 (some ad) xs.length xs) (i : Nat) (hi : i < xs.length) : ReadsInt w .u8 (some (ad.add i)) 1 [xs.getD i 0] :=
  ⟨rfl, by decide, fun _ => ⟨_, rfl, fun j hj => by
    obtain rfl : j = 0 := by omega
    obtain ⟨ad', e, hr⟩ := h.2.2 (by omega)
    cases e
    rw [Spread.addr_add]; exact hr i hi⟩⟩
theorem of_row {W : World} {p : Nat} {A : Option Addr} {i c : Nat} {xs : List Int} (hrow : W.heap[p]? = some (.cells #[.slice A i c] 22)) (hr : ReadsInt W .u8 A i xs) (hk : KeysAt W) (h0 : 0 < W.heap.size) (hx : Bytes8 xs) (hl : xs.length < 549755813888) :
    Calls Tryd.prog 8 #[.slice (some ⟨p, 0, none⟩) 1 1] W fun e w' => e = .returned (.agg (rowB (digest xs))) ∧ Below W.heap.size W w' := by
  have hi : xs.length = i := hr.1
  have hp : Parts W (some ⟨p, 0, none⟩) 1 [xs] := ⟨rfl, by decide, fun _ => ⟨_, rfl, fun j hj => by
    obtain rfl : j = 0 := by omega
    exact ⟨A, c, (by rw [add_plain, cell_of_row _ _ 0 _ 22 (0, 0) hrow, ← hi]; rfl), by rw [← hi] at hr; exact hr⟩⟩⟩
  have he : [xs].flatten = xs := by simp
  have := of_any _ 1 1 [xs] _ hp hk h0 (fun p hp => by rw [List.mem_singleton.1 hp]; exact hx) (by rw [he]; exact hl)
  rwa [he] at this
theorem slice_to {w : World} {A : Option Addr} {xs : List Int} {c : Nat} (h : ReadsInt w .u8 A xs.length xs) (hc : xs.length ≤ c ∧ (A = none → c = 0)) (i : Nat) (hi : i ≤ xs.length) (w' : World) : (Instr.slice 22 (.slice A xs.length c) none (some (.int .i64 (i : Int))) none).run Tryd.prog w' = .ok (.slice A i c) w' := by
  have h1 : (0 : Int) ≤ (i : Int) := by omega
  have h2 : (i : Int) ≤ (c : Int) := by omega
  have h3 := h.2.1
  cases A with
  | none =>
    obtain rfl : c = 0 := hc.2 rfl
    obtain rfl : i = 0 := by omega
    have h0 : xs.length = 0 := by omega
    rw [h0]
    go_simp
  | some ad =>
    go_simp
/-- two digests on their way -/
structure Ap (w W : World) (g1 g2 : Nat) (ms mt : List Int) : Prop where
  s : St W g1 (fun k => g2 < k) ms
  t : St W g2 (fun k => g2 < k) mt
  keys : KeysAt W
  b : Below w.heap.size w W
  le : w.heap.size ≤ g1
  lt : g1 < g2
  h0 : 0 < w.heap.size
theorem ap_new {w wa w3 w4 : World} (hk : KeysAt w) (h0 : 0 < w.heap.size) (hb : Below w.heap.size w wa) (h3 : w3 = wa.alloc (.cells (stateCells Go.Proofs.YtldkofdpohaahaaDoor.New.h0 (.slice none 0 0) 0) 47)) (h4 : w4 = w3.alloc (.cells (stateCells Go.Proofs.YtldkofdpohaahaaDoor.New.h0 (.slice none 0 0) 0) 47)) : Ap w w4 wa.heap.size w3.heap.size [] [] := by
  have hs : w3.heap.size = wa.heap.size + 1 := by rw [h3]; simp
  have hb3 : Below w.heap.size w w3 := by rw [h3]; exact below_alloc hb _
  have hb4 : Below w3.heap.size w3 w4 := by rw [h4]; exact below_alloc (Below.refl _ _) _
  have s1 : St w3 wa.heap.size (fun k => w3.heap.size < k) [] := by
    rw [h3]; exact St.new wa _ (fun k hk => by rw [World.size_alloc] at hk; omega)
  have s2 : St w4 w3.heap.size (fun k => w3.heap.size < k) [] := by
    rw [h4]; exact St.new w3 _ (fun k hk => Nat.ne_of_gt hk)
  exact ⟨s1.below hb4, s2, hk.below (hb3.trans (hb4.mono hb3.size)) h0, hb3.trans (hb4.mono hb3.size), hb.size, by omega, h0⟩
theorem Ap.ws {w W : World} {g1 g2 : Nat} {ms mt : List Int} (h : Ap w W g1 g2 ms mt) (zs : List Int) {k : Nat} {B : Option Addr} (d : Nat) (hk : zs.length = k) (hr : ReadsInt w .u8 B k zs) (hz : Bytes8 zs) (hl : ms.length + zs.length < 1099511627776) :
    Calls Tryd.prog 11 #[.pointer (some ⟨g1, 0, none⟩), .slice B k d] W fun e w' => e = .returned (.tuple #[]) ∧ Ap w w' g1 g2 (ms ++ zs) mt := by
  subst hk
  have h1 := h.t.lt
  have h2 := h.le
  have h3 := h.lt
  have h4 := h.h0
  refine (write_any g1 _ ms zs B d W h.s (fun k hk => by omega) h.keys (by omega) (hr.below h.b) (ReadsInt.far hr h2) hz hl).mono ?_
  rintro e w' ⟨rfl, hst, hc⟩
  exact ⟨rfl, hst, h.t.ch hc (by omega) (fun k hk => by omega), h.keys.ch hc (by omega) (by omega), h.b.trans (hc.below h2 h.b.size), h2, h3, h4⟩
theorem Ap.wt {w W : World} {g1 g2 : Nat} {ms mt : List Int} (h : Ap w W g1 g2 ms mt) (zs : List Int) {k : Nat} {B : Option Addr} (d : Nat) (hk : zs.length = k) (hr : ReadsInt w .u8 B k zs) (hz : Bytes8 zs) (hl : mt.length + zs.length < 1099511627776) :
    Calls Tryd.prog 11 #[.pointer (some ⟨g2, 0, none⟩), .slice B k d] W fun e w' => e = .returned (.tuple #[]) ∧ Ap w w' g1 g2 ms (mt ++ zs) := by
  subst hk
  have h1 := h.t.lt
  have h2 := h.le
  have h3 := h.lt
  have h4 := h.h0
  refine (write_any g2 _ mt zs B d W h.t (fun k hk => by omega) h.keys (by omega) (hr.below h.b) (ReadsInt.far hr (by omega)) hz hl).mono ?_
  rintro e w' ⟨rfl, hst, hc⟩
  exact ⟨rfl, h.s.ch hc (by omega) (fun k hk => by omega), hst, h.keys.ch hc (by omega) (by omega), h.b.trans (hc.below (by omega) h.b.size), h2, h3, h4⟩
set_option maxHeartbeats 4000000 in
set_option maxRecDepth 100000 in
theorem apart_big1 (A B T : Option Addr) (c d e : Nat) (xs ys : List Int) (ts : List Bool) (w : World) (hA : ReadsInt w .u8 A xs.length xs) (hB : ReadsInt w .u8 B ys.length ys) (hT : ReadsB w T ts.length ts) (hca : xs.length ≤ c ∧ (A = none → c = 0)) (hcb : ys.length ≤ d ∧ (B = none → d = 0)) (hk : KeysAt w) (h0 : 0 < w.heap.size) (hx : Bytes8 xs) (hy : Bytes8 ys) (b0 : 3000 < xs.length) :
    Calls Tryd.prog 6 #[.slice A xs.length c, .slice B ys.length d, .slice T ts.length e] w fun e' w' => e' = .returned (.bool true) ∧ Below w.heap.size w w' := by
  have t0n := decide_eq_true (p := 3000 < xs.length) (by omega)
  have t0i := decide_eq_true (p := 3000 < (xs.length : Int)) (by omega)
  have HA := Aside0.mk hA
  have HBB := Aside0.mk hB
  have HT := Aside0.mk hT
  have HC := Aside0.mk (And.intro hca hcb)
  have HK := Aside0.mk hk
  have H0 := Aside0.mk h0
  have HX := Aside0.mk hx
  have HY := Aside0.mk hy
  have HB := Aside0.mk (Below.refl w.heap.size w)
  clear hA hB hT hca hcb hk h0 hx hy
  clear b0
  go_enter Tryd.func6, Tryd.ntmps6
  go_wp2_with (first | (go_at_call 7; (with_reducible refine (awake_any _ (HK.out.below HB.out H0.out) (Nat.lt_of_lt_of_le H0.out HB.out.size)).mono ?_); rintro e wa ⟨rfl, hb⟩; have n_ := Aside0.mk (below_step HB.out hb); clear HB; have HB := n_; clear n_ hb))
  go_ret
  exact ⟨rfl, HB.out⟩
set_option maxHeartbeats 4000000 in
set_option maxRecDepth 100000 in
theorem apart_big2 (A B T : Option Addr) (c d e : Nat) (xs ys : List Int) (ts : List Bool) (w : World) (hA : ReadsInt w .u8 A xs.length xs) (hB : ReadsInt w .u8 B ys.length ys) (hT : ReadsB w T ts.length ts) (hca : xs.length ≤ c ∧ (A = none → c = 0)) (hcb : ys.length ≤ d ∧ (B = none → d = 0)) (hk : KeysAt w) (h0 : 0 < w.heap.size) (hx : Bytes8 xs) (hy : Bytes8 ys) (b0 : ¬ 3000 < xs.length) (b1 : 3000 < ys.length) :
    Calls Tryd.prog 6 #[.slice A xs.length c, .slice B ys.length d, .slice T ts.length e] w fun e' w' => e' = .returned (.bool true) ∧ Below w.heap.size w w' := by
  have t0n := decide_eq_false (p := 3000 < xs.length) (by omega)
  have t0i := decide_eq_false (p := 3000 < (xs.length : Int)) (by omega)
  have t1n := decide_eq_true (p := 3000 < ys.length) (by omega)
  have t1i := decide_eq_true (p := 3000 < (ys.length : Int)) (by omega)
  have HA := Aside0.mk hA
  have HBB := Aside0.mk hB
  have HT := Aside0.mk hT
  have HC := Aside0.mk (And.intro hca hcb)
  have HK := Aside0.mk hk
  have H0 := Aside0.mk h0
  have HX := Aside0.mk hx
  have HY := Aside0.mk hy
  have HB := Aside0.mk (Below.refl w.heap.size w)
  clear hA hB hT hca hcb hk h0 hx hy
  clear b0 b1
  go_enter Tryd.func6, Tryd.ntmps6
  go_wp2_with (first | (go_at_call 7; (with_reducible refine (awake_any _ (HK.out.below HB.out H0.out) (Nat.lt_of_lt_of_le H0.out HB.out.size)).mono ?_); rintro e wa ⟨rfl, hb⟩; have n_ := Aside0.mk (below_step HB.out hb); clear HB; have HB := n_; clear n_ hb))
  go_ret
  exact ⟨rfl, HB.out⟩
set_option maxHeartbeats 4000000 in
set_option maxRecDepth 100000 in
theorem apart_big3 (A B T : Option Addr) (c d e : Nat) (xs ys : List Int) (ts : List Bool) (w : World) (hA : ReadsInt w .u8 A xs.length xs) (hB : ReadsInt w .u8 B ys.length ys) (hT : ReadsB w T ts.length ts) (hca : xs.length ≤ c ∧ (A = none → c = 0)) (hcb : ys.length ≤ d ∧ (B = none → d = 0)) (hk : KeysAt w) (h0 : 0 < w.heap.size) (hx : Bytes8 xs) (hy : Bytes8 ys) (b0 : ¬ 3000 < xs.length) (b1 : ¬ 3000 < ys.length) (b2 : 3000 < ts.length) :
    Calls Tryd.prog 6 #[.slice A xs.length c, .slice B ys.length d, .slice T ts.length e] w fun e' w' => e' = .returned (.bool true) ∧ Below w.heap.size w w' := by
  have t0n := decide_eq_false (p := 3000 < xs.length) (by omega)
  have t0i := decide_eq_false (p := 3000 < (xs.length : Int)) (by omega)
  have t1n := decide_eq_false (p := 3000 < ys.length) (by omega)
  have t1i := decide_eq_false (p := 3000 < (ys.length : Int)) (by omega)
  have t2n := decide_eq_true (p := 3000 < ts.length) (by omega)
  have t2i := decide_eq_true (p := 3000 < (ts.length : Int)) (by omega)
  have HA := Aside0.mk hA
  have HBB := Aside0.mk hB
  have HT := Aside0.mk hT
  have HC := Aside0.mk (And.intro hca hcb)
  have HK := Aside0.mk hk
  have H0 := Aside0.mk h0
  have HX := Aside0.mk hx
  have HY := Aside0.mk hy
  have HB := Aside0.mk (Below.refl w.heap.size w)
  clear hA hB hT hca hcb hk h0 hx hy
  clear b0 b1 b2
  go_enter Tryd.func6, Tryd.ntmps6
  go_wp2_with (first | (go_at_call 7; (with_reducible refine (awake_any _ (HK.out.below HB.out H0.out) (Nat.lt_of_lt_of_le H0.out HB.out.size)).mono ?_); rintro e wa ⟨rfl, hb⟩; have n_ := Aside0.mk (below_step HB.out hb); clear HB; have HB := n_; clear n_ hb))
  go_ret
  exact ⟨rfl, HB.out⟩
set_option maxHeartbeats 4000000 in
set_option maxRecDepth 100000 in
theorem apart_small (A B T : Option Addr) (c d e : Nat) (xs ys : List Int) (ts : List Bool) (w : World) (hA : ReadsInt w .u8 A xs.length xs) (hB : ReadsInt w .u8 B ys.length ys) (hT : ReadsB w T ts.length ts) (hca : xs.length ≤ c ∧ (A = none → c = 0)) (hcb : ys.length ≤ d ∧ (B = none → d = 0)) (hk : KeysAt w) (h0 : 0 < w.heap.size) (hx : Bytes8 xs) (hy : Bytes8 ys) (h1 : ¬ 3000 < xs.length) (h2 : ¬ 3000 < ys.length) (h3 : ¬ 3000 < ts.length) :
    Calls Tryd.prog 6 #[.slice A xs.length c, .slice B ys.length d, .slice T ts.length e] w fun e' w' => e' = .returned (.bool true) ∧ Below w.heap.size w w' := by
  have t0n := decide_eq_false (p := 3000 < xs.length) (by omega)
  have t0i := decide_eq_false (p := 3000 < (xs.length : Int)) (by omega)
  have t1n := decide_eq_false (p := 3000 < ys.length) (by omega)
  have t1i := decide_eq_false (p := 3000 < (ys.length : Int)) (by omega)
  have t2n := decide_eq_false (p := 3000 < ts.length) (by omega)
  have t2i := decide_eq_false (p := 3000 < (ts.length : Int)) (by omega)
  have HA := Aside0.mk hA
  have HBB := Aside0.mk hB
  have HT := Aside0.mk hT
  have HC := Aside0.mk (And.intro hca hcb)
  have HK := Aside0.mk hk
  have H0 := Aside0.mk h0
  have HX := Aside0.mk hx
  have HY := Aside0.mk hy
  have HB := Aside0.mk (Below.refl w.heap.size w)
  clear hA hB hT hca hcb hk h0 hx hy
  have HTOK := Aside0.mk True.intro
  have HL := Aside0.mk (And.intro h1 (And.intro h2 h3))
  clear h1 h2 h3
  go_enter Tryd.func6, Tryd.ntmps6
  go_wp2_with (first | (go_at_call 7; (with_reducible refine (awake_any _ (HK.out.below HB.out H0.out) (Nat.lt_of_lt_of_le H0.out HB.out.size)).mono ?_); rintro e wa ⟨rfl, hb⟩; have n_ := Aside0.mk (below_step HB.out hb); clear HB; have HB := n_; clear n_ hb) | (go_at_call 10; clear HTOK; (with_reducible refine (new_any _).mono ?_); rintro e w3 ⟨rfl, hw3⟩; have HW3 := Aside0.mk hw3; clear hw3) | (go_at_call 10; (with_reducible refine (new_any _).mono ?_); rintro e w4 ⟨rfl, hw4⟩; have HW4 := Aside0.mk hw4; clear hw4))
  have HAP := Aside0.mk (ap_new HK.out H0.out HB.out HW3.out HW4.out)
  obtain ⟨g1, hg1⟩ : ∃ x, x = wa.heap.size := ⟨_, rfl⟩
  obtain ⟨g2, hg2⟩ : ∃ x, x = w3.heap.size := ⟨_, rfl⟩
  rw [← hg1, ← hg2] at HAP ⊢
  clear hg1 hg2 HW3 HW4 HB
  go_loopg [9, 10, 11] (ts.length + 1) (fun kq v9 v10 v11 w' => ∃ i k n : Nat, v9 = .int .i64 i ∧ v10 = .int .i64 k ∧ v11 = .int .i64 n ∧ Aside0 (i ≤ xs.length ∧ k ≤ ys.length ∧ n ≤ ts.length ∧ ts.length - n < kq) ∧ Aside0 (Ap w w' g1 g2 (xs.take i) (ys.take k)))
  case atStart => exact ⟨0, 0, 0, rfl, rfl, rfl, ⟨Nat.zero_le _, Nat.zero_le _, Nat.zero_le _, by omega⟩, HAP⟩
  case round =>
    clear HAP
    obtain ⟨i, k, n, rfl, rfl, rfl, HI, HF⟩ := hrel
    cases gk with
    | zero => exact absurd HI.out.2.2.2 (by omega)
    | succ kk =>
      by_cases hn : n < ts.length
      · have s1 : decide (n < ts.length) = true := decide_eq_true hn
        obtain ⟨ad, rfl, hcell⟩ := HT.out.2.2 (by omega)
        have q1 := (HF.out.b.cell (World.block_lt_of_cell? w _ (hcell n hn))).trans (hcell n hn)
        obtain ⟨tn, htn⟩ : ∃ x, x = ts.getD n false := ⟨_, rfl⟩
        rw [← htn] at q1
        have hq0 := hcell n hn
        rw [← htn] at hq0
        have HQ := Aside0.mk hq0
        clear hq0
        have u1 := eq_true (show (0 : Int) ≤ (n : Int) by omega)
        have u2 := eq_true (show (n : Int) < (ts.length : Int) by omega)
        have hw : wrap64 ((n : Int) + 1) = ((n + 1 : Nat) : Int) := by have := HL.out.2.2; unfold wrap64; omega
        have HW := Aside0.mk hw
        have HN := Aside0.mk hn
        clear hcell htn hw
        cases tn
        · by_cases hx : k < ys.length
          · obtain ⟨ax, rfl, _⟩ := HBB.out.2.2 (by omega)
            have s2 : decide (k < ys.length) = true := decide_eq_true hx
            have u3 := eq_true (show (0 : Int) ≤ (k : Int) by omega)
            have u4 := eq_true (show (k : Int) + 1 ≤ (d : Int) by have := HC.out.2.1; omega)
            have u5 := eq_true (show (k : Int) ≤ (k : Int) + 1 by omega)
            have u6 := eq_true (show k < d by have := HC.out.2.1; omega)
            obtain ⟨c1', u7⟩ : ∃ c1', d - k = c1' + 1 := ⟨d - k - 1, by have := HC.out.2.1; omega⟩
            have hw2 : wrap64 ((k : Int) + 1) = (k : Int) + 1 := by have := HL.out; unfold wrap64; omega
            have HW2 := Aside0.mk (HF.out.wt [ys.getD k 0] (k := 1) (c1' + 1) rfl (reads_one HBB.out k hx) (fun y hy => by rw [List.mem_singleton.1 hy, List.getD_eq_getElem?_getD, List.getElem?_eq_getElem hx]; exact HY.out _ (List.getElem_mem _)) (by rw [List.length_take]; have := HL.out; show _ + 1 < _; omega))
            have HTK : Aside0 (ys.take (k + 1) = ys.take k ++ [ys.getD k 0]) := ⟨by rw [List.take_succ_eq_append_getElem hx, show ys.getD k 0 = ys[k] by simp [hx]]⟩
            have HX2 := Aside0.mk hx
            clear hx HF
            go_wp2_with (first | (go_at_call 11; (with_reducible refine HW2.out.mono ?_); rintro e' w5 ⟨rfl, hf⟩; have HF5 := Aside0.mk hf; have q5 := (hf.b.cell (World.block_lt_of_cell? w _ HQ.out)).trans HQ.out; clear hf HW2))
            go_roundg kk
            case measure => have := HI.out; have := HN.out; omega
            case rel => exact ⟨i, k + 1, n + 1, rfl, (by first | (rw [hw2]; push_cast; rfl) | (push_cast; rfl)), (by first | rw [HW.out] | (push_cast; rfl)), ⟨by have := HI.out; have := HX2.out; omega, by have := HI.out; have := HX2.out; omega, by have := HN.out; omega, by have := HI.out; have := HN.out; omega⟩, ⟨by rw [HTK.out]; exact HF5.out⟩⟩
          · have s2 : decide (k < ys.length) = false := decide_eq_false hx
            clear hx
            go_wp2
            go_roundg kk
            case measure => have := HI.out; have := HN.out; omega
            case rel => exact ⟨i, k, n + 1, rfl, rfl, (by first | rw [HW.out] | (push_cast; rfl)), ⟨by have := HI.out; omega, by have := HI.out; omega, by have := HN.out; omega, by have := HI.out; have := HN.out; omega⟩, HF⟩
        · by_cases hx : i < xs.length
          · obtain ⟨ax, rfl, _⟩ := HA.out.2.2 (by omega)
            have s2 : decide (i < xs.length) = true := decide_eq_true hx
            have u3 := eq_true (show (0 : Int) ≤ (i : Int) by omega)
            have u4 := eq_true (show (i : Int) + 1 ≤ (c : Int) by have := HC.out.1.1; omega)
            have u5 := eq_true (show (i : Int) ≤ (i : Int) + 1 by omega)
            have u6 := eq_true (show i < c by have := HC.out.1.1; omega)
            obtain ⟨c1', u7⟩ : ∃ c1', c - i = c1' + 1 := ⟨c - i - 1, by have := HC.out.1.1; omega⟩
            have hw2 : wrap64 ((i : Int) + 1) = (i : Int) + 1 := by have := HL.out; unfold wrap64; omega
            have HW2 := Aside0.mk (HF.out.ws [xs.getD i 0] (k := 1) (c1' + 1) rfl (reads_one HA.out i hx) (fun y hy => by rw [List.mem_singleton.1 hy, List.getD_eq_getElem?_getD, List.getElem?_eq_getElem hx]; exact HX.out _ (List.getElem_mem _)) (by rw [List.length_take]; have := HL.out; show _ + 1 < _; omega))
            have HTK : Aside0 (xs.take (i + 1) = xs.take i ++ [xs.getD i 0]) := ⟨by rw [List.take_succ_eq_append_getElem hx, show xs.getD i 0 = xs[i] by simp [hx]]⟩
            have HX2 := Aside0.mk hx
            clear hx HF
            go_wp2_with (first | (go_at_call 11; (with_reducible refine HW2.out.mono ?_); rintro e' w5 ⟨rfl, hf⟩; have HF5 := Aside0.mk hf; have q5 := (hf.b.cell (World.block_lt_of_cell? w _ HQ.out)).trans HQ.out; clear hf HW2))
            go_roundg kk
            case measure => have := HI.out; have := HN.out; omega
            case rel => exact ⟨i + 1, k, n + 1, (by first | (rw [hw2]; push_cast; rfl) | (push_cast; rfl)), rfl, (by first | rw [HW.out] | (push_cast; rfl)), ⟨by have := HI.out; have := HX2.out; omega, by have := HI.out; have := HX2.out; omega, by have := HN.out; omega, by have := HI.out; have := HN.out; omega⟩, ⟨by rw [HTK.out]; exact HF5.out⟩⟩
          · have s2 : decide (i < xs.length) = false := decide_eq_false hx
            clear hx
            go_wp2
            go_roundg kk
            case measure => have := HI.out; have := HN.out; omega
            case rel => exact ⟨i, k, n + 1, rfl, rfl, (by first | rw [HW.out] | (push_cast; rfl)), ⟨by have := HI.out; omega, by have := HI.out; omega, by have := HN.out; omega, by have := HI.out; have := HN.out; omega⟩, HF⟩
      · have s1 : decide (n < ts.length) = false := decide_eq_false hn
        obtain ⟨dA, hdA⟩ : ∃ x, x = digest (xs.take i) := ⟨_, rfl⟩
        obtain ⟨dB, hdB⟩ : ∃ x, x = digest (ys.take k) := ⟨_, rfl⟩
        have hz : 0 < wr.heap.size := Nat.lt_of_lt_of_le H0.out HF.out.b.size
        have HS1 : Aside0 (∀ w', Below wr.heap.size wr w' → Calls Tryd.prog 12 #[.pointer (some ⟨g1, 0, none⟩)] w' fun e w'' => e = .returned (.agg (rowB dA)) ∧ Below w'.heap.size w' w'') := ⟨fun w' hb => by
          rw [hdA]; exact sum_any g1 _ (xs.take i) w' (HF.out.s.below hb) (HF.out.keys.below hb hz) (by rw [List.length_take]; have := HL.out.1; omega)⟩
        have HS2 : Aside0 (∀ w', Below wr.heap.size wr w' → Calls Tryd.prog 12 #[.pointer (some ⟨g2, 0, none⟩)] w' fun e w'' => e = .returned (.agg (rowB dB)) ∧ Below w'.heap.size w' w'') := ⟨fun w' hb => by
          rw [hdB]; exact sum_any g2 _ (ys.take k) w' (HF.out.t.below hb) (HF.out.keys.below hb hz) (by rw [List.length_take]; have := HL.out.2.1; omega)⟩
        have HO1 : Aside0 (∀ W p, Below wr.heap.size wr W → W.heap[p]? = some (.cells #[.slice A i c] 22) → Calls Tryd.prog 8 #[.slice (some ⟨p, 0, none⟩) 1 1] W fun e w' => e = .returned (.agg (rowB dA)) ∧ Below W.heap.size W w') := ⟨fun W p hb hr => by
          rw [hdA]; exact of_row hr ((reads_take HA.out i HI.out.1).below (HF.out.b.trans (hb.mono HF.out.b.size))) (HF.out.keys.below hb hz) (Nat.lt_of_lt_of_le hz hb.size) (fun y hy => HX.out y (List.mem_of_mem_take hy)) (by rw [List.length_take]; have := HL.out.1; omega)⟩
        have HO2 : Aside0 (∀ W p, Below wr.heap.size wr W → W.heap[p]? = some (.cells #[.slice B k d] 22) → Calls Tryd.prog 8 #[.slice (some ⟨p, 0, none⟩) 1 1] W fun e w' => e = .returned (.agg (rowB dB)) ∧ Below W.heap.size W w') := ⟨fun W p hb hr => by
          rw [hdB]; exact of_row hr ((reads_take HBB.out k HI.out.2.1).below (HF.out.b.trans (hb.mono HF.out.b.size))) (HF.out.keys.below hb hz) (Nat.lt_of_lt_of_le hz hb.size) (fun y hy => HY.out y (List.mem_of_mem_take hy)) (by rw [List.length_take]; have := HL.out.2.1; omega)⟩
        have hsl1 : ∀ w', (Instr.slice 22 (.slice A xs.length c) none (some (.int .i64 (i : Int))) none).run Tryd.prog w' = .ok (.slice A i c) w' := fun w' => slice_to HA.out HC.out.1 i HI.out.1 w'
        have hsl2 : ∀ w', (Instr.slice 22 (.slice B ys.length d) none (some (.int .i64 (k : Int))) none).run Tryd.prog w' = .ok (.slice B k d) w' := fun w' => slice_to HBB.out HC.out.2 k HI.out.2.1 w'
        have heq1 : ∀ w', (Op.equalIn 10000 24 (.agg (rowB dA)) (.agg (rowB dA))).run Tryd.prog w' = .ok true w' := fun w' => eq24 dA w' (by rw [hdA]; exact digest_len _)
        have heq2 : ∀ w', (Op.equalIn 10000 24 (.agg (rowB dB)) (.agg (rowB dB))).run Tryd.prog w' = .ok true w' := fun w' => eq24 dB w' (by rw [hdB]; exact digest_len _)
        clear hn hdA hdB hz
        go_wp2
        refine start_any (n := 19) (S := fun w' => Below wr.heap.size wr w') (ds := []) #[false, false, false, false, false, false, false, false, false, false, false, false, false, false, false, false, false, false, false] (by kernel_rfl) rfl rfl (below_drew1 (Below.refl _ _)) (fun wz hHeld => ?_); refine with_tabW ap14.tab14 ap14.bits14 (fun HT_ HW_ => ?_)
        have HB := Aside0.mk hHeld
        refine pure_ (i := 0) (N := some 77) (v := ?_) (a' := ?_) #[true, false, false, false, false, false, false, false, false, false, false, false, false, false, false, false, false, false, false] rfl rfl (any_of HT_.out (by kernel_rfl)) (fun _ _ _ h => h) (Or.inl ⟨by rfl, ?_⟩) ?_ ?_
        rotate_left
        · intro w'
          go_simp
          with_reducible rfl
        rotate_left
        · simp only [Act.put, List.setIfInBounds_toArray, List.set_cons_zero, List.set_cons_succ, i64_w, i32_w]
          rfl
        refine pure_ (i := 2) (N := some 79) (v := ?_) (a' := ?_) #[true, false, true, false, false, false, false, false, false, false, false, false, false, false, false, false, false, false, false] rfl rfl (any_of HT_.out (by kernel_rfl)) (fun _ _ _ h => h) (Or.inl ⟨by rfl, ?_⟩) ?_ ?_
        rotate_left
        · intro w'
          go_simp
          with_reducible rfl
        rotate_left
        · simp only [Act.put, List.setIfInBounds_toArray, List.set_cons_zero, List.set_cons_succ, i64_w, i32_w]
          rfl
        refine pure_ (i := 3) (N := some 80) (v := ?_) (a' := ?_) #[true, false, true, true, false, false, false, false, false, false, false, false, false, false, false, false, false, false, false] rfl rfl (any_of HT_.out (by kernel_rfl)) (fun _ _ _ h => h) (Or.inl ⟨by rfl, ?_⟩) ?_ ?_
        rotate_left
        · intro w'
          go_simp
          with_reducible rfl
        rotate_left
        · simp only [Act.put, List.setIfInBounds_toArray, List.set_cons_zero, List.set_cons_succ, i64_w, i32_w]
          rfl
        refine pure_ (i := 4) (N := some 81) (v := ?_) (a' := ?_) #[true, false, true, true, true, false, false, false, false, false, false, false, false, false, false, false, false, false, false] rfl rfl (any_of HT_.out (by kernel_rfl)) (fun _ _ _ h => h) (Or.inl ⟨by rfl, ?_⟩) ?_ ?_
        rotate_left
        · intro w'
          go_simp
          with_reducible rfl
        rotate_left
        · simp only [Act.put, List.setIfInBounds_toArray, List.set_cons_zero, List.set_cons_succ, i64_w, i32_w]
          rfl
        refine join_ (σ := Nat) 13 #[true, true, true, true, true, true, false, false, false, false, false, false, false, false, false, false, false, false, false] (fun s => [(78, .agg (rowB dA)), (82, .slice (some ⟨s, 0, none⟩) 1 1)]) (fun s w' => Aside0 (w'.heap[s]? = some (.cells #[(.slice A i c)] 22)) ∧ Aside0 (Below wr.heap.size wr w')) (fun s wj HF => ?_) (fun hcont => ?_)
        rotate_left
        · refine two_ (i := 1) (j := 5) (Ni := some 78) (Nj := some 82) #[true, true, true, true, true, false, false, false, false, false, false, false, false, false, false, false, false, false, false] #[true, false, true, true, true, true, false, false, false, false, false, false, false, false, false, false, false, false, false] rfl rfl rfl rfl (two_of HT_.out (by kernel_rfl)) (by decide) (by decide) (fun K hK => ?_) (fun K hK => ?_)
          · refine goes_ Tryd.func12 (by kernel_rfl) rfl #[.pointer (some ⟨g1, 0, none⟩)] (by rfl) rfl rfl (by (try simp only [List.map_toArray, List.map_cons, List.map_nil]); first | done | rfl) ?_
            with_reducible refine (HS1.out _ HB.out).mono ?_
            rintro e y1 ⟨rfl, hb⟩
            refine ⟨_, rfl, ?_⟩
            have n_ := Aside0.mk (HB.out.trans (hb.mono HB.out.size))
            clear HB
            have HB := n_
            clear n_ hb
            refine hK.out _ _ HB.out (fun hHeld => ?_)
            clear hK K
            refine norm_ (a' := ?_) ?_ ?_
            rotate_left
            · show Act.put _ (some 78) _ = _
              simp only [Act.put, List.setIfInBounds_toArray, List.set_cons_zero, List.set_cons_succ, i64_w, i32_w]
              rfl
            refine one_ (i := 5) (N := some 82) #[true, true, true, true, true, true, false, false, false, false, false, false, false, false, false, false, false, false, false] rfl rfl (one_of HT_.out (by kernel_rfl)) (by decide) (fun K hK => ?_)
            have hal := row_of HB.out (.slice A i c)
            have hbl := HB.out.alloc HB.out.size (.cells #[(.slice A i c)] 22)
            refine value_ (w1 := ?_) (v := ?_) (by rfl) rfl ?_ ?_
            rotate_left 2
            · go_simp
              constructor
              · rfl
              · rfl
            have HP := Aside0.mk hal
            clear HB
            have HB := Aside0.mk hbl
            clear hal hbl
            refine hK.out _ _ HB.out (fun hHeld => ?_)
            clear hK K
            refine norm_ (a' := ?_) ?_ ?_
            rotate_left
            · show Act.put _ (some 82) _ = _
              simp only [Act.put, List.setIfInBounds_toArray, List.set_cons_zero, List.set_cons_succ, i64_w, i32_w]
              rfl
            exact hcont _ _ ⟨HP, HB⟩
          · have hal := row_of HB.out (.slice A i c)
            have hbl := HB.out.alloc HB.out.size (.cells #[(.slice A i c)] 22)
            refine value_ (w1 := ?_) (v := ?_) (by rfl) rfl ?_ ?_
            rotate_left 2
            · go_simp
              constructor
              · rfl
              · rfl
            have HP := Aside0.mk hal
            clear HB
            have HB := Aside0.mk hbl
            clear hal hbl
            refine hK.out _ _ HB.out (fun hHeld => ?_)
            clear hK K
            refine norm_ (a' := ?_) ?_ ?_
            rotate_left
            · show Act.put _ (some 82) _ = _
              simp only [Act.put, List.setIfInBounds_toArray, List.set_cons_zero, List.set_cons_succ, i64_w, i32_w]
              rfl
            refine one_ (i := 1) (N := some 78) #[true, true, true, true, true, true, false, false, false, false, false, false, false, false, false, false, false, false, false] rfl rfl (one_of HT_.out (by kernel_rfl)) (by decide) (fun K hK => ?_)
            refine goes_ Tryd.func12 (by kernel_rfl) rfl #[.pointer (some ⟨g1, 0, none⟩)] (by rfl) rfl rfl (by (try simp only [List.map_toArray, List.map_cons, List.map_nil]); first | done | rfl) ?_
            with_reducible refine (HS1.out _ HB.out).mono ?_
            rintro e y1' ⟨rfl, hb⟩
            refine ⟨_, rfl, ?_⟩
            have m_ := Aside0.mk ((hb.block _ (Array.getElem?_eq_some_iff.1 HP.out).1).trans HP.out)
            clear HP
            have HP := m_
            clear m_
            have n_ := Aside0.mk (HB.out.trans (hb.mono HB.out.size))
            clear HB
            have HB := n_
            clear n_ hb
            refine hK.out _ _ HB.out (fun hHeld => ?_)
            clear hK K
            refine norm_ (a' := ?_) ?_ ?_
            rotate_left
            · show Act.put _ (some 78) _ = _
              simp only [Act.put, List.setIfInBounds_toArray, List.set_cons_zero, List.set_cons_succ, i64_w, i32_w]
              rfl
            exact hcont _ _ ⟨HP, HB⟩
        obtain ⟨pA, hpA⟩ : ∃ x, x = s := ⟨_, rfl⟩
        subst hpA
        obtain ⟨HP, HB1⟩ := HF
        clear HB hHeld
        have HB := HB1
        have hHeld := HB.out
        clear HB1
        refine norm_ (a' := ?_) ?_ ?_
        rotate_left
        · simp only [putAll, Act.put, List.setIfInBounds_toArray, List.set_cons_zero, List.set_cons_succ, i64_w, i32_w]
          rfl
        refine one_ (i := 6) (N := some 83) #[true, true, true, true, true, true, true, false, false, false, false, false, false, false, false, false, false, false, false] rfl rfl (one_of HT_.out (by kernel_rfl)) (by decide) (fun K hK => ?_)
        refine goes_ Tryd.func8 (by kernel_rfl) rfl #[.slice (some ⟨pA, 0, none⟩) 1 1] (by rfl) rfl rfl (by (try simp only [List.map_toArray, List.map_cons, List.map_nil]); first | done | rfl) ?_
        with_reducible refine (HO1.out _ _ HB.out HP.out).mono ?_
        rintro e y2 ⟨rfl, hb⟩
        refine ⟨_, rfl, ?_⟩
        have n_ := Aside0.mk (HB.out.trans (hb.mono HB.out.size))
        clear HB HP
        have HB := n_
        clear n_ hb
        refine hK.out _ _ HB.out (fun hHeld => ?_)
        clear hK K
        refine norm_ (a' := ?_) ?_ ?_
        rotate_left
        · show Act.put _ (some 83) _ = _
          simp only [Act.put, List.setIfInBounds_toArray, List.set_cons_zero, List.set_cons_succ, i64_w, i32_w]
          rfl
        refine pure_ (i := 7) (N := some 84) (v := ?_) (a' := ?_) #[true, true, true, true, true, true, true, true, false, false, false, false, false, false, false, false, false, false, false] rfl rfl (any_of HT_.out (by kernel_rfl)) (fun _ _ _ h => h) (Or.inl ⟨by rfl, ?_⟩) ?_ ?_
        rotate_left
        · intro w'
          go_simp
          with_reducible rfl
        rotate_left
        · simp only [Act.put, List.setIfInBounds_toArray, List.set_cons_zero, List.set_cons_succ, i64_w, i32_w]
          rfl
        refine pure_ (i := 8) (N := some 85) (v := ?_) (a' := ?_) #[true, true, true, true, true, true, true, true, true, false, false, false, false, false, false, false, false, false, false] rfl rfl (any_of HT_.out (by kernel_rfl)) (fun _ _ _ h => h) (Or.inl ⟨by rfl, ?_⟩) ?_ ?_
        rotate_left
        · intro w'
          go_simp
          with_reducible rfl
        rotate_left
        · simp only [Act.put, List.setIfInBounds_toArray, List.set_cons_zero, List.set_cons_succ, i64_w, i32_w]
          rfl
        refine pure_ (i := 9) (N := some 86) (v := ?_) (a' := ?_) #[true, true, true, true, true, true, true, true, true, true, false, false, false, false, false, false, false, false, false] rfl rfl (any_of HT_.out (by kernel_rfl)) (fun _ _ _ h => h) (Or.inl ⟨by rfl, ?_⟩) ?_ ?_
        rotate_left
        · intro w'
          go_simp
          with_reducible rfl
        rotate_left
        · simp only [Act.put, List.setIfInBounds_toArray, List.set_cons_zero, List.set_cons_succ, i64_w, i32_w]
          rfl
        refine pure_ (i := 11) (N := some 88) (v := ?_) (a' := ?_) #[true, true, true, true, true, true, true, true, true, true, false, true, false, false, false, false, false, false, false] rfl rfl (any_of HT_.out (by kernel_rfl)) (fun _ _ _ h => h) (Or.inl ⟨by rfl, ?_⟩) ?_ ?_
        rotate_left
        · intro w'
          go_simp
          with_reducible rfl
        rotate_left
        · simp only [Act.put, List.setIfInBounds_toArray, List.set_cons_zero, List.set_cons_succ, i64_w, i32_w]
          rfl
        refine pure_ (i := 12) (N := some 89) (v := ?_) (a' := ?_) #[true, true, true, true, true, true, true, true, true, true, false, true, true, false, false, false, false, false, false] rfl rfl (any_of HT_.out (by kernel_rfl)) (fun _ _ _ h => h) (Or.inl ⟨by rfl, ?_⟩) ?_ ?_
        rotate_left
        · intro w'
          go_simp
          with_reducible rfl
        rotate_left
        · simp only [Act.put, List.setIfInBounds_toArray, List.set_cons_zero, List.set_cons_succ, i64_w, i32_w]
          rfl
        refine pure_ (i := 13) (N := some 90) (v := ?_) (a' := ?_) #[true, true, true, true, true, true, true, true, true, true, false, true, true, true, false, false, false, false, false] rfl rfl (any_of HT_.out (by kernel_rfl)) (fun _ _ _ h => h) (Or.inl ⟨by rfl, ?_⟩) ?_ ?_
        rotate_left
        · intro w'
          go_simp
          with_reducible rfl
        rotate_left
        · simp only [Act.put, List.setIfInBounds_toArray, List.set_cons_zero, List.set_cons_succ, i64_w, i32_w]
          rfl
        refine join_ (σ := Nat) 4 #[true, true, true, true, true, true, true, true, true, true, true, true, true, true, true, false, false, false, false] (fun s => [(87, .agg (rowB dB)), (91, .slice (some ⟨s, 0, none⟩) 1 1)]) (fun s w' => Aside0 (w'.heap[s]? = some (.cells #[(.slice B k d)] 22)) ∧ Aside0 (Below wr.heap.size wr w')) (fun s wj HF => ?_) (fun hcont => ?_)
        rotate_left
        · refine two_ (i := 10) (j := 14) (Ni := some 87) (Nj := some 91) #[true, true, true, true, true, true, true, true, true, true, true, true, true, true, false, false, false, false, false] #[true, true, true, true, true, true, true, true, true, true, false, true, true, true, true, false, false, false, false] rfl rfl rfl rfl (two_of HT_.out (by kernel_rfl)) (by decide) (by decide) (fun K hK => ?_) (fun K hK => ?_)
          · refine goes_ Tryd.func12 (by kernel_rfl) rfl #[.pointer (some ⟨g2, 0, none⟩)] (by rfl) rfl rfl (by (try simp only [List.map_toArray, List.map_cons, List.map_nil]); first | done | rfl) ?_
            with_reducible refine (HS2.out _ HB.out).mono ?_
            rintro e y3 ⟨rfl, hb⟩
            refine ⟨_, rfl, ?_⟩
            have n_ := Aside0.mk (HB.out.trans (hb.mono HB.out.size))
            clear HB
            have HB := n_
            clear n_ hb
            refine hK.out _ _ HB.out (fun hHeld => ?_)
            clear hK K
            refine norm_ (a' := ?_) ?_ ?_
            rotate_left
            · show Act.put _ (some 87) _ = _
              simp only [Act.put, List.setIfInBounds_toArray, List.set_cons_zero, List.set_cons_succ, i64_w, i32_w]
              rfl
            refine one_ (i := 14) (N := some 91) #[true, true, true, true, true, true, true, true, true, true, true, true, true, true, true, false, false, false, false] rfl rfl (one_of HT_.out (by kernel_rfl)) (by decide) (fun K hK => ?_)
            have hal := row_of HB.out (.slice B k d)
            have hbl := HB.out.alloc HB.out.size (.cells #[(.slice B k d)] 22)
            refine value_ (w1 := ?_) (v := ?_) (by rfl) rfl ?_ ?_
            rotate_left 2
            · go_simp
              constructor
              · rfl
              · rfl
            have HP := Aside0.mk hal
            clear HB
            have HB := Aside0.mk hbl
            clear hal hbl
            refine hK.out _ _ HB.out (fun hHeld => ?_)
            clear hK K
            refine norm_ (a' := ?_) ?_ ?_
            rotate_left
            · show Act.put _ (some 91) _ = _
              simp only [Act.put, List.setIfInBounds_toArray, List.set_cons_zero, List.set_cons_succ, i64_w, i32_w]
              rfl
            exact hcont _ _ ⟨HP, HB⟩
          · have hal := row_of HB.out (.slice B k d)
            have hbl := HB.out.alloc HB.out.size (.cells #[(.slice B k d)] 22)
            refine value_ (w1 := ?_) (v := ?_) (by rfl) rfl ?_ ?_
            rotate_left 2
            · go_simp
              constructor
              · rfl
              · rfl
            have HP := Aside0.mk hal
            clear HB
            have HB := Aside0.mk hbl
            clear hal hbl
            refine hK.out _ _ HB.out (fun hHeld => ?_)
            clear hK K
            refine norm_ (a' := ?_) ?_ ?_
            rotate_left
            · show Act.put _ (some 91) _ = _
              simp only [Act.put, List.setIfInBounds_toArray, List.set_cons_zero, List.set_cons_succ, i64_w, i32_w]
              rfl
            refine one_ (i := 10) (N := some 87) #[true, true, true, true, true, true, true, true, true, true, true, true, true, true, true, false, false, false, false] rfl rfl (one_of HT_.out (by kernel_rfl)) (by decide) (fun K hK => ?_)
            refine goes_ Tryd.func12 (by kernel_rfl) rfl #[.pointer (some ⟨g2, 0, none⟩)] (by rfl) rfl rfl (by (try simp only [List.map_toArray, List.map_cons, List.map_nil]); first | done | rfl) ?_
            with_reducible refine (HS2.out _ HB.out).mono ?_
            rintro e y3' ⟨rfl, hb⟩
            refine ⟨_, rfl, ?_⟩
            have m_ := Aside0.mk ((hb.block _ (Array.getElem?_eq_some_iff.1 HP.out).1).trans HP.out)
            clear HP
            have HP := m_
            clear m_
            have n_ := Aside0.mk (HB.out.trans (hb.mono HB.out.size))
            clear HB
            have HB := n_
            clear n_ hb
            refine hK.out _ _ HB.out (fun hHeld => ?_)
            clear hK K
            refine norm_ (a' := ?_) ?_ ?_
            rotate_left
            · show Act.put _ (some 87) _ = _
              simp only [Act.put, List.setIfInBounds_toArray, List.set_cons_zero, List.set_cons_succ, i64_w, i32_w]
              rfl
            exact hcont _ _ ⟨HP, HB⟩
        obtain ⟨pB, hpB⟩ : ∃ x, x = s := ⟨_, rfl⟩
        subst hpB
        obtain ⟨HP, HB1⟩ := HF
        clear HB hHeld
        have HB := HB1
        have hHeld := HB.out
        clear HB1
        refine norm_ (a' := ?_) ?_ ?_
        rotate_left
        · simp only [putAll, Act.put, List.setIfInBounds_toArray, List.set_cons_zero, List.set_cons_succ, i64_w, i32_w]
          rfl
        refine one_ (i := 15) (N := some 92) #[true, true, true, true, true, true, true, true, true, true, true, true, true, true, true, true, false, false, false] rfl rfl (one_of HT_.out (by kernel_rfl)) (by decide) (fun K hK => ?_)
        refine goes_ Tryd.func8 (by kernel_rfl) rfl #[.slice (some ⟨pB, 0, none⟩) 1 1] (by rfl) rfl rfl (by (try simp only [List.map_toArray, List.map_cons, List.map_nil]); first | done | rfl) ?_
        with_reducible refine (HO2.out _ _ HB.out HP.out).mono ?_
        rintro e y4 ⟨rfl, hb⟩
        refine ⟨_, rfl, ?_⟩
        have n_ := Aside0.mk (HB.out.trans (hb.mono HB.out.size))
        clear HB HP
        have HB := n_
        clear n_ hb
        refine hK.out _ _ HB.out (fun hHeld => ?_)
        clear hK K
        refine norm_ (a' := ?_) ?_ ?_
        rotate_left
        · show Act.put _ (some 92) _ = _
          simp only [Act.put, List.setIfInBounds_toArray, List.set_cons_zero, List.set_cons_succ, i64_w, i32_w]
          rfl
        refine pure_ (i := 16) (N := some 93) (v := ?_) (a' := ?_) #[true, true, true, true, true, true, true, true, true, true, true, true, true, true, true, true, true, false, false] rfl rfl (any_of HT_.out (by kernel_rfl)) (fun _ _ _ h => h) (Or.inl ⟨by rfl, ?_⟩) ?_ ?_
        rotate_left
        · intro w'
          go_simp
          with_reducible rfl
        rotate_left
        · simp only [Act.put, List.setIfInBounds_toArray, List.set_cons_zero, List.set_cons_succ, i64_w, i32_w]
          rfl
        refine pure_ (i := 17) (N := some 94) (v := ?_) (a' := ?_) #[true, true, true, true, true, true, true, true, true, true, true, true, true, true, true, true, true, true, false] rfl rfl (any_of HT_.out (by kernel_rfl)) (fun _ _ _ h => h) (Or.inl ⟨by rfl, ?_⟩) ?_ ?_
        rotate_left
        · intro w'
          go_simp
          with_reducible rfl
        rotate_left
        · simp only [Act.put, List.setIfInBounds_toArray, List.set_cons_zero, List.set_cons_succ, i64_w, i32_w]
          rfl
        refine pure_ (i := 18) (N := some 6) (v := ?_) (a' := ?_) #[true, true, true, true, true, true, true, true, true, true, true, true, true, true, true, true, true, true, true] rfl rfl (any_of HT_.out (by kernel_rfl)) (fun _ _ _ h => h) (Or.inl ⟨by rfl, ?_⟩) ?_ ?_
        rotate_left
        · intro w'
          go_simp
          with_reducible rfl
        rotate_left
        · simp only [Act.put, List.setIfInBounds_toArray, List.set_cons_zero, List.set_cons_succ, i64_w, i32_w]
          rfl
        refine done_ (done_of HT_.out (by kernel_rfl)) ?_
        go_wp2
        go_ret
        exact ⟨rfl, HF.out.b.trans (HB.out.mono HF.out.b.size)⟩
theorem apart_law (A B T : Option Addr) (c d e : Nat) (xs ys : List Int) (ts : List Bool) (w : World) (hA : ReadsInt w .u8 A xs.length xs) (hB : ReadsInt w .u8 B ys.length ys) (hT : ReadsB w T ts.length ts) (hca : xs.length ≤ c ∧ (A = none → c = 0)) (hcb : ys.length ≤ d ∧ (B = none → d = 0)) (hk : KeysAt w) (h0 : 0 < w.heap.size) (hx : Bytes8 xs) (hy : Bytes8 ys) :
    Calls Tryd.prog 6 #[.slice A xs.length c, .slice B ys.length d, .slice T ts.length e] w fun e' w' => e' = .returned (.bool true) ∧ Below w.heap.size w w' := by
  by_cases h1 : 3000 < xs.length
  · exact apart_big1 A B T c d e xs ys ts w hA hB hT hca hcb hk h0 hx hy h1
  · by_cases h2 : 3000 < ys.length
    · exact apart_big2 A B T c d e xs ys ts w hA hB hT hca hcb hk h0 hx hy h1 h2
    · by_cases h3 : 3000 < ts.length
      · exact apart_big3 A B T c d e xs ys ts w hA hB hT hca hcb hk h0 hx hy h1 h2 h3
      · exact apart_small A B T c d e xs ys ts w hA hB hT hca hcb hk h0 hx hy h1 h2 h3
end Go.Proofs.YtldkofdpohaahaaDoor.Apart
