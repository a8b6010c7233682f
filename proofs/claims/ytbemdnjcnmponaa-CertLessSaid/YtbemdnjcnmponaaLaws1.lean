/- What is wrong with any certificate first is the reference's (CertChecks): the walk of the law; for every certificate. -/
import Derived.Test.YtbemdnjcnmponaaAwake
import Derived.Laws.Rows
namespace Go.Proofs.Ytbemdnjcnmponaa.Laws1
open Go.RowKit Go.Proofs.YtbemdnjcnmponaaW.PrintWords Go.Proofs.YtbemdnjcnmponaaW.PrintLast Go.Proofs.YtbemdnjcnmponaaW.PrintMore Go.Proofs.Ytbemdnjcnmponaa.PCertSame Go.Proofs.Ytbemdnjcnmponaa.Data Go.Proofs.Ytbemdnjcnmponaa.Within Go.Proofs.Ytbemdnjcnmponaa.Section Go.Proofs.Ytbemdnjcnmponaa.Plain Go.Proofs.Ytbemdnjcnmponaa.Check Go.Proofs.Ytbemdnjcnmponaa.RefCheck Go.Proofs.Ytbemdnjcnmponaa.Awake
set_option linter.unusedVariables false
set_option linter.unusedSimpArgs false

theorem box_block (cs : Array Value) (w : World) : ∀ w', Below (w.alloc (.cells cs 26)).heap.size (w.alloc (.cells cs 26)) w' → w'.heap[w.heap.size]? = some (.cells cs 26) := fun w' hb => by
  rw [hb.block w.heap.size (by simp)]; exact heap_alloc_new w _
theorem size26 {cs : Array Value} (h : cs.size = 34) : (Try.prog.info? 26).map (·.size) = some cs.size := by rw [h]; kernel_rfl

/-- lengths that a call's values have -/
def Short (c : Crt) : Prop := ∀ s ∈ c.secs, s.held.length ≤ 9223372036854775807 ∧ s.live.length ≤ 9223372036854775807

theorem few_is (c : Crt) (cs : Array Value) (A B : Option Addr) (a b : Nat) (r : Bool) (w : World) (h : CrtVal w c cs A a B b) (hh : Short c) (hr : fewOk c = r) :
    Calls Try.prog 9 #[.agg cs] w fun e w' => e = .returned (.bool r) ∧ Below w.heap.size w w' := by
  rw [← hr]; exact few_any c cs A B a b w h (fun s hs => by have := hh s hs; omega)
theorem check_is (c : Crt) (cs : Array Value) (A B : Option Addr) (a b : Nat) (n e : Int) (w : World) (h : CrtVal w c cs A a B b) (hh : Short c) (hr : chk c = (n, e)) :
    Calls Try.prog 10 #[.agg cs] w fun e' w' => e' = .returned (.tuple #[.int .i64 n, .int .i64 e]) ∧ Below w.heap.size w w' := by
  have := check_any c cs A B a b w h hh
  rw [hr] at this; exact this
theorem ref_is (c : Crt) (cs : Array Value) (A B : Option Addr) (a b : Nat) (n e : Int) (w : World) (h : CrtVal w c cs A a B b) (hg : ∀ s ∈ c.secs, s.Good) (hr : chk c = (n, e)) :
    Calls Try.prog 11 #[.agg cs] w fun e' w' => e' = .returned (.tuple #[.int .i64 n, .int .i64 e]) ∧ Below w.heap.size w w' := by
  have := ref_any c cs A B a b w h hg
  rw [hr] at this; exact this

set_option maxHeartbeats 2000000 in
set_option maxRecDepth 100000 in
theorem checks_few (c : Crt) (cs : Array Value) (A B : Option Addr) (a b : Nat) (w : World) (h : CrtVal w c cs A a B b) (hg : ∀ s ∈ c.secs, s.Good) (hh : Short c) (hf : fewOk c = true) (n e : Int) (hc : chk c = (n, e)) :
    Calls Try.prog 3 #[.agg cs] w fun e w' => e = .returned (.bool true) ∧ Below w.heap.size w w' := by
  have HB := Aside0.mk (Below.refl (w.alloc (.cells cs 26)).heap.size (w.alloc (.cells cs 26)))
  have HB0 := Aside0.mk (below_alloc (Below.refl w.heap.size w) (.cells cs 26))
  have HX := Aside0.mk (box_block cs w)
  have HZ := Aside0.mk (size26 h.size)
  have HV := Aside0.mk h
  have HH := Aside0.mk hh
  have HF := Aside0.mk hf
  have HC := Aside0.mk hc
  have HG := Aside0.mk hg
  clear h hh hf hc hg
  go_enter Try.func3, Try.ntmps3
  go_wp2_with (first | ((with_reducible refine gate_callee (f := 8) rfl ?_); refine goesL_ (some 7) rfl rfl Try.func8 (by kernel_rfl) rfl #[] rfl (by (try simp only [List.map_toArray, List.map_cons, List.map_nil]); first | done | rfl) ?_; (with_reducible refine (awake_any _).mono ?_); rintro e w1 ⟨rfl, hb⟩; refine ⟨_, rfl, ?_⟩; have n_ := Aside0.mk (below_step HB.out hb); clear HB; have HB := n_; clear n_ hb) | ((with_reducible refine gate_dst (N := 10) rfl ?_); refine gate_guard (by rfl) ?_; refine wpList_load_row rfl 26 (.tmp 1) rfl w.heap.size rfl 26 cs (0, 0) _ (HX.out _ HB.out) Try.underlying26 rfl HZ.out ?_) | ((with_reducible refine gate_dst (N := 16) rfl ?_); refine wpList_load_row rfl 26 (.tmp 1) rfl w.heap.size rfl 26 cs (0, 0) _ (HX.out _ HB.out) Try.underlying26 rfl HZ.out ?_) | ((with_reducible refine gate_dst (N := 21) rfl ?_); refine wpList_load_row rfl 26 (.tmp 1) rfl w.heap.size rfl 26 cs (0, 0) _ (HX.out _ HB.out) Try.underlying26 rfl HZ.out ?_) | (go_at_call 9; (with_reducible refine (few_is c cs A B a b true _ (HV.out.below (below_step HB0.out HB.out)) HH.out HF.out).mono ?_); rintro e w2 ⟨rfl, hb⟩; have n_ := Aside0.mk (below_step HB.out hb); clear HB; have HB := n_; clear n_ hb) | (go_at_call 10; (with_reducible refine (check_is c cs A B a b n e _ (HV.out.below (below_step HB0.out HB.out)) HH.out HC.out).mono ?_); rintro e' w3 ⟨rfl, hb⟩; have n_ := Aside0.mk (below_step HB.out hb); clear HB; have HB := n_; clear n_ hb) | (go_at_call 11; (with_reducible refine (ref_is c cs A B a b n e _ (HV.out.below (below_step HB0.out HB.out)) HG.out HC.out).mono ?_); rintro e' w4 ⟨rfl, hb⟩; have n_ := Aside0.mk (below_step HB.out hb); clear HB; have HB := n_; clear n_ hb))
  go_ret
  exact ⟨by first | rfl | (simp; done), below_step HB0.out HB.out⟩

set_option maxHeartbeats 2000000 in
set_option maxRecDepth 100000 in
theorem checks_many (c : Crt) (cs : Array Value) (A B : Option Addr) (a b : Nat) (w : World) (h : CrtVal w c cs A a B b) (hh : Short c) (hf : fewOk c = false) :
    Calls Try.prog 3 #[.agg cs] w fun e w' => e = .returned (.bool true) ∧ Below w.heap.size w w' := by
  have HB := Aside0.mk (Below.refl (w.alloc (.cells cs 26)).heap.size (w.alloc (.cells cs 26)))
  have HB0 := Aside0.mk (below_alloc (Below.refl w.heap.size w) (.cells cs 26))
  have HX := Aside0.mk (box_block cs w)
  have HZ := Aside0.mk (size26 h.size)
  have HV := Aside0.mk h
  have HH := Aside0.mk hh
  have HF := Aside0.mk hf
  clear h hh hf
  go_enter Try.func3, Try.ntmps3
  go_wp2_with (first | ((with_reducible refine gate_callee (f := 8) rfl ?_); refine goesL_ (some 7) rfl rfl Try.func8 (by kernel_rfl) rfl #[] rfl (by (try simp only [List.map_toArray, List.map_cons, List.map_nil]); first | done | rfl) ?_; (with_reducible refine (awake_any _).mono ?_); rintro e w1 ⟨rfl, hb⟩; refine ⟨_, rfl, ?_⟩; have n_ := Aside0.mk (below_step HB.out hb); clear HB; have HB := n_; clear n_ hb) | ((with_reducible refine gate_dst (N := 10) rfl ?_); refine gate_guard (by rfl) ?_; refine wpList_load_row rfl 26 (.tmp 1) rfl w.heap.size rfl 26 cs (0, 0) _ (HX.out _ HB.out) Try.underlying26 rfl HZ.out ?_) | (go_at_call 9; (with_reducible refine (few_is c cs A B a b false _ (HV.out.below (below_step HB0.out HB.out)) HH.out HF.out).mono ?_); rintro e w2 ⟨rfl, hb⟩; have n_ := Aside0.mk (below_step HB.out hb); clear HB; have HB := n_; clear n_ hb) | (go_at_call 8; (with_reducible refine (awake_any _).mono ?_); rintro e w5 ⟨rfl, hb⟩; have n_ := Aside0.mk (below_step HB.out hb); clear HB; have HB := n_; clear n_ hb))
  go_ret
  exact ⟨by first | rfl | (simp; done), below_step HB0.out HB.out⟩

theorem checks_law (c : Crt) (cs : Array Value) (A B : Option Addr) (a b : Nat) (w : World) (h : CrtVal w c cs A a B b) (hg : ∀ s ∈ c.secs, s.Good) (hh : Short c) :
    Calls Try.prog 3 #[.agg cs] w fun e w' => e = .returned (.bool true) ∧ Below w.heap.size w w' := by
  cases hf : fewOk c with
  | true => exact checks_few c cs A B a b w h hg hh hf (chk c).1 (chk c).2 rfl
  | false => exact checks_many c cs A B a b w h hh hf

/-! ### an argument that can be read -/
theorem short_of {w : World} {A : Option Addr} {n : Nat} {xs : List Sec} (h : Kd.C kSec w A n xs) : ∀ s ∈ xs, s.held.length ≤ 9223372036854775807 ∧ s.live.length ≤ 9223372036854775807 := by
  intro s hs
  obtain ⟨j, hj⟩ := List.mem_iff_getElem?.1 hs
  have hjl : j < xs.length := (List.getElem?_eq_some_iff.1 hj).1
  have hn : xs.length = n := h.1
  obtain ⟨ad, _, hc⟩ := h.2.2 (by omega)
  obtain ⟨c, _, hK, _⟩ := hc j s hj
  obtain ⟨A1, c1, B1, c1', _, _, h3, _, h5⟩ := kSec_open hK
  have := Kd.C_max h3
  have := Kd.C_max h5
  omega

theorem open_crt {H : Type} {enc : TypeId × Value → H} {w : World} {base : Nat} {spare : Nat → Bool} {held : Bool} {v : Value} {d : DataW H} {p : List MemPlace} (h : DataW.Trod enc Try.prog w base spare held 26 v d p) :
    ∃ (cs : Array Value) (c : Crt) (A : Option Addr) (a : Nat) (B : Option Addr) (b : Nat), v = .agg cs ∧ CrtVal w c cs A a B b ∧ c.Good ∧ Short c ∧ cs = (c.dig.map (Value.int .u8) ++ [Value.slice A c.secs.length a, Value.slice B c.justs.length b]).toArray ∧ c.dig.length = 32 := by
  obtain ⟨fuel, hf⟩ := h
  obtain ⟨c, hk, hg⟩ := opens_crt H enc w base spare held fuel _ _ hf
  obtain ⟨A, a, B, b, hcs, hd, h1, h2, h3, h4⟩ := kCrt_open hk
  have hlen : v.cells.toList.length = 34 := by rw [hcs]; simp [hd]
  have hv : ∃ cs, v = .agg cs := by
    cases v <;> first | exact ⟨_, rfl⟩ | (simp [Value.cells] at hlen)
  obtain ⟨cs, rfl⟩ := hv
  have hcs' : cs.toList = c.dig.map (Value.int .u8) ++ [.slice A c.secs.length a, .slice B c.justs.length b] := hcs
  have hl : (c.dig.map (Value.int .u8)).length = 32 := by simp [hd]
  have hsz : cs.toList.length = 34 := hlen
  refine ⟨cs, c, A, a, B, b, rfl, ⟨by simpa using hsz, ?_, ?_, h1, h3, h2, h4⟩, hg, short_of h2, ?_, hd⟩
  · rw [← Array.getElem?_toList, hcs', List.getElem?_append_right (by omega), hl]; rfl
  · rw [← Array.getElem?_toList, hcs', List.getElem?_append_right (by omega), hl]; rfl
  · rw [← hcs']
end Go.Proofs.Ytbemdnjcnmponaa.Laws1
