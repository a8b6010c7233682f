/- Any bytes' digest is the document's (ShaPlays): the walk of the law; for all bytes. -/
import Derived.Test.YtldkofdpohaahaaDoorRefOf
namespace Go.Proofs.YtldkofdpohaahaaDoor.Plays
open Go.RowKit Go.Proofs.YtldkofdpohaahaaDoorW.PrintWords Go.Proofs.YtldkofdpohaahaaDoorW.PrintLast Go.Proofs.YtldkofdpohaahaaDoorW.PrintMore Go.Proofs.YtldkofdpohaahaaDoor.New Go.Proofs.YtldkofdpohaahaaDoor.Plain Go.Proofs.YtldkofdpohaahaaDoor.Rounds Go.Proofs.YtldkofdpohaahaaDoor.Mix Go.Proofs.YtldkofdpohaahaaDoor.Eat Go.Proofs.YtldkofdpohaahaaDoor.Write Go.Proofs.YtldkofdpohaahaaDoor.Pad Go.Proofs.YtldkofdpohaahaaDoor.Of Go.Proofs.YtldkofdpohaahaaDoor.Awake Go.Proofs.YtldkofdpohaahaaDoor.Eq
open Go.Proofs.YtldkofdpohaahaaDoor.Sum hiding start_any
set_option linter.unusedVariables false
set_option linter.unusedSimpArgs false
open Go.Proofs.YtldkofdpohaahaaDoor.RefOf hiding start_any
set_option maxHeartbeats 4000000 in
set_option maxRecDepth 100000 in
theorem plays_big (A : Option Addr) (c : Nat) (xs : List Int) (w : World) (hA : ReadsInt w .u8 A xs.length xs) (hk : KeysAt w) (h0 : 0 < w.heap.size) (hx : Bytes8 xs) (hl : 3000 < xs.length) :
    Calls Tryd.prog 3 #[.slice A xs.length c] w fun e w' => e = .returned (.bool true) ∧ Below w.heap.size w w' := by
  have t1 : decide (3000 < xs.length) = true := decide_eq_true hl
  have t2 : decide (3000 < (xs.length : Int)) = true := decide_eq_true (by omega)
  have HA := Aside0.mk hA
  have HK := Aside0.mk hk
  have H0 := Aside0.mk h0
  have HX := Aside0.mk hx
  have HB := Aside0.mk (Below.refl w.heap.size w)
  clear hA hk h0 hx
  clear hl
  go_enter Tryd.func3, Tryd.ntmps3
  go_wp2_with (first | (go_at_call 7; (with_reducible refine (awake_any _ (HK.out.below HB.out H0.out) (Nat.lt_of_lt_of_le H0.out HB.out.size)).mono ?_); rintro e wa ⟨rfl, hb⟩; have n_ := Aside0.mk (below_step HB.out hb); clear HB; have HB := n_; clear n_ hb))
  go_ret
  exact ⟨rfl, HB.out⟩
set_option maxHeartbeats 4000000 in
set_option maxRecDepth 100000 in
theorem plays_small (A : Option Addr) (c : Nat) (xs : List Int) (w : World) (hA : ReadsInt w .u8 A xs.length xs) (hk : KeysAt w) (h0 : 0 < w.heap.size) (hx : Bytes8 xs) (hl : ¬ 3000 < xs.length) :
    Calls Tryd.prog 3 #[.slice A xs.length c] w fun e w' => e = .returned (.bool true) ∧ Below w.heap.size w w' := by
  have t1 : decide (3000 < xs.length) = false := decide_eq_false hl
  have t2 : decide (3000 < (xs.length : Int)) = false := decide_eq_false (by omega)
  have HL := Aside0.mk hl
  obtain ⟨dg, hdg⟩ : ∃ x, x = digest xs := ⟨_, rfl⟩
  have HD := Aside0.mk hdg
  have heq : ∀ w', (Op.equalIn 10000 24 (.agg (rowB dg)) (.agg (rowB dg))).run Tryd.prog w' = .ok true w' := fun w' => eq24 dg w' (by rw [hdg]; exact digest_len _)
  have HA := Aside0.mk hA
  have HK := Aside0.mk hk
  have H0 := Aside0.mk h0
  have HX := Aside0.mk hx
  have HB := Aside0.mk (Below.refl w.heap.size w)
  clear hA hk h0 hx
  clear hl hdg
  go_enter Tryd.func3, Tryd.ntmps3
  go_wp2_with (first | (go_at_call 7; (with_reducible refine (awake_any _ (HK.out.below HB.out H0.out) (Nat.lt_of_lt_of_le H0.out HB.out.size)).mono ?_); rintro e wa ⟨rfl, hb⟩; have n_ := Aside0.mk (below_step HB.out hb); clear HB; have HB := n_; clear n_ hb; have HO1 := Aside0.mk (of1 wa (HK.out.below HB.out H0.out) (Nat.lt_of_lt_of_le H0.out HB.out.size) A xs c (HA.out.below HB.out) HX.out (by have := HL.out; omega) rfl); rw [← HD.out] at HO1) | (go_at_call 8; (with_reducible refine HO1.out.mono ?_); rintro e w5 ⟨rfl, hb⟩; have n_ := Aside0.mk (below_step HB.out hb); clear HB; have HB := n_; have HO2 := Aside0.mk (ref_any A c xs w5 (HA.out.below HB.out) (by have := HL.out; omega) HX.out); rw [← HD.out] at HO2; clear n_ hb HO1) | (go_at_call 9; (with_reducible refine HO2.out.mono ?_); rintro e w6 ⟨rfl, hb⟩; have n_ := Aside0.mk (below_step HB.out hb); clear HB; have HB := n_; clear n_ hb HO2))
  go_ret
  exact ⟨rfl, HB.out⟩
theorem plays_law (A : Option Addr) (c : Nat) (xs : List Int) (w : World) (hA : ReadsInt w .u8 A xs.length xs) (hk : KeysAt w) (h0 : 0 < w.heap.size) (hx : Bytes8 xs) :
    Calls Tryd.prog 3 #[.slice A xs.length c] w fun e w' => e = .returned (.bool true) ∧ Below w.heap.size w w' := by
  by_cases h1 : 3000 < xs.length
  · exact plays_big A c xs w hA hk h0 hx h1
  · exact plays_small A c xs w hA hk h0 hx h1
end Go.Proofs.YtldkofdpohaahaaDoor.Plays
