/- The digest of parts (sha.Of): its contract; for fewer than 2^39 bytes. -/
import Derived.Test.YtldkofdpohaahaaDoorSum
namespace Go.Proofs.YtldkofdpohaahaaDoor.Of
open Go.RowKit Go.Proofs.YtldkofdpohaahaaDoorW.PrintWords Go.Proofs.YtldkofdpohaahaaDoorW.PrintLast Go.Proofs.YtldkofdpohaahaaDoorW.PrintMore Go.Proofs.YtldkofdpohaahaaDoor.New Go.Proofs.YtldkofdpohaahaaDoor.Plain Go.Proofs.YtldkofdpohaahaaDoor.Spread Go.Proofs.YtldkofdpohaahaaDoor.Rounds Go.Proofs.YtldkofdpohaahaaDoor.Mix Go.Proofs.YtldkofdpohaahaaDoor.Eat Go.Proofs.YtldkofdpohaahaaDoor.Pad Go.Proofs.YtldkofdpohaahaaDoor.Sum
set_option linter.unusedVariables false
set_option linter.unusedSimpArgs false
/-- parts that are read -/
def Parts (w : World) (A : Option Addr) (n : Nat) (ps : List (List Int)) : Prop :=
  ps.length = n ∧ n ≤ 9223372036854775807 ∧ (0 < n → ∃ ad, A = some ad ∧ ∀ j, j < n → ∃ B c, w.cell? (ad.add j) = some (.slice B (ps.getD j []).length c) ∧ ReadsInt w .u8 B (ps.getD j []).length (ps.getD j []))
theorem Parts.below {w w' : World} {A : Option Addr} {n : Nat} {ps : List (List Int)} (h : Parts w A n ps) (hb : Below w.heap.size w w') : Parts w' A n ps :=
  ⟨h.1, h.2.1, fun hn => by
    obtain ⟨ad, e, hc⟩ := h.2.2 hn
    refine ⟨ad, e, fun j hj => ?_⟩
    obtain ⟨B, c, h1, h2⟩ := hc j hj
    exact ⟨B, c, pw_cell_below hb h1, h2.below hb⟩⟩
theorem take_flat (ps : List (List Int)) (i : Nat) (h : i < ps.length) : (ps.take (i + 1)).flatten = (ps.take i).flatten ++ ps.getD i [] := by
  rw [List.take_succ_eq_append_getElem h, List.flatten_append, List.flatten_singleton, show ps.getD i [] = ps[i] by simp [h]]
theorem flat_le (ps : List (List Int)) (i : Nat) : ((ps.take i).flatten).length ≤ ps.flatten.length := by
  conv => rhs; rw [← List.take_append_drop i ps, List.flatten_append, List.length_append]
  omega
theorem En.new (w : World) (hk : KeysAt w) (hz : 0 < w.heap.size) : En w ((w.alloc (.cells (rowB (List.replicate 32 0)) 24)).alloc (.cells (stateCells h0 (.slice none 0 0) 0) 47)) (w.heap.size + 1) [] := by
  have hs : (w.alloc (.cells (rowB (List.replicate 32 0)) 24)).heap.size = w.heap.size + 1 := by simp
  have hb : Below w.heap.size w ((w.alloc (.cells (rowB (List.replicate 32 0)) 24)).alloc (.cells (stateCells h0 (.slice none 0 0) 0) 47)) := below_alloc (below_alloc (Below.refl _ _) _) _
  have hst := St.new (w.alloc (.cells (rowB (List.replicate 32 0)) 24)) (fun k => w.heap.size ≤ k ∧ k ≠ w.heap.size + 1) (fun k hk => by rw [hs]; exact hk.2)
  rw [hs] at hst
  exact ⟨hst, hk.below hb hz, hb, Nat.le_refl _, alloc2_first w _ _, hz⟩
set_option maxHeartbeats 4000000 in
set_option maxRecDepth 100000 in
theorem of_any (A : Option Addr) (n c : Nat) (ps : List (List Int)) (w : World) (hp : Parts w A n ps) (hk : KeysAt w) (h0 : 0 < w.heap.size) (hb : ∀ p ∈ ps, Bytes8 p) (hl : ps.flatten.length < 549755813888) :
    Calls Tryd.prog 8 #[.slice A n c] w fun e w' => e = .returned (.agg (rowB (digest ps.flatten))) ∧ Below w.heap.size w w' := by
  have HP := Aside0.mk hp
  have HEN := Aside0.mk (En.new w hk h0)
  have HBY := Aside0.mk hb
  have HL := Aside0.mk hl
  clear hp hk h0 hb hl
  go_enter Tryd.func8, Tryd.ntmps8
  go_wp2_with (first | (go_at_call 10; (with_reducible refine (new_any _).mono ?_); rintro e w1 ⟨rfl, rfl⟩))
  go_loopg [9] (n + 1) (fun kq v9 w' => ∃ i : Nat, v9 = .int .i64 i ∧ Aside0 (i ≤ n ∧ n - i < kq) ∧ Aside0 (En w w' (w.heap.size + 1) (ps.take i).flatten))
  case atStart => exact ⟨0, rfl, ⟨by omega, by omega⟩, HEN⟩
  case round =>
    clear HEN
    obtain ⟨i, rfl, HI, HE⟩ := hrel
    cases gk with
    | zero => exact absurd HI.out.2 (by omega)
    | succ k2 =>
      by_cases hi : i < n
      · have c1 : decide ((i : Int) < (n : Int)) = true := decide_eq_true (by omega)
        obtain ⟨ad, rfl, hcell⟩ := HP.out.2.2 (by omega)
        obtain ⟨B, cb, hc, hr⟩ := hcell i hi
        have q1 := (HE.out.b.cell (World.block_lt_of_cell? w _ hc)).trans hc
        obtain ⟨p, hpd⟩ : ∃ x, x = ps.getD i [] := ⟨_, rfl⟩
        rw [← hpd] at q1 hr
        have HPD := Aside0.mk hpd
        have hlen : i < ps.length := by rw [HP.out.1]; exact hi
        have HW11 := Aside0.mk (write_rd HE.out p rfl (hr.below HE.out.b) cb (by
          have h1 := flat_le ps (i + 1)
          rw [take_flat _ _ hlen, List.length_append, ← hpd] at h1
          have := HL.out; omega) (HBY.out p (by rw [hpd, List.getD_eq_getElem?_getD, List.getElem?_eq_getElem hlen]; exact List.getElem_mem _)) (ReadsInt.far hr (Nat.le_succ _)))
        have t1 := eq_true (show (0 : Int) ≤ (i : Int) by omega)
        have t2 := eq_true (show (i : Int) < (n : Int) by omega)
        have hw : wrap64 ((i : Int) + 1) = ((i + 1 : Nat) : Int) := by have := HP.out.2.1; unfold wrap64; omega
        have HW := Aside0.mk hw
        have HTK : Aside0 ((ps.take (i + 1)).flatten = (ps.take i).flatten ++ p) := ⟨by rw [take_flat _ _ hlen, hpd]⟩
        clear hcell hc hr hpd hlen hw
        go_wp2_with (first | (go_at_call 11; (with_reducible refine HW11.out.mono ?_); rintro e w5 ⟨rfl, hen⟩; have HE5 := Aside0.mk hen; clear hen))
        go_roundg k2
        case measure => have := HI.out; omega
        case rel => exact ⟨i + 1, (by rw [HW.out]), ⟨by omega, by have := HI.out; omega⟩, ⟨by rw [HTK.out]; exact HE5.out⟩⟩
      · have c1 : decide ((i : Int) < (n : Int)) = false := decide_eq_false (by omega)
        have c2 : decide (i < n) = false := decide_eq_false hi
        have HE2 : Aside0 (En w wr (w.heap.size + 1) ps.flatten) := ⟨by have := HE.out; rwa [List.take_of_length_le (by rw [HP.out.1]; omega)] at this⟩
        obtain ⟨dg, hdg⟩ : ∃ x, x = digest ps.flatten := ⟨_, rfl⟩
        have HSM := Aside0.mk (sum_any (w.heap.size + 1) _ ps.flatten wr HE2.out.st HE2.out.keys HL.out)
        have HD : Aside0 (dg.length = 32) := ⟨by rw [hdg]; exact digest_len _⟩
        rw [← hdg] at HSM
        have HDG := Aside0.mk hdg
        clear hi HE hdg
        go_wp2_with (first | (go_at_call 12; (with_reducible refine HSM.out.mono ?_); rintro e w5 ⟨rfl, hb5⟩; have HE5 := Aside0.mk (HE2.out.below hb5); clear hb5) | ((with_reducible refine gate_store (t := 24) (p := 2) rfl ?_); refine wpList_store_row rfl 24 (.tmp 2) (.tmp 18) rfl w.heap.size (rowB dg) rfl rfl 24 (rowB (List.replicate 32 0)) HE5.out.res (size24 HD.out) (by rw [rowB_size, rowB_size, HD.out]; rfl) (rowB_one _) ?_))
        refine bodyPost_ret (v := .agg (rowB dg)) (results_cell_row rfl _ _ w.heap.size 24 _ (0, 0) _ rfl (setRow_heap w5 w.heap.size _ _ 24 (0, 0) HE5.out.res) Tryd.underlying24 rfl (size24 HD.out)) rfl ⟨by rw [HDG.out], below_setRow HE5.out.b (Nat.le_refl _) _⟩
end Go.Proofs.YtldkofdpohaahaaDoor.Of
