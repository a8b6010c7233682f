/- How bytes are parted changes nothing (ShaParts): the walk of the law; for all parts. -/
import Derived.Test.YtldkofdpohaahaaDoorKeeps
import Derived.Test.YtldkofdpohaahaaDoorApart
namespace Go.Proofs.YtldkofdpohaahaaDoor.PartsLaw
open Go.RowKit Go.Proofs.YtldkofdpohaahaaDoorW.PrintWords Go.Proofs.YtldkofdpohaahaaDoorW.PrintLast Go.Proofs.YtldkofdpohaahaaDoorW.PrintMore Go.Proofs.YtldkofdpohaahaaDoor.New Go.Proofs.YtldkofdpohaahaaDoor.Plain Go.Proofs.YtldkofdpohaahaaDoor.Rounds Go.Proofs.YtldkofdpohaahaaDoor.Mix Go.Proofs.YtldkofdpohaahaaDoor.Eat Go.Proofs.YtldkofdpohaahaaDoor.Write Go.Proofs.YtldkofdpohaahaaDoor.Pad Go.Proofs.YtldkofdpohaahaaDoor.Of Go.Proofs.YtldkofdpohaahaaDoor.Awake Go.Proofs.YtldkofdpohaahaaDoor.Eq
open Go.Proofs.YtldkofdpohaahaaDoor.Sum hiding start_any
set_option linter.unusedVariables false
set_option linter.unusedSimpArgs false
/-- what is counted ahead -/
def cnt : List (List Int) → Nat
  | [] => 0
  | p :: ps => (1 + min p.length 3001) + cnt ps
theorem cnt_app : ∀ (ps : List (List Int)) (p : List Int), cnt (ps ++ [p]) = cnt ps + (1 + min p.length 3001)
  | [], p => by show (1 + min p.length 3001) + 0 = 0 + _; omega
  | q :: ps, p => by
    show (1 + min q.length 3001) + cnt (ps ++ [p]) = (1 + min q.length 3001) + cnt ps + _
    rw [cnt_app ps p]; omega
theorem cnt_take (ps : List (List Int)) (i : Nat) (h : i < ps.length) : cnt (ps.take (i + 1)) = cnt (ps.take i) + (1 + min (ps.getD i []).length 3001) := by
  rw [List.take_succ_eq_append_getElem h, cnt_app, show ps.getD i [] = ps[i] by simp [h]]
theorem cnt_flat : ∀ ps : List (List Int), cnt ps ≤ 3000 → ps.flatten.length + ps.length = cnt ps
  | [], _ => rfl
  | p :: ps, h => by
    have h1 : (1 + min p.length 3001) + cnt ps ≤ 3000 := h
    have := cnt_flat ps (by omega)
    rw [List.flatten_cons, List.length_append, List.length_cons]
    show _ = (1 + min p.length 3001) + cnt ps
    omega
theorem cnt_len : ∀ ps : List (List Int), ps.length ≤ cnt ps
  | [] => Nat.le_refl _
  | p :: ps => by
    have := cnt_len ps
    show ps.length + 1 ≤ (1 + min p.length 3001) + cnt ps; omega
/-- the digest on its way in block g, all that came so far in a row of its own -/
structure Pt (w W : World) (g : Nat) (v : Value) (m : List Int) : Prop where
  st : St W g (fun k => g < k ∧ some k ≠ v.ownBlock) m
  own : W.ownsRow (g + 1) 5 1 v m.length (nums .u8 m)
  keys : KeysAt W
  b : Below w.heap.size w W
  le : w.heap.size ≤ g
  h0 : 0 < w.heap.size
theorem pt_new {w wa w3 : World} (hk : KeysAt w) (h0 : 0 < w.heap.size) (hb : Below w.heap.size w wa) (h3 : w3 = wa.alloc (.cells (stateCells Go.Proofs.YtldkofdpohaahaaDoor.New.h0 (.slice none 0 0) 0) 47)) : Pt w w3 wa.heap.size (.slice none 0 0) [] := by
  subst h3
  have hb3 := below_alloc hb (.cells (stateCells Go.Proofs.YtldkofdpohaahaaDoor.New.h0 (.slice none 0 0) 0) 47)
  exact ⟨St.new wa _ (fun k hk => Nat.ne_of_gt hk.1), own_nil _ _ _ _, hk.below hb3 h0, hb3, hb.size, h0⟩
theorem Pt.below {w W W' : World} {g : Nat} {v : Value} {m : List Int} (h : Pt w W g v m) (hb : Below W.heap.size W W') : Pt w W' g v m :=
  ⟨h.st.below hb, pw_own_below h.own hb, h.keys.below hb (Nat.lt_of_lt_of_le h.h0 h.b.size), h.b.trans (hb.mono h.b.size), h.le, h.h0⟩
/-- behind the Write: the row of all has not been added to yet -/
structure Pw (w W : World) (g : Nat) (v : Value) (m p : List Int) : Prop where
  st : St W g (fun k => g < k ∧ some k ≠ v.ownBlock) (m ++ p)
  own : W.ownsRow (g + 1) 5 1 v m.length (nums .u8 m)
  keys : KeysAt W
  b : Below w.heap.size w W
  le : w.heap.size ≤ g
  h0 : 0 < w.heap.size
theorem Pt.write {w W : World} {g : Nat} {v : Value} {m : List Int} (h : Pt w W g v m) (p : List Int) {B : Option Addr} (d : Nat) (hr : ReadsInt w .u8 B p.length p) (hp : Bytes8 p) (hl : m.length + p.length < 1099511627776) :
    Calls Tryd.prog 11 #[.pointer (some ⟨g, 0, none⟩), .slice B p.length d] W fun e w' => e = .returned (.tuple #[]) ∧ Pw w w' g v m p := by
  have h1 := h.st.lt
  have h2 := h.le
  have h4 := h.h0
  refine (write_any g _ m p B d W h.st (fun k hk => ⟨by omega, fun e => by have := own_lt h.own k e.symm; omega⟩) h.keys (by omega) (hr.below h.b) (ReadsInt.far hr h2) hp hl).mono ?_
  rintro e w' ⟨rfl, hst, hc⟩
  exact ⟨rfl, hst, own_ch h.own hc (fun k hk => by have := own_base h.own k hk; omega), h.keys.ch hc (by omega) (by omega), h.b.trans (hc.below h2 h.b.size), h2, h4⟩
theorem Pw.app {w W w1 : World} {g : Nat} {v v1 : Value} {m p : List Int} (h : Pw w W g v m p) (ho : w1.ownsRow (g + 1) 5 1 v1 (m ++ p).length (nums .u8 (m ++ p))) (hb : Below (g + 1) W w1) (hg : W.grownBy w1 v.ownBlock) (hat : v1.ownBlock = v.ownBlock ∨ ∃ b, v1.ownBlock = some b ∧ W.heap.size ≤ b) : Pt w w1 g v1 (m ++ p) := by
  have h1 := h.st.lt
  have h2 := h.le
  have h4 := h.h0
  have hs := h.st.other (ok' := fun k => (g < k ∧ some k ≠ v.ownBlock) ∧ some k ≠ v1.ownBlock) (fun k hk ho' => ⟨ho', fun e => by
    rcases hat with hat | ⟨b, hb', hle⟩
    · exact ho'.2 (e.trans hat)
    · rw [hb'] at e; have := Option.some.inj e; omega⟩) (fun k hk => Nat.ne_of_gt hk.1.1)
  have hs2 := hs.grown hg (fun e => by have := own_base h.own g e.symm; omega) (fun k hk => hk.1.2)
  have hs3 := hs2.other (ok' := fun k => g < k ∧ some k ≠ v1.ownBlock) (fun k _ hk => ⟨hk.1.1, hk.2⟩) (fun k hk => Nat.ne_of_gt hk.1)
  exact ⟨hs3, ho, h.keys.below (hb.mono (by omega : 1 ≤ g + 1)) (by omega), h.b.trans (hb.mono (by omega)), h2, h4⟩
set_option maxHeartbeats 4000000 in
set_option maxRecDepth 100000 in
theorem parts_law (A : Option Addr) (c : Nat) (ps : List (List Int)) (w : World) (hA : Parts w A ps.length ps) (hb : ∀ p ∈ ps, Bytes8 p) (hk : KeysAt w) (h0 : 0 < w.heap.size) :
    Calls Tryd.prog 4 #[.slice A ps.length c] w fun e w' => e = .returned (.bool true) ∧ Below w.heap.size w w' := by
  have HA := Aside0.mk hA
  have HBY := Aside0.mk hb
  have HK := Aside0.mk hk
  have H0 := Aside0.mk h0
  clear hA hb hk h0
  go_enter Tryd.func4, Tryd.ntmps4
  go_wp2
  go_loopg [3, 4] (ps.length + 1) (fun kq v3 v4 w' => ∃ i : Nat, v3 = .int .i64 (cnt (ps.take i) : Nat) ∧ v4 = .int .i64 i ∧ Aside0 (i ≤ ps.length ∧ ps.length - i < kq ∧ cnt (ps.take i) ≤ 6002) ∧ Aside0 (w' = w))
  case atStart => exact ⟨0, rfl, rfl, ⟨Nat.zero_le _, by omega, Nat.zero_le _⟩, ⟨rfl⟩⟩
  case round =>
    obtain ⟨i, rfl, rfl, HI, HW⟩ := hrel
    obtain rfl := HW.out
    clear HW
    obtain ⟨n, hn⟩ : ∃ x, x = cnt (ps.take i) := ⟨_, rfl⟩
    rw [← hn]
    have HN := Aside0.mk hn
    cases gk with
    | zero => exact absurd HI.out.2.1 (by omega)
    | succ k2 =>
      by_cases hi : i < ps.length
      · have s1 : decide (i < ps.length) = true := decide_eq_true hi
        by_cases hc : n ≤ 3000
        · have s2 : decide (n ≤ 3000) = true := decide_eq_true hc
          obtain ⟨ad, rfl, hcell⟩ := HA.out.2.2 (by omega)
          obtain ⟨B, cb, q1, _⟩ := hcell i hi
          obtain ⟨p, hp⟩ : ∃ x, x = ps.getD i [] := ⟨_, rfl⟩
          rw [← hp] at q1
          have HP := Aside0.mk hp
          have u1 := eq_true (show (0 : Int) ≤ (i : Int) by omega)
          have u2 := eq_true (show (i : Int) < (ps.length : Int) by omega)
          have HI0 := Aside0.mk (And.intro hi hc)
          have s3 : decide ((n : Int) ≤ 3000) = true := decide_eq_true (by omega)
          have u3 := eq_true (show (n : Int) ≤ 3000 by omega)
          have hw : wrap64 ((i : Int) + 1) = ((i + 1 : Nat) : Int) := by have := HA.out.2.1; unfold wrap64; omega
          have HW1 := Aside0.mk hw
          clear hcell hp hi hc hn hw
          by_cases hm : p.length ≤ 3001
          · have m1 := eq_true (show (p.length : Int) ≤ 3001 by omega)
            have m2 := eq_false (show ¬ 3001 < (p.length : Int) by omega)
            have hadd : wrap64 ((n : Int) + 1) = n + 1 := by have := HI.out; have := HN.out; unfold wrap64; omega
            have hadd2 : wrap64 ((n : Int) + 1 + (p.length : Int)) = n + 1 + (p.length : Int) := by have := HI.out; have := HN.out; unfold wrap64; omega
            have HM := Aside0.mk hm
            clear hm
            go_wp2
            go_roundg k2
            case measure => have := HI.out; have := HI0.out; omega
            case rel => exact ⟨i + 1, (by congr 1; rw [cnt_take ps i HI0.out.1, ← HN.out, ← HP.out]; have := HM.out; omega), (by rw [HW1.out]), ⟨by have := HI0.out; omega, by have := HI.out; have := HI0.out; omega, by rw [cnt_take ps i HI0.out.1, ← HN.out, ← HP.out]; have := HI0.out; omega⟩, ⟨rfl⟩⟩
          · have m1 := eq_false (show ¬ (p.length : Int) ≤ 3001 by omega)
            have m2 := eq_true (show 3001 < (p.length : Int) by omega)
            have hadd : wrap64 ((n : Int) + 1) = n + 1 := by have := HI.out; have := HN.out; unfold wrap64; omega
            have hadd2 : wrap64 ((n : Int) + 1 + 3001) = n + 1 + 3001 := by have := HI.out; have := HN.out; unfold wrap64; omega
            have HM := Aside0.mk hm
            clear hm
            go_wp2
            go_roundg k2
            case measure => have := HI.out; have := HI0.out; omega
            case rel => exact ⟨i + 1, (by congr 1; rw [cnt_take ps i HI0.out.1, ← HN.out, ← HP.out]; have := HM.out; omega), (by rw [HW1.out]), ⟨by have := HI0.out; omega, by have := HI.out; have := HI0.out; omega, by rw [cnt_take ps i HI0.out.1, ← HN.out, ← HP.out]; have := HI0.out; omega⟩, ⟨rfl⟩⟩
        · have s3 : decide ((n : Int) ≤ 3000) = false := decide_eq_false (by omega)
          have s4 : decide (3000 < (n : Int)) = true := decide_eq_true (by omega)
          have s5 : decide (3000 < n) = true := decide_eq_true (by omega)
          have s6 : decide (n ≤ 3000) = false := decide_eq_false (by omega)
          have HB := Aside0.mk (Below.refl wr.heap.size wr)
          clear hc hi hn
          go_wp2_with (first | (go_at_call 7; (with_reducible refine (awake_any _ (HK.out.below HB.out H0.out) (Nat.lt_of_lt_of_le H0.out HB.out.size)).mono ?_); rintro e wa ⟨rfl, hb⟩; have n_ := Aside0.mk (below_step HB.out hb); clear HB; have HB := n_; clear n_ hb))
          go_ret
          exact ⟨rfl, HB.out⟩
      · have s1 : decide (i < ps.length) = false := decide_eq_false hi
        by_cases hc : 3000 < n
        · have s3 : decide ((n : Int) ≤ 3000) = false := decide_eq_false (by omega)
          have s4 : decide (3000 < (n : Int)) = true := decide_eq_true (by omega)
          have s5 : decide (3000 < n) = true := decide_eq_true (by omega)
          have s6 : decide (n ≤ 3000) = false := decide_eq_false (by omega)
          have HB := Aside0.mk (Below.refl wr.heap.size wr)
          clear hc hi hn
          go_wp2_with (first | (go_at_call 7; (with_reducible refine (awake_any _ (HK.out.below HB.out H0.out) (Nat.lt_of_lt_of_le H0.out HB.out.size)).mono ?_); rintro e wa ⟨rfl, hb⟩; have n_ := Aside0.mk (below_step HB.out hb); clear HB; have HB := n_; clear n_ hb))
          go_ret
          exact ⟨rfl, HB.out⟩
        · have s4 : decide (3000 < (n : Int)) = false := decide_eq_false (by omega)
          have s5 : decide (3000 < n) = false := decide_eq_false (by omega)
          have hi2 : i = ps.length := by have := HI.out.1; omega
          have HTOT : Aside0 (ps.flatten.length + ps.length ≤ 3000) := ⟨by
            have := HN.out
            rw [hi2, List.take_of_length_le (Nat.le_refl _)] at this
            have h2 := cnt_flat ps (by omega)
            omega⟩
          have HB := Aside0.mk (Below.refl wr.heap.size wr)
          obtain ⟨w, rfl⟩ : ∃ x, x = wr := ⟨_, rfl⟩
          clear hc hi hn hi2 HN HI
          go_wp2_with (first | (go_at_call 7; (with_reducible refine (awake_any _ (HK.out.below HB.out H0.out) (Nat.lt_of_lt_of_le H0.out HB.out.size)).mono ?_); rintro e wa ⟨rfl, hb⟩; have n_ := Aside0.mk (below_step HB.out hb); clear HB; have HB := n_; clear n_ hb) | (go_at_call 10; (with_reducible refine (new_any _).mono ?_); rintro e w3 ⟨rfl, hw3⟩; have HPT := Aside0.mk (pt_new HK.out H0.out HB.out hw3); clear hw3 HB))
          obtain ⟨g, hg⟩ : ∃ x, x = wa.heap.size := ⟨_, rfl⟩
          rw [← hg] at HPT ⊢
          clear hg
          go_loopg [6, 7] (ps.length + 1) (fun kq v6 v7 w' => ∃ (j : Nat) (Av : Option Addr) (cv : Nat), v6 = .slice Av ((ps.take j).flatten).length cv ∧ v7 = .int .i64 j ∧ Aside0 (j ≤ ps.length ∧ ps.length - j < kq) ∧ Aside0 (Pt w w' g (.slice Av ((ps.take j).flatten).length cv) (ps.take j).flatten))
          case atStart => exact ⟨0, none, 0, rfl, rfl, ⟨Nat.zero_le _, by omega⟩, HPT⟩
          case round =>
            clear HPT
            obtain ⟨j, Av, cv, rfl, rfl, HI, HPT⟩ := hrel
            obtain ⟨m, hm⟩ : ∃ x, x = (ps.take j).flatten := ⟨_, rfl⟩
            rw [← hm] at HPT ⊢
            have HM := Aside0.mk hm
            have HML : Aside0 (m.length ≤ 3000) := ⟨by have := flat_le ps j; rw [← hm] at this; have := HTOT.out; omega⟩
            clear hm
            cases gk with
            | zero => exact absurd HI.out.2 (by omega)
            | succ k2 =>
              by_cases hj : j < ps.length
              · have r1 : decide (j < ps.length) = true := decide_eq_true hj
                obtain ⟨ad, rfl, hcell⟩ := HA.out.2.2 (by omega)
                obtain ⟨B, cb, q0, hr⟩ := hcell j hj
                obtain ⟨p, hp⟩ : ∃ x, x = ps.getD j [] := ⟨_, rfl⟩
                rw [← hp] at q0 hr
                have q1 := (HPT.out.b.cell (World.block_lt_of_cell? w _ q0)).trans q0
                have HQ := Aside0.mk q0
                have HR := Aside0.mk hr
                have HP := Aside0.mk hp
                obtain ⟨M, hM⟩ : ∃ x, x = m ++ p := ⟨_, rfl⟩
                have HMT : Aside0 (M = (ps.take (j + 1)).flatten) := ⟨by rw [hM, take_flat ps j hj, ← HM.out, ← hp]⟩
                have HLM : Aside0 (M.length ≤ 3000) := ⟨by have := flat_le ps (j + 1); rw [← HMT.out] at this; have := HTOT.out; omega⟩
                have HLP : Aside0 (m.length + p.length = M.length) := ⟨by rw [hM, List.length_append]⟩
                have hpb : Bytes8 p := HBY.out p (by rw [hp, List.getD_eq_getElem?_getD, List.getElem?_eq_getElem hj]; exact List.getElem_mem _)
                have HMM := Aside0.mk hM
                have HW1 := Aside0.mk (HPT.out.write p cb hr hpb (by have := HLP.out; have := HLM.out; omega))
                have v1 := eq_true (show (0 : Int) ≤ (j : Int) by omega)
                have v2 := eq_true (show (j : Int) < (ps.length : Int) by omega)
                have hw : wrap64 ((j : Int) + 1) = ((j + 1 : Nat) : Int) := by have := HA.out.2.1; unfold wrap64; omega
                have HW := Aside0.mk hw
                have HJ := Aside0.mk hj
                obtain ⟨dM, hdM⟩ : ∃ x, x = digest M := ⟨_, rfl⟩
                have heq : ∀ w', (Op.equalIn 10000 24 (.agg (rowB dM)) (.agg (rowB dM))).run Tryd.prog w' = .ok true w' := fun w' => eq24 dM w' (by rw [hdM]; exact digest_len _)
                have HDM := Aside0.mk hdM
                clear hcell q0 hr hp hM hpb hw hj hdM HPT
                go_wp2_with (first | (go_at_call 11; (with_reducible refine HW1.out.mono ?_); rintro e w5 ⟨rfl, hpw⟩; have HPW := Aside0.mk hpw; have q5 := (hpw.b.cell (World.block_lt_of_cell? w _ HQ.out)).trans HQ.out; clear hpw HW1) | ((with_reducible refine gate_builtin (b := .append) (xs := #[.tmp 47, .tmp 51]) rfl ?_); at_builtin; refine print_append_row (w0 := w5) (g + 1) rfl (.tmp 47) (.tmp 51) 22 5 .u8 1 rfl Tryd.underlying22 info5 (by decide) (.slice Av m.length cv) m p B p.length cb rfl rfl HPW.out.own (HR.out.below HPW.out.b) (Below.refl _ _) HPW.out.st.lt (by have := HLP.out; have := HLM.out; omega) ?_; intro v6 w6 ho hb hg hat; have hpt := HPW.out.app ho hb hg hat; obtain ⟨A6, c6, rfl, hr6⟩ := own_reads ho; rw [← HMM.out] at hpt hr6 ⊢; have HPT6 := Aside0.mk hpt; have HR6 := Aside0.mk hr6; have HS6 := Aside0.mk (sum_any g _ M w6 hpt.st hpt.keys (by have := HLM.out; omega)); rw [← HDM.out] at HS6; clear ho hb hg hat hpt hr6 HPW) | (go_at_call 12; (with_reducible refine HS6.out.mono ?_); rintro e w7 ⟨rfl, hb⟩; have HPT7 := Aside0.mk (HPT6.out.below hb); have HO7 := Aside0.mk (of1 w7 HPT7.out.keys (Nat.lt_of_lt_of_le HPT7.out.h0 HPT7.out.b.size) A6 M c6 (HR6.out.below hb) HPT7.out.st.bytes (by have := HLM.out; omega) rfl); rw [← HDM.out] at HO7; clear hb HS6 HPT6) | (go_at_call 8; (with_reducible refine HO7.out.mono ?_); rintro e w8 ⟨rfl, hb⟩; have HPT8 := Aside0.mk (HPT7.out.below hb); clear hb HO7 HPT7))
                go_roundg k2
                case measure => have := HI.out; have := HJ.out; omega
                case rel => exact ⟨j + 1, A6, c6, (by rw [← HMT.out]), (by rw [HW.out]), ⟨by have := HJ.out; omega, by have := HI.out; have := HJ.out; omega⟩, ⟨by rw [← HMT.out]; exact HPT8.out⟩⟩
              · have r1 : decide (j < ps.length) = false := decide_eq_false hj
                have hmf : m = ps.flatten := by rw [HM.out, List.take_of_length_le (by omega)]
                obtain ⟨dM, hdM⟩ : ∃ x, x = digest m := ⟨_, rfl⟩
                have heq : ∀ w', (Op.equalIn 10000 24 (.agg (rowB dM)) (.agg (rowB dM))).run Tryd.prog w' = .ok true w' := fun w' => eq24 dM w' (by rw [hdM]; exact digest_len _)
                have HDM := Aside0.mk hdM
                have hof := of_any A ps.length c ps wr (HA.out.below HPT.out.b) HPT.out.keys (Nat.lt_of_lt_of_le HPT.out.h0 HPT.out.b.size) HBY.out (by have := HTOT.out; omega)
                rw [← hmf, ← hdM] at hof
                have HOF := Aside0.mk hof
                have HRM : Aside0 (ReadsInt wr .u8 Av m.length m) := ⟨by
                  obtain ⟨A', c', e, hr⟩ := own_reads HPT.out.own
                  cases e; exact hr⟩
                have HLM : Aside0 (m.length < 549755813888) := ⟨by have := HML.out; omega⟩
                have h1m : ∀ W, Below wr.heap.size wr W → Pt w W g (.slice Av m.length cv) m ∧ Calls Tryd.prog 8 #[.slice (some ⟨W.heap.size, 0, none⟩) 1 1] (W.alloc (.cells #[.slice Av m.length cv] 22)) (fun e w' => e = .returned (.agg (rowB dM)) ∧ Below W.heap.size W w') := fun W hb => by
                  have hpt := HPT.out.below hb
                  refine ⟨hpt, ?_⟩
                  rw [hdM]
                  exact of1 W hpt.keys (Nat.lt_of_lt_of_le hpt.h0 hpt.b.size) Av m cv (HRM.out.below hb) hpt.st.bytes HLM.out rfl
                have H1M := Aside0.mk h1m
                clear hj hmf hdM hof h1m
                go_wp2_with (first | (go_at_call 8; (with_reducible refine HOF.out.mono ?_); rintro e w5 ⟨rfl, hb⟩; have HB5 := Aside0.mk hb; have HO5 := Aside0.mk (H1M.out w5 hb).2; clear hb HOF) | (go_at_call 8; (with_reducible refine HO5.out.mono ?_); rintro e w6 ⟨rfl, hb⟩; have HB6 := Aside0.mk (below_step HB5.out hb); have hpt := (H1M.out w6 HB6.out).1; have HS6 := Aside0.mk (sum_any g _ m w6 hpt.st hpt.keys HLM.out); rw [← HDM.out] at HS6; clear hb HO5 hpt) | (go_at_call 12; (with_reducible refine HS6.out.mono ?_); rintro e w7 ⟨rfl, hb⟩; have HB7 := Aside0.mk (below_step HB6.out hb); have HO7 := Aside0.mk (H1M.out w7 HB7.out).2; clear hb HS6) | (go_at_call 8; (with_reducible refine HO7.out.mono ?_); rintro e w8 ⟨rfl, hb⟩; have HB8 := Aside0.mk (below_step HB7.out hb); clear hb HO7))
                go_ret
                exact ⟨rfl, HPT.out.b.trans (HB8.out.mono HPT.out.b.size)⟩
end Go.Proofs.YtldkofdpohaahaaDoor.PartsLaw
