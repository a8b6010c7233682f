/- What is digested (alibiref02.padded): its contract; for fewer than 2^30 bytes. -/
import Derived.Test.YtldkofdpohaahaaDoorHex
namespace Go.Proofs.YtldkofdpohaahaaDoor.Padded
open Go.RowKit Go.Proofs.YtldkofdpohaahaaDoorW.PrintWords Go.Proofs.YtldkofdpohaahaaDoorW.PrintLast Go.Proofs.YtldkofdpohaahaaDoorW.PrintMore Go.Proofs.YtldkofdpohaahaaDoor.New Go.Proofs.YtldkofdpohaahaaDoor.Plain Go.Proofs.YtldkofdpohaahaaDoor.Rounds Go.Proofs.YtldkofdpohaahaaDoor.Mix Go.Proofs.YtldkofdpohaahaaDoor.Eat Go.Proofs.YtldkofdpohaahaaDoor.Write Go.Proofs.YtldkofdpohaahaaDoor.Pad Go.Proofs.YtldkofdpohaahaaDoor.Of Go.Proofs.YtldkofdpohaahaaDoor.Awake Go.Proofs.YtldkofdpohaahaaDoor.Eq
open Go.Proofs.YtldkofdpohaahaaDoor.Sum hiding start_any
set_option linter.unusedVariables false
set_option linter.unusedSimpArgs false
/-- a number's last bytes, the highest first -/
def tk (N : Int) : Nat → List Int
  | 0 => []
  | i + 1 => [N / 256 ^ i % 256] ++ tk N i
theorem tk_len (N : Int) : ∀ i, (tk N i).length = i
  | 0 => rfl
  | i + 1 => by show ([_] ++ tk N i).length = _; rw [List.length_append, tk_len N i]; show 1 + i = i + 1; omega
theorem tk_eight (n : Nat) : tk (n : Int) 8 = tail8 n := by
  simp [tk, tail8]
theorem div_pow (N : Int) (i : Nat) (h : 0 ≤ N) : N / 256 ^ i / 256 = N / 256 ^ (i + 1) := by
  rw [Int.ediv_ediv_of_nonneg (Int.pow_nonneg (by decide)), Int.pow_succ]
set_option maxHeartbeats 4000000 in
set_option maxRecDepth 100000 in
theorem padded_any (B : Option Addr) (c : Nat) (xs : List Int) (w : World) (hr : ReadsInt w .u8 B xs.length xs) (hl : xs.length < 1073741824) :
    Calls Tryd.prog 15 #[.slice B xs.length c] w fun e w' => ∃ A c', e = .returned (.slice A (pad xs).length c') ∧ ReadsInt w' .u8 A (pad xs).length (pad xs) ∧ Below w.heap.size w w' := by
  have HR := Aside0.mk hr
  have HL := Aside0.mk hl
  have HB := Aside0.mk (Below.refl w.heap.size w)
  clear hr hl
  go_enter Tryd.func15, Tryd.ntmps15
  go_wp2_with (first | ((with_reducible refine gate_builtin (b := .append) (xs := #[.tmp 7, .tmp 8]) rfl ?_); at_builtin; refine print_append_row (w0 := w.alloc (.cells #[] 5)) w.heap.size rfl (.tmp 7) (.tmp 8) 22 5 .u8 1 rfl Tryd.underlying22 info5 (by decide) (.slice (some ⟨w.heap.size, 0, none⟩) 0 0) [] xs B xs.length c rfl rfl (own_lit w w.heap.size 5 .u8 [] (Nat.le_refl _) (by decide)) (HR.out.below (below_alloc HB.out _)) (Below.refl _ _) (below_alloc HB.out (.cells #[] 5)).size (by have := HL.out; simp; omega) ?_; intro v1 w1 ho hb hg hat; simp only [List.nil_append] at ho; obtain ⟨A1, c1, rfl, hr1⟩ := own_reads ho; have HO1 := Aside0.mk ho; have HB1 := Aside0.mk ((below_alloc HB.out (.cells #[] 5)).trans hb); clear ho hb hg hat hr1 HB) | ((with_reducible refine gate_builtin (b := .append) (xs := #[.tmp 10, .tmp 11]) rfl ?_); at_builtin; refine print_append_num (w0 := w1) w.heap.size rfl (.tmp 10) (.tmp 11) 22 5 .u8 1 rfl Tryd.underlying22 info5 (by decide) (.slice A1 xs.length c1) xs 128 rfl rfl HO1.out (Below.refl _ _) HB1.out.size (by have := HL.out; omega) ?_; intro v2 w2 ho hb hg hat; obtain ⟨A2, c2, rfl, hr2⟩ := own_reads ho; have HO2 := Aside0.mk ho; have HB2 := Aside0.mk (HB1.out.trans hb); clear ho hb hg hat hr2 HO1 HB1))
  go_loopg [3] 64 (fun kq v3 w' => ∃ (k : Nat) (Av : Option Addr) (cv : Nat), v3 = .slice Av (padK xs k).length cv ∧ Aside0 (k ≤ zeros xs.length ∧ zeros xs.length - k < kq) ∧ Aside0 (w'.ownsRow w.heap.size 5 1 (.slice Av (padK xs k).length cv) (padK xs k).length (nums .u8 (padK xs k))) ∧ Aside0 (Below w.heap.size w w'))
  case atStart => exact ⟨0, A2, c2, (by rw [padK_zero, List.length_append]; rfl), ⟨Nat.zero_le _, by have := zeros_le xs.length; omega⟩, ⟨by rw [padK_zero]; exact HO2.out⟩, HB2⟩
  case round =>
    clear HO2 HB2
    obtain ⟨k, Av, cv, rfl, HI, HO, HBB⟩ := hrel
    have hend := padK_end xs k HI.out.1
    have hlen := padK_len xs k
    obtain ⟨M, hM⟩ : ∃ x, x = padK xs k := ⟨_, rfl⟩
    rw [← hM] at HO hend hlen ⊢
    have HM := Aside0.mk hM
    have HML : Aside0 (M.length < 2147483648) := ⟨by have := HL.out; have := HI.out.1; have := zeros_le xs.length; omega⟩
    obtain ⟨r, hrr⟩ : ∃ r : Nat, r = M.length % 64 := ⟨_, rfl⟩
    have ht : (M.length : Int).tmod 64 = (r : Int) := by rw [Int.tmod_eq_emod_of_nonneg (by omega)]; omega
    clear hM hlen
    cases gk with
    | zero => exact absurd HI.out.2 (by omega)
    | succ k2 =>
      by_cases hk : k = zeros xs.length
      · have hr6 : r = 56 := by rw [hrr]; exact hend.2 hk
        subst hr6
        have c1n : (((56 : Nat) : Int) != 56) = false := by decide
        have HMP : Aside0 (M = padK xs (zeros xs.length)) := ⟨by rw [← hk]; exact HM.out⟩
        obtain ⟨N, hN⟩ : ∃ N : Int, N = 8 * (xs.length : Int) := ⟨_, rfl⟩
        have HN : Aside0 (0 ≤ N ∧ N = ((8 * xs.length : Nat) : Int) ∧ N < 8589934592) := ⟨by have := HL.out; omega⟩
        have hw8 : wrap64 (8 * (xs.length : Int)) = N := by rw [hN]; have := HL.out; unfold wrap64; omega
        clear hk hend hrr HI HM hN
        go_wp2
        obtain ⟨w7, rfl⟩ : ∃ x, x = wr := ⟨_, rfl⟩
        have HW8 := Aside0.mk hw8
        clear hw8
        go_loopg [4, 5, 6] 9 (fun kq v4 v5 v6 w' => ∃ (i : Nat) (T : Option Addr) (ct : Nat), v4 = .int .i64 (N / 256 ^ i) ∧ v5 = .slice T (tk N i).length ct ∧ v6 = .int .i64 i ∧ Aside0 (i ≤ 8 ∧ 8 - i < kq) ∧ Aside0 (w'.ownsRow w.heap.size 5 1 (.slice Av M.length cv) M.length (nums .u8 M)) ∧ Aside0 (ReadsInt w' .u8 T (tk N i).length (tk N i)) ∧ Aside0 (Below w.heap.size w w'))
        case atStart => exact ⟨0, none, 0, (by first | (rw [HW8.out]; simp) | simp), rfl, rfl, ⟨by omega, by omega⟩, HO, ⟨rfl, Nat.zero_le _, fun h => absurd h (Nat.lt_irrefl 0)⟩, HBB⟩
        case round =>
          clear HO HBB
          obtain ⟨i, T, ct, rfl, rfl, rfl, HI, HO, HT, HBB⟩ := hrel
          obtain ⟨tl, htl⟩ : ∃ x, x = tk N i := ⟨_, rfl⟩
          obtain ⟨Ni, hNi⟩ : ∃ x, x = N / 256 ^ i := ⟨_, rfl⟩
          rw [← htl] at HT ⊢
          rw [← hNi]
          have HTL : Aside0 (tl.length ≤ 8) := ⟨by rw [htl, tk_len]; exact HI.out.1⟩
          have HTK := Aside0.mk (And.intro htl hNi)
          have hNi0 : 0 ≤ Ni := by rw [hNi]; exact Int.ediv_nonneg HN.out.1 (Int.pow_nonneg (by decide))
          cases gk with
          | zero => exact absurd HI.out.2 (by omega)
          | succ k2 =>
            by_cases hi : i < 8
            · have r1 : decide (i < 8) = true := decide_eq_true hi
              have r2 : decide ((i : Int) < 8) = true := decide_eq_true (by omega)
              obtain ⟨x, hx⟩ : ∃ x, x = Ni % 256 := ⟨_, rfl⟩
              have f1 : Ni.tmod 256 = x := by rw [Int.tmod_eq_emod_of_nonneg hNi0, hx]
              have f2 : IntKind.u8.wrap x = x := by
                show x % 256 = x; omega
              obtain ⟨y, hy⟩ : ∃ y, y = Ni / 256 := ⟨_, rfl⟩
              have hyN : Ni ≤ N := by rw [hNi]; exact Int.ediv_le_self _ HN.out.1
              have f3 : Ni.tdiv 256 = y := by rw [Int.tdiv_eq_ediv_of_nonneg hNi0, hy]
              have f4 : wrap64 y = y := by have := HN.out.2.2; unfold wrap64; omega
              have f5 : wrap64 (Ni.tdiv 256) = y := by rw [f3, f4]
              have hw : wrap64 ((i : Int) + 1) = ((i + 1 : Nat) : Int) := by unfold wrap64; omega
              have HW := Aside0.mk hw
              have HTK2 : Aside0 (tk N (i + 1) = [x] ++ tl ∧ y = N / 256 ^ (i + 1)) := ⟨by rw [htl, hx, hNi]; rfl, by rw [hy, hNi, div_pow _ _ HN.out.1]⟩
              have HI0 := Aside0.mk hi
              clear htl hNi hNi0 hx hy hyN hi hw
              go_wp2_with (first | ((with_reducible refine gate_builtin (b := .append) (xs := #[.tmp 30, .tmp 31]) rfl ?_); at_builtin; refine print_append_row (w0 := wr.alloc (.cells #[.int .u8 x] 5)) wr.heap.size rfl (.tmp 30) (.tmp 31) 22 5 .u8 1 rfl Tryd.underlying22 info5 (by decide) (.slice (some ⟨wr.heap.size, 0, none⟩) 1 1) [x] tl T tl.length ct rfl rfl (own_lit wr wr.heap.size 5 .u8 [x] (Nat.le_refl _) (by show (1 : Nat) ≤ _; omega)) (HT.out.below (below_alloc (Below.refl _ _) _)) (Below.refl _ _) (below_alloc (Below.refl wr.heap.size wr) (.cells #[.int .u8 x] 5)).size (by have := HTL.out; show (1 + tl.length) * 1 ≤ _; omega) ?_; intro v4 w4 ho hb hg hat; obtain ⟨A4, c4, rfl, hr4⟩ := own_reads ho; have HR4 := Aside0.mk hr4; have HB4 := Aside0.mk ((below_alloc (Below.refl wr.heap.size wr) (.cells #[.int .u8 x] 5)).trans hb); clear ho hb hg hat hr4))
              go_roundg k2
              case measure => have := HI.out; have := HI0.out; omega
              case rel => exact ⟨i + 1, A4, c4, (by first | (rw [f4, ← HTK2.out.2]; done) | rw [← HTK2.out.2]), (by rw [HTK2.out.1]; first | done | (simp; done)), (by first | rw [HW.out] | (push_cast; rfl)), ⟨by have := HI0.out; omega, by have := HI.out; have := HI0.out; omega⟩, ⟨pw_own_below HO.out HB4.out⟩, ⟨by rw [HTK2.out.1]; exact HR4.out⟩, ⟨below_step HBB.out HB4.out⟩⟩
            · have ei : i = 8 := by have := HI.out; omega
              subst ei
              have HPD : Aside0 (pad xs = M ++ tl) := ⟨by rw [htl, HN.out.2.1, tk_eight, HMP.out]; rfl⟩
              clear htl hNi hNi0 hi
              go_wp2_with (first | ((with_reducible refine gate_builtin (b := .append) (xs := #[.tmp 35, .tmp 36]) rfl ?_); at_builtin; refine print_append_row (w0 := wr) w.heap.size rfl (.tmp 35) (.tmp 36) 22 5 .u8 1 rfl Tryd.underlying22 info5 (by decide) (.slice Av M.length cv) M tl T tl.length ct rfl rfl HO.out HT.out (Below.refl _ _) HBB.out.size (by have := HML.out; have := HTL.out; omega) ?_; intro v5 w5 ho hb hg hat; obtain ⟨A5, c5, rfl, hr5⟩ := own_reads ho; have HR5 := Aside0.mk hr5; have HB5 := Aside0.mk (HBB.out.trans hb); clear ho hb hg hat hr5))
              go_ret
              exact ⟨A5, c5, by rw [HPD.out, List.length_append]; rfl, by rw [HPD.out]; exact HR5.out, HB5.out⟩
      · have hr6 : ¬ r = 56 := by rw [hrr]; exact fun h => hk (hend.1 h)
        have c1n : ((r : Int) != 56) = true := bne_iff_ne.2 (by omega)
        have HK := Aside0.mk hk
        clear hk hend hrr hr6
        go_wp2_with (first | ((with_reducible refine gate_builtin (b := .append) (xs := #[.tmp 17, .tmp 18]) rfl ?_); at_builtin; refine print_append_num (w0 := wr) w.heap.size rfl (.tmp 17) (.tmp 18) 22 5 .u8 1 rfl Tryd.underlying22 info5 (by decide) (.slice Av M.length cv) M 0 rfl rfl HO.out (Below.refl _ _) HBB.out.size (by have := HML.out; omega) ?_; intro v3 w3 ho hb hg hat; obtain ⟨A3, c3, rfl, hr3⟩ := own_reads ho; have HO3 := Aside0.mk ho; have HB3 := Aside0.mk (HBB.out.trans hb); clear ho hb hg hat hr3))
        go_roundg k2
        case measure => have := HI.out; have := HK.out; omega
        case rel => exact ⟨k + 1, A3, c3, (by rw [← padK_succ, ← HM.out, List.length_append]; rfl), ⟨by have := HI.out; have := HK.out; omega, by have := HI.out; have := HK.out; omega⟩, ⟨by rw [← padK_succ, ← HM.out]; exact HO3.out⟩, HB3⟩
end Go.Proofs.YtldkofdpohaahaaDoor.Padded
