/- Words out of their digits (alibiref02.hex): its contract; for texts of fewer than 2^30 bytes. -/
import Derived.Test.YtldkofdpohaahaaDoorEq
namespace Go.Proofs.YtldkofdpohaahaaDoor.Hex
open Go.RowKit Go.Proofs.YtldkofdpohaahaaDoorW.PrintWords Go.Proofs.YtldkofdpohaahaaDoorW.PrintLast Go.Proofs.YtldkofdpohaahaaDoorW.PrintMore Go.Proofs.YtldkofdpohaahaaDoor.New Go.Proofs.YtldkofdpohaahaaDoor.Plain Go.Proofs.YtldkofdpohaahaaDoor.Rounds Go.Proofs.YtldkofdpohaahaaDoor.Mix Go.Proofs.YtldkofdpohaahaaDoor.Eat Go.Proofs.YtldkofdpohaahaaDoor.Write Go.Proofs.YtldkofdpohaahaaDoor.Pad Go.Proofs.YtldkofdpohaahaaDoor.Of Go.Proofs.YtldkofdpohaahaaDoor.Awake Go.Proofs.YtldkofdpohaahaaDoor.Eq
open Go.Proofs.YtldkofdpohaahaaDoor.Sum hiding start_any
set_option linter.unusedVariables false
set_option linter.unusedSimpArgs false
/-- one digit or blank -/
def hstep (s : List Int × Int) (ch : Int) : List Int × Int :=
  if ch = 32 then (s.1 ++ [s.2], 0)
  else if ch ≤ 57 then (s.1, ((16 * s.2) % 4294967296 + (ch - 48) % 256) % 4294967296)
  else (s.1, (((16 * s.2) % 4294967296 + (ch - 97) % 256) % 4294967296 + 10) % 4294967296)
def hfold (s : ByteArray) (i : Nat) : List Int × Int := ((bytesOf s).take i).foldl hstep ([], 0)
def hexP (s : ByteArray) : List Int := (hfold s s.size).1 ++ [(hfold s s.size).2]
theorem hfold_succ (s : ByteArray) (i : Nat) (h : i < s.size) : hfold s (i + 1) = hstep (hfold s i) ((bytesOf s).getD i 0) := by
  unfold hfold
  have hl : i < (bytesOf s).length := by rw [bytesOf_length]; exact h
  rw [List.take_succ_eq_append_getElem hl, List.foldl_append, show (bytesOf s).getD i 0 = (bytesOf s)[i] by simp [hl]]; rfl
theorem hfold_len : ∀ (l : List Int) (s : List Int × Int), (l.foldl hstep s).1.length ≤ s.1.length + l.length
  | [], s => by simp
  | c :: l, s => by
    have h := hfold_len l (hstep s c)
    have h2 : (hstep s c).1.length ≤ s.1.length + 1 := by
      unfold hstep
      split
      · show (s.1 ++ [s.2]).length ≤ _; rw [List.length_append]; exact Nat.le_refl _
      · split <;> (show s.1.length ≤ _; omega)
    show (l.foldl hstep (hstep s c)).1.length ≤ _
    rw [List.length_cons]; omega
theorem info41 : (Tryd.prog.info? 41).map (fun i => (i.zero, i.size, i.bytes)) = some (some (.int .u32 0), 1, 4) := by kernel_rfl
set_option maxHeartbeats 4000000 in
set_option maxRecDepth 100000 in
theorem hex_any (s : ByteArray) (w : World) (hs : s.size < 1073741824) :
    Calls Tryd.prog 14 #[.string s] w fun e w' => ∃ A c, e = .returned (.slice A (hexP s).length c) ∧ ReadsInt w' .u32 A (hexP s).length (hexP s) ∧ Below w.heap.size w w' := by
  have HS := Aside0.mk hs
  have HB := Aside0.mk (Below.refl w.heap.size w)
  clear hs
  go_enter Tryd.func14, Tryd.ntmps14
  go_wp2
  go_loopg [3, 4, 5] (s.size + 1) (fun kq v3 v4 v5 w' => ∃ (i : Nat) (Av : Option Addr) (cv : Nat), v3 = .slice Av (hfold s i).1.length cv ∧ v4 = .int .u32 (hfold s i).2 ∧ v5 = .int .i64 i ∧ Aside0 (i ≤ s.size ∧ s.size - i < kq) ∧ Aside0 (w'.ownsRow w.heap.size 41 1 (.slice Av (hfold s i).1.length cv) (hfold s i).1.length (nums .u32 (hfold s i).1)) ∧ Aside0 (Below w.heap.size w w'))
  case atStart => exact ⟨0, none, 0, rfl, rfl, rfl, ⟨Nat.zero_le _, by omega⟩, ⟨own_nil _ _ _ _⟩, HB⟩
  case round =>
    clear HB
    obtain ⟨i, Av, cv, rfl, rfl, rfl, HI, HO, HB⟩ := hrel
    obtain ⟨xs, hxs⟩ : ∃ x, x = (hfold s i).1 := ⟨_, rfl⟩
    obtain ⟨n, hn⟩ : ∃ x, x = (hfold s i).2 := ⟨_, rfl⟩
    rw [← hxs] at HO
    rw [← hn, ← hxs]
    have HF : Aside0 (hfold s i = (xs, n)) := ⟨by rw [hxs, hn]⟩
    have HXL : Aside0 (xs.length ≤ s.size) := ⟨by
      rw [hxs]
      have := hfold_len ((bytesOf s).take i) ([], 0)
      rw [List.length_take] at this
      have h2 := bytesOf_length s
      show ((bytesOf s).take i |>.foldl hstep ([], 0)).1.length ≤ _
      simp at this; omega⟩
    clear hxs hn
    cases gk with
    | zero => exact absurd HI.out.2 (by omega)
    | succ k2 =>
      by_cases hi : i < s.size
      · have r1 : decide (i < s.size) = true := decide_eq_true hi
        have u1 := eq_true (show (0 : Int) ≤ (i : Int) by omega)
        have u2 := eq_true (show (i : Int) < (s.size : Int) by omega)
        obtain ⟨x, hx⟩ : ∃ x : Nat, (s[i]'hi).toNat = x := ⟨_, rfl⟩
        have hxb : (bytesOf s).getD i 0 = (x : Int) := by
          rw [← hx]; unfold bytesOf
          rw [List.getD_eq_getElem?_getD, List.getElem?_map, List.getElem?_eq_getElem (by rw [Array.length_toList]; exact hi)]; rfl
        have hx256 : x < 256 := by rw [← hx]; exact (s[i]'hi).toNat_lt
        have hw : wrap64 ((i : Int) + 1) = (i : Int) + 1 := by have := HS.out; unfold wrap64; omega
        by_cases h32 : x = 32
        · subst h32
          have HST : Aside0 (hfold s (i + 1) = (xs ++ [n], 0)) := ⟨by rw [hfold_succ s i hi, HF.out, hxb]; unfold hstep; rfl⟩
          have HI0 := Aside0.mk hi
          clear hxb
          go_wp2_with (first | ((with_reducible refine gate_builtin (b := .append) (xs := #[.tmp 26, .tmp 28]) rfl ?_); at_builtin; refine print_append_num (w0 := wr) w.heap.size rfl (.tmp 26) (.tmp 28) 38 41 .u32 4 rfl Tryd.underlying38 info41 (by decide) (.slice Av xs.length cv) xs n rfl rfl HO.out (Below.refl _ _) HB.out.size (by have := HXL.out; have := HS.out; omega) ?_; intro v1 w1 ho hb hg hat; obtain ⟨A1, c1, rfl, hr1⟩ := own_reads ho; have HO1 := Aside0.mk ho; have HR1 := Aside0.mk hr1; have HB1 := Aside0.mk (HB.out.trans hb); clear ho hb hg hat hr1))
          go_roundg k2
          case measure => have := HI.out; have := HI0.out; omega
          case rel => exact ⟨i + 1, A1, c1, (by rw [HST.out]; first | done | (rw [List.length_append]; rfl)), (by rw [HST.out]; first | done | (dsimp only; congr 1; omega)), (congrArg _ (by first | (rw [hw]; push_cast; rfl) | (push_cast; rfl))), ⟨by have := HI0.out; omega, by have := HI.out; have := HI0.out; omega⟩, ⟨by rw [HST.out]; exact HO1.out⟩, HB1⟩
        · have e1 : ((x : Int) == 32) = false := by rw [beq_eq_false_iff_ne]; omega
          have e2 := eq_false h32
          have e3 := eq_false (show ¬ (x : Int) = 32 by omega)
          have e4 : (x == 32) = false := by rw [beq_eq_false_iff_ne]; omega
          by_cases h57 : x ≤ 57
          · have e5 : decide ((x : Int) ≤ 57) = true := decide_eq_true (by omega)
            have e6 : decide (x ≤ 57) = true := decide_eq_true h57
            have HST : Aside0 (hfold s (i + 1) = (xs, ((16 * n) % 4294967296 + ((x : Int) - 48) % 256) % 4294967296)) := ⟨by rw [hfold_succ s i hi, HF.out, hxb]; unfold hstep; rw [if_neg (by omega), if_pos (by omega)]⟩
            have HI0 := Aside0.mk hi
            clear hxb
            go_wp2
            go_roundg k2
            case measure => have := HI.out; have := HI0.out; omega
            case rel => exact ⟨i + 1, Av, cv, (by rw [HST.out]; first | done | (rw [List.length_append]; rfl)), (by rw [HST.out]; first | done | (dsimp only; congr 1; omega)), (congrArg _ (by first | (rw [hw]; push_cast; rfl) | (push_cast; rfl))), ⟨by have := HI0.out; omega, by have := HI.out; have := HI0.out; omega⟩, ⟨by rw [HST.out]; exact HO.out⟩, HB⟩
          · have e5 : decide ((x : Int) ≤ 57) = false := decide_eq_false (by omega)
            have e6 : decide (x ≤ 57) = false := decide_eq_false h57
            have HST : Aside0 (hfold s (i + 1) = (xs, (((16 * n) % 4294967296 + ((x : Int) - 97) % 256) % 4294967296 + 10) % 4294967296)) := ⟨by rw [hfold_succ s i hi, HF.out, hxb]; unfold hstep; rw [if_neg (by omega), if_neg (by omega)]⟩
            have HI0 := Aside0.mk hi
            clear hxb
            go_wp2
            go_roundg k2
            case measure => have := HI.out; have := HI0.out; omega
            case rel => exact ⟨i + 1, Av, cv, (by rw [HST.out]; first | done | (rw [List.length_append]; rfl)), (by rw [HST.out]; first | done | (dsimp only; congr 1; omega)), (congrArg _ (by first | (rw [hw]; push_cast; rfl) | (push_cast; rfl))), ⟨by have := HI0.out; omega, by have := HI.out; have := HI0.out; omega⟩, ⟨by rw [HST.out]; exact HO.out⟩, HB⟩
      · have r1 : decide (i < s.size) = false := decide_eq_false hi
        have hfi : hfold s s.size = (xs, n) := by rw [← HF.out]; congr 1; have := HI.out; omega
        have HP : Aside0 (hexP s = xs ++ [n]) := ⟨by unfold hexP; rw [hfi]⟩
        clear hi hfi
        go_wp2_with (first | ((with_reducible refine gate_builtin (b := .append) (xs := #[.tmp 43, .tmp 45]) rfl ?_); at_builtin; refine print_append_num (w0 := wr) w.heap.size rfl (.tmp 43) (.tmp 45) 38 41 .u32 4 rfl Tryd.underlying38 info41 (by decide) (.slice Av xs.length cv) xs n rfl rfl HO.out (Below.refl _ _) HB.out.size (by have := HXL.out; have := HS.out; omega) ?_; intro v1 w1 ho hb hg hat; obtain ⟨A1, c1, rfl, hr1⟩ := own_reads ho; have HO1 := Aside0.mk ho; have HR1 := Aside0.mk hr1; have HB1 := Aside0.mk (HB.out.trans hb); clear ho hb hg hat hr1))
        go_ret
        exact ⟨A1, c1, by rw [HP.out, List.length_append]; rfl, by rw [HP.out]; exact HR1.out, HB1.out⟩
end Go.Proofs.YtldkofdpohaahaaDoor.Hex
