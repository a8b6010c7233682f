/- The laws' anchor (alibilaw02.awake): it answers true; the keys laid as the text says. -/
import Derived.Test.YtldkofdpohaahaaDoorText
import Derived.Lib.SlBytesConst
namespace Go.Proofs.YtldkofdpohaahaaDoor.Awake
open Go.RowKit Go.Proofs.YtldkofdpohaahaaDoorW.PrintWords Go.Proofs.YtldkofdpohaahaaDoorW.PrintLast Go.Proofs.YtldkofdpohaahaaDoorW.PrintMore Go.Proofs.YtldkofdpohaahaaDoor.New Go.Proofs.YtldkofdpohaahaaDoor.Plain Go.Proofs.YtldkofdpohaahaaDoor.Spread Go.Proofs.YtldkofdpohaahaaDoor.Rounds Go.Proofs.YtldkofdpohaahaaDoor.Mix Go.Proofs.YtldkofdpohaahaaDoor.Eat Go.Proofs.YtldkofdpohaahaaDoor.Pad Go.Proofs.YtldkofdpohaahaaDoor.Of Go.Proofs.YtldkofdpohaahaaDoor.Text
open Go.Proofs.YtldkofdpohaahaaDoor.Sum hiding start_any
set_option linter.unusedVariables false
set_option linter.unusedSimpArgs false
def lit0 : ByteArray := { data := #[101, 51, 98, 48, 99, 52, 52, 50, 57, 56, 102, 99, 49, 99, 49, 52, 57, 97, 102, 98, 102, 52, 99, 56, 57, 57, 54, 102, 98, 57, 50, 52, 50, 55, 97, 101, 52, 49, 101, 52, 54, 52, 57, 98, 57, 51, 52, 99, 97, 52, 57, 53, 57, 57, 49, 98, 55, 56, 53, 50, 98, 56, 53, 53] }
def lit1 : ByteArray := { data := #[98, 97, 55, 56, 49, 54, 98, 102, 56, 102, 48, 49, 99, 102, 101, 97, 52, 49, 52, 49, 52, 48, 100, 101, 53, 100, 97, 101, 50, 50, 50, 51, 98, 48, 48, 51, 54, 49, 97, 51, 57, 54, 49, 55, 55, 97, 57, 99, 98, 52, 49, 48, 102, 102, 54, 49, 102, 50, 48, 48, 49, 53, 97, 100] }
theorem lit0_list : lit0.toList = [101, 51, 98, 48, 99, 52, 52, 50, 57, 56, 102, 99, 49, 99, 49, 52, 57, 97, 102, 98, 102, 52, 99, 56, 57, 57, 54, 102, 98, 57, 50, 52, 50, 55, 97, 101, 52, 49, 101, 52, 54, 52, 57, 98, 57, 51, 52, 99, 97, 52, 57, 53, 57, 57, 49, 98, 55, 56, 53, 50, 98, 56, 53, 53] := by kernel_rfl
theorem lit1_list : lit1.toList = [98, 97, 55, 56, 49, 54, 98, 102, 56, 102, 48, 49, 99, 102, 101, 97, 52, 49, 52, 49, 52, 48, 100, 101, 53, 100, 97, 101, 50, 50, 50, 51, 98, 48, 48, 51, 54, 49, 97, 51, 57, 54, 49, 55, 55, 97, 57, 99, 98, 52, 49, 48, 102, 102, 54, 49, 102, 50, 48, 48, 49, 53, 97, 100] := by kernel_rfl
set_option maxRecDepth 100000 in
theorem txt0 : textOf (digest []) = lit0 := by kernel_rfl
set_option maxRecDepth 100000 in
theorem txt1 : textOf (digest [97, 98, 99]) = lit1 := by kernel_rfl
theorem text0 (w : World) : Calls Tryd.prog 13 #[.agg (rowB (digest []))] w fun e w' => e = .returned (.string lit0) ∧ Below w.heap.size w w' := by
  have := text_any (digest []) w (digest_len _) (digest_b _)
  rwa [txt0] at this
theorem text1 (w : World) : Calls Tryd.prog 13 #[.agg (rowB (digest [97, 98, 99]))] w fun e w' => e = .returned (.string lit1) ∧ Below w.heap.size w w' := by
  have := text_any (digest [97, 98, 99]) w (digest_len _) (digest_b _)
  rwa [txt1] at this
theorem of0 (w : World) (hk : KeysAt w) (h0 : 0 < w.heap.size) : Calls Tryd.prog 8 #[.slice none 0 0] w fun e w' => e = .returned (.agg (rowB (digest []))) ∧ Below w.heap.size w w' :=
  of_any none 0 0 [] w ⟨rfl, by decide, fun h => absurd h (by decide)⟩ hk h0 (fun p hp => by cases hp) (by decide)
/-- one part, made afresh: the cells of its bytes lie in a row that is read -/
theorem of1 (w : World) (hk : KeysAt w) (h0 : 0 < w.heap.size) (B : Option Addr) (xs : List Int) (c : Nat) (hr : ReadsInt w .u8 B xs.length xs) (hx : Bytes8 xs) (hl : xs.length < 549755813888) {k : Nat} (hk2 : xs.length = k) :
    Calls Tryd.prog 8 #[.slice (some ⟨w.heap.size, 0, none⟩) 1 1] (w.alloc (.cells #[.slice B k c] 22)) fun e w' => e = .returned (.agg (rowB (digest xs))) ∧ Below w.heap.size w w' := by
  subst hk2
  have hb := below_alloc (Below.refl w.heap.size w) (.cells #[.slice B xs.length c] 22)
  have hp : Parts (w.alloc (.cells #[.slice B xs.length c] 22)) (some ⟨w.heap.size, 0, none⟩) 1 [xs] := ⟨rfl, by decide, fun _ => ⟨_, rfl, fun j hj => by
    obtain rfl : j = 0 := by omega
    exact ⟨B, c, (by rw [add_plain, cell_of_row _ _ 0 _ 22 (0, 0) (heap_alloc_new w _)]; rfl), hr.below hb⟩⟩⟩
  have he : [xs].flatten = xs := by simp
  have := of_any _ 1 1 [xs] _ hp (hk.below hb h0) (Nat.lt_of_lt_of_le h0 hb.size) (fun p hp => by rw [List.mem_singleton.1 hp]; exact hx) (by rw [he]; exact hl)
  rw [he] at this
  exact this.mono fun e w' h => ⟨h.1, hb.trans (h.2.mono hb.size)⟩
theorem of_abc (w2 : World) (hk : KeysAt w2) (h0 : 0 < w2.heap.size) : Calls Tryd.prog 8 #[.slice (some ⟨w2.heap.size + 1, 0, none⟩) 1 1] ((w2.alloc (.cells #[.int .u8 97, .int .u8 98, .int .u8 99] 5 (3, 4))).alloc (.cells #[.slice (some ⟨w2.heap.size, 0, none⟩) 3 3] 22)) fun e w' => e = .returned (.agg (rowB (digest [97, 98, 99]))) ∧ Below w2.heap.size w2 w' := by
  have hb := below_alloc (Below.refl w2.heap.size w2) (.cells #[.int .u8 97, .int .u8 98, .int .u8 99] 5 (3, 4))
  have hs : (w2.alloc (.cells #[.int .u8 97, .int .u8 98, .int .u8 99] 5 (3, 4))).heap.size = w2.heap.size + 1 := by simp
  have := of1 _ (hk.below hb h0) (Nat.lt_of_lt_of_le h0 hb.size) (some ⟨w2.heap.size, 0, none⟩) [97, 98, 99] 3 ⟨rfl, by decide, fun _ => ⟨_, rfl, fun j hj => by
    rw [add_plain, cell_of_row _ _ j _ 5 (3, 4) (heap_alloc_new w2 _)]
    match j, hj with
    | 0, _ | 1, _ | 2, _ => rfl⟩⟩ (fun x hx => by simp at hx; omega) (by decide) (k := 3) rfl
  rw [hs] at this
  exact this.mono fun e w' h => ⟨h.1, hb.trans (h.2.mono (by omega))⟩
set_option maxHeartbeats 4000000 in
set_option maxRecDepth 100000 in
theorem awake_any (w : World) (hk : KeysAt w) (h0 : 0 < w.heap.size) : Calls Tryd.prog 7 #[] w fun e w' => e = .returned (.bool true) ∧ Below w.heap.size w w' := by
  have HK := Aside0.mk hk
  have H0 := Aside0.mk h0
  have HOF := Aside0.mk (of0 w hk h0)
  have e0 := lit0_list
  have e1 := lit1_list
  clear hk h0
  go_enter Tryd.func7, Tryd.ntmps7
  go_wp2_with (first | (go_at_call 8; (with_reducible refine HOF.out.mono ?_); rintro e w1 ⟨rfl, hb1⟩; have HB1 := Aside0.mk hb1; clear hb1) | (go_at_call 13; (with_reducible refine (text0 _).mono ?_); rintro e w2 ⟨rfl, hb2⟩; have HB2 := Aside0.mk (below_step HB1.out hb2); have hcv := Lib.run_convert_bytes_const w2 22 5 #[.int .u8 97, .int .u8 98, .int .u8 99] 3 3 Tryd.underlying22 Tryd.underlying5; have HO1 := Aside0.mk (of_abc w2 (HK.out.below HB2.out H0.out) (Nat.lt_of_lt_of_le H0.out HB2.out.size)); clear hb2 HOF) | (go_at_call 8; (with_reducible refine HO1.out.mono ?_); rintro e w3 ⟨rfl, hb3⟩; have HB3 := Aside0.mk (below_step HB2.out hb3); clear hb3 HO1 hcv) | (go_at_call 13; (with_reducible refine (text1 _).mono ?_); rintro e w4 ⟨rfl, hb4⟩; have HB4 := Aside0.mk (below_step HB3.out hb4); clear hb4))
  go_ret
  exact ⟨rfl, HB4.out⟩
end Go.Proofs.YtldkofdpohaahaaDoor.Awake
