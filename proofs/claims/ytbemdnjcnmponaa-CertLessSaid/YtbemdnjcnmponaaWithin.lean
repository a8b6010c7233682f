/- Whether all sets are within one (cert.within, its closure, ContainsFunc, IndexFunc): contracts; for every input. -/
import Derived.Test.YtbemdnjcnmponaaData
import Derived.Test.YtbemdnjcnmponaaWMore
import Derived.Test.YtbemdnjcnmponaaWGuard
import Derived.WalkKit
import Derived.ProofKit
import Derived.KernelRfl
import Derived.Below
import Derived.Deep.LoopGhost
import Derived.Outline
namespace Go.Proofs.Ytbemdnjcnmponaa.Within
open Go.RowKit Go.Proofs.YtbemdnjcnmponaaW.PrintWords Go.Proofs.YtbemdnjcnmponaaW.PrintLast Go.Proofs.YtbemdnjcnmponaaW.PrintMore Go.Proofs.Ytbemdnjcnmponaa.PCertSame Go.Proofs.Ytbemdnjcnmponaa.Data
set_option linter.unusedVariables false
set_option linter.unusedSimpArgs false

/-- what of a set is not in another one -/
def out (m all : Int) : Int := bits .andNot .u32 m all
/-- the place of the first set that is not within -/
def idxOf (all : Int) : List Int → Int → Int
  | [], _ => -1
  | m :: r, i => if out m all = 0 then idxOf all r (i + 1) else i
def allIn (all : Int) (l : List Int) : Bool := l.all fun m => out m all == 0

theorem idxOf_neg (all : Int) : ∀ (l : List Int) (i : Int), 0 ≤ i → decide (0 ≤ idxOf all l i) = !allIn all l
  | [], i, _ => by simp [idxOf, allIn]
  | m :: r, i, h => by
    unfold idxOf
    by_cases c : out m all = 0
    · rw [if_pos c, idxOf_neg all r (i + 1) (by omega)]; simp [allIn, c]
    · rw [if_neg c]; simp [allIn, c, h]

theorem within_any (m all : Int) (w : World) : Calls Try.prog 31 #[.int .u32 m, .int .u32 all] w fun e w' => e = .returned (.bool (out m all == 0)) ∧ w = w' := by
  go_enter Try.func31, Try.ntmps31
  go_wp2
  go_ret
  exact ⟨rfl, rfl⟩

theorem clo_any (m all : Int) (p : Addr) (w : World) (hp : w.cell? p = some (.int .u32 all)) : Calls Try.prog 30 #[.int .u32 m, .pointer (some p)] w fun e w' => e = .returned (.bool (!(out m all == 0))) ∧ w = w' := by
  go_enter Try.func30, Try.ntmps30
  go_wp2_with (first | (go_at_call 31; (with_reducible refine (within_any m all _).mono ?_); rintro e w' ⟨rfl, rfl⟩))
  go_ret
  exact ⟨rfl, rfl⟩

theorem rd_nat (l : List Int) (i : Nat) : rd l (i : Int) = l.getD i 0 := by unfold rd; simp
theorem drop_rd (l : List Int) (i : Int) (h0 : 0 ≤ i) (h : i < l.length) : l.drop i.toNat = rd l i :: l.drop (i + 1).toNat := by
  have h' : i.toNat < l.length := by omega
  rw [List.drop_eq_getElem_cons h', show (i + 1).toNat = i.toNat + 1 by omega]
  unfold rd; simp [h']

set_option maxHeartbeats 1000000 in
set_option maxRecDepth 100000 in
theorem index_any (A : Option Addr) (c : Nat) (l : List Int) (all : Int) (p : Addr) (w : World) (hR : Kd.C (Kd.int .u32) w A l.length l) (hl : l.length ≤ 9223372036854775807) (hp : w.cell? p = some (.int .u32 all)) :
    Calls Try.prog 33 #[.slice A l.length c, .func (.func 30) #[] #[.pointer (some p)]] w fun e w' => e = .returned (.int .i64 (idxOf all l 0)) ∧ Below w.heap.size w w' := by
  have HB := Aside0.mk (Below.refl w.heap.size w)
  have HR0 := Aside0.mk hR
  have HP := Aside0.mk hp
  have HL := Aside0.mk hl
  clear hR hp hl
  go_enter Try.func33, Try.ntmps33
  go_wp2
  go_loopg [8] (l.length + 1) (fun kq v8 w' => ∃ i : Int, v8 = .int .i64 i ∧ Aside0 (0 ≤ i ∧ i ≤ l.length ∧ l.length - i < kq ∧ idxOf all (l.drop i.toNat) i = idxOf all l 0) ∧ Aside0 (Below w.heap.size w w'))
  case atStart => exact ⟨0, rfl, ⟨by omega, by omega, by omega, rfl⟩, HB⟩
  case round =>
    clear HB
    obtain ⟨i, rfl, HI, HB⟩ := hrel
    cases gk with
    | zero => exact absurd HI.out (by omega)
    | succ k2 =>
      obtain ⟨i0, i1, ik, hx⟩ := HI.out
      by_cases hi : i < l.length
      · rw [drop_rd l i i0 hi, idxOf] at hx
        obtain ⟨ad, e133, hx133⟩ := Kd.at_int HR0.out i i0 hi
        cases e133
        have hcell := (HB.out.cell (World.block_lt_of_cell? w _ hx133)).trans hx133
        have hpc := (HB.out.cell (World.block_lt_of_cell? w _ HP.out)).trans HP.out
        have HPC := Aside0.mk hpc
        have c1 : decide (i < (l.length : Int)) = true := decide_eq_true hi
        have p1 := eq_true i0
        have p2 := eq_true hi
        have hw : wrap64 (i + 1) = i + 1 := by have := HL.out; unfold wrap64; omega
        have HW := Aside0.mk hw
        by_cases hz : out (rd l i) all = 0
        · rw [if_pos hz] at hx
          have HX := Aside0.mk hx
          have hz1 : (out (rd l i) all == 0) = true := beq_iff_eq.mpr hz
          clear hx hz hpc hw hx133 i0 i1 ik hi
          go_wp2_with (first | (go_at_call 30; (with_reducible refine (clo_any (rd l i) all p _ HPC.out).mono ?_); rintro e w' ⟨rfl, rfl⟩))
          go_roundg k2
          case measure => omega
          case rel => exact ⟨i + 1, (by rw [HW.out]), ⟨by have := HI.out; omega, by have := HI.out; have := of_eq_true p2; omega, by have := HI.out; omega, HX.out⟩, HB⟩
        · rw [if_neg hz] at hx
          have HX := Aside0.mk hx
          have hz1 : (out (rd l i) all == 0) = false := beq_eq_false_iff_ne.mpr hz
          clear hx hz hpc hw hx133 i0 i1 ik hi
          go_wp2_with (first | (go_at_call 30; (with_reducible refine (clo_any (rd l i) all p _ HPC.out).mono ?_); rintro e w' ⟨rfl, rfl⟩))
          go_ret
          exact ⟨by rw [← HX.out]; rfl, HB.out⟩
      · have e : i = l.length := by omega
        have hx0 : idxOf all l 0 = -1 := by
          rw [← hx, e]; simp [idxOf]
        have HX := Aside0.mk hx0
        have c1 : decide (i < (l.length : Int)) = false := decide_eq_false hi
        clear hx e hi i0 i1 ik hx0
        go_wp2
        go_ret
        exact ⟨by rw [HX.out]; rfl, HB.out⟩

set_option maxHeartbeats 1000000 in
set_option maxRecDepth 100000 in
theorem contains_any (A : Option Addr) (c : Nat) (l : List Int) (all : Int) (p : Addr) (w : World) (hR : Kd.C (Kd.int .u32) w A l.length l) (hl : l.length ≤ 9223372036854775807) (hp : w.cell? p = some (.int .u32 all)) :
    Calls Try.prog 29 #[.slice A l.length c, .func (.func 30) #[] #[.pointer (some p)]] w fun e w' => e = .returned (.bool (!allIn all l)) ∧ Below w.heap.size w w' := by
  have h := idxOf_neg all l 0 (by omega)
  have H := Aside0.mk h
  have H1 := Aside0.mk (index_any A c l all p w hR hl hp)
  clear h hR hp hl
  go_enter Try.func29, Try.ntmps29
  go_wp2_with (first | (go_at_call 33; (with_reducible refine H1.out.mono ?_); rintro e w' ⟨rfl, hb⟩))
  go_ret
  exact ⟨by rw [← H.out]; first | rfl | (simp; done), hb⟩

set_option maxHeartbeats 1000000 in
set_option maxRecDepth 100000 in
/-- cert.within -/
theorem within_all (A : Option Addr) (c : Nat) (l : List Int) (all : Int) (w : World) (hR : Kd.C (Kd.int .u32) w A l.length l) (hl : l.length ≤ 9223372036854775807) :
    Calls Try.prog 25 #[.int .u32 all, .slice A l.length c] w fun e w' => e = .returned (.bool (allIn all l)) ∧ Below w.heap.size w w' := by
  have hmf : ∀ (fn : Fn) (first cap : Array Value) (w : World), (Instr.makeFunc fn first cap).run Try.prog w = .ok (.func fn first cap) w := fun _ _ _ _ => rfl
  have hp : (w.alloc (.cells #[.int .u32 all] 35)).cell? ⟨w.heap.size, 0, none⟩ = some (.int .u32 all) := by
    rw [World.cell?_alloc_at _ _ _ _ rfl]; rfl
  have hb0 : Below w.heap.size w (w.alloc (.cells #[.int .u32 all] 35)) := below_alloc (Below.refl _ _) _
  have H1 := Aside0.mk (contains_any A c l all ⟨w.heap.size, 0, none⟩ (w.alloc (.cells #[.int .u32 all] 35)) (Kd.C_alloc hR _) hl hp)
  have HB := Aside0.mk hb0
  clear hR hl hp hb0
  go_enter Try.func25, Try.ntmps25
  go_wp2_with (first | (go_at_call 29; (with_reducible refine H1.out.mono ?_); rintro e w' ⟨rfl, hb⟩))
  go_ret
  exact ⟨by first | rfl | (simp; done), below_step HB.out hb⟩
end Go.Proofs.Ytbemdnjcnmponaa.Within
