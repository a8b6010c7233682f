/- The document's example of a certificate (alibilaw18.awake): its contract; no condition. -/
import Derived.Test.YtbemdnjcnmponaaRefCheck
namespace Go.Proofs.Ytbemdnjcnmponaa.Awake
open Go.RowKit Go.Proofs.YtbemdnjcnmponaaW.PrintWords Go.Proofs.YtbemdnjcnmponaaW.PrintLast Go.Proofs.YtbemdnjcnmponaaW.PrintMore Go.Proofs.Ytbemdnjcnmponaa.PCertSame Go.Proofs.Ytbemdnjcnmponaa.Data Go.Proofs.Ytbemdnjcnmponaa.Within Go.Proofs.Ytbemdnjcnmponaa.Section Go.Proofs.Ytbemdnjcnmponaa.Plain Go.Proofs.Ytbemdnjcnmponaa.Check Go.Proofs.Ytbemdnjcnmponaa.RefCheck
set_option linter.unusedVariables false

theorem one_row (x : Int) (w : World) : Kd.C (Kd.int .u32) (w.alloc (.cells #[.int .u32 x] 35)) (some ⟨w.heap.size, 0, none⟩) 1 [x] := by
  refine ⟨rfl, by omega, fun _ => ⟨_, rfl, fun j p hp => ?_⟩⟩
  have hj : j = 0 := by
    have := (List.getElem?_eq_some_iff.1 hp).1
    simp at this; exact this
  subst hj
  simp at hp; subst hp
  refine ⟨[.int .u32 x], rfl, rfl, fun i u hu => ?_⟩
  have hi : i = 0 := by
    have := (List.getElem?_eq_some_iff.1 hu).1
    simp at this; exact this
  subst hi
  simp at hu; subst hu
  have e : (⟨w.heap.size, 0, none⟩ : Addr).add (0 * (Kd.int .u32).sz + 0) = ⟨w.heap.size, 0, none⟩ := by simp [Addr.add]
  rw [e, World.cell?_alloc_at _ _ _ _ rfl]; rfl

/-- one section in a row of its own -/
theorem one_sec (s : Sec) (A B : Option Addr) (c c' : Nat) (w : World) (hc : s.held.length ≤ c) (hc' : s.live.length ≤ c') (hA : Kd.C (Kd.int .u32) w A s.held.length s.held) (hB : Kd.C (Kd.int .u32) w B s.live.length s.live) :
    Kd.C kSec (w.alloc (.cells #[.int .u32 s.entry, .int .u32 s.exit, .slice A s.held.length c, .int .u32 s.le, .int .u32 s.lx, .slice B s.live.length c'] 38)) (some ⟨w.heap.size, 0, none⟩) 1 [s] := by
  refine ⟨rfl, by omega, fun _ => ⟨_, rfl, fun j p hp => ?_⟩⟩
  have hj : j = 0 := by
    have := (List.getElem?_eq_some_iff.1 hp).1
    simp at this; exact this
  subst hj
  simp at hp; subst hp
  refine ⟨[.int .u32 s.entry, .int .u32 s.exit, .slice A s.held.length c, .int .u32 s.le, .int .u32 s.lx, .slice B s.live.length c'], rfl,
    ⟨[_], _, rfl, rfl, [_], _, rfl, rfl, [_], _, rfl, ⟨A, c, rfl, hc, Kd.C_alloc hA _⟩, [_], _, rfl, rfl, [_], _, rfl, rfl, B, c', rfl, hc', Kd.C_alloc hB _⟩, fun i u hu => ?_⟩
  have e : (⟨w.heap.size, 0, none⟩ : Addr).add (0 * kSec.sz + i) = ⟨w.heap.size, i, none⟩ := by
    unfold Addr.add
    split <;> simp_all
  rw [e, World.cell?_alloc_at _ _ _ _ rfl]
  simpa using hu

def exCrt : Crt := ⟨List.replicate 32 0, [⟨0, 0, [0], 0, 0, [0]⟩], []⟩
def exNone : Crt := ⟨List.replicate 32 0, [], []⟩
theorem chk_ex : chk exCrt = (0, 0) := by decide +kernel
theorem chk_none : chk exNone = (0, 1) := by decide +kernel

theorem ex_check (b : Nat) (w : World) (h : Kd.C kSec w (some ⟨b, 0, none⟩) 1 [⟨0, 0, [0], 0, 0, [0]⟩]) :
    Calls Try.prog 10 #[.agg #[.int .u8 0, .int .u8 0, .int .u8 0, .int .u8 0, .int .u8 0, .int .u8 0, .int .u8 0, .int .u8 0, .int .u8 0, .int .u8 0, .int .u8 0, .int .u8 0, .int .u8 0, .int .u8 0, .int .u8 0, .int .u8 0, .int .u8 0, .int .u8 0, .int .u8 0, .int .u8 0, .int .u8 0, .int .u8 0, .int .u8 0, .int .u8 0, .int .u8 0, .int .u8 0, .int .u8 0, .int .u8 0, .int .u8 0, .int .u8 0, .int .u8 0, .int .u8 0, .slice (some ⟨b, 0, none⟩) 1 1, .slice none 0 0]] w fun e w' => e = .returned (.tuple #[.int .i64 0, .int .i64 0]) ∧ Below w.heap.size w w' := by
  have hh := check_any exCrt #[.int .u8 0, .int .u8 0, .int .u8 0, .int .u8 0, .int .u8 0, .int .u8 0, .int .u8 0, .int .u8 0, .int .u8 0, .int .u8 0, .int .u8 0, .int .u8 0, .int .u8 0, .int .u8 0, .int .u8 0, .int .u8 0, .int .u8 0, .int .u8 0, .int .u8 0, .int .u8 0, .int .u8 0, .int .u8 0, .int .u8 0, .int .u8 0, .int .u8 0, .int .u8 0, .int .u8 0, .int .u8 0, .int .u8 0, .int .u8 0, .int .u8 0, .int .u8 0, .slice (some ⟨b, 0, none⟩) 1 1, .slice none 0 0] (some ⟨b, 0, none⟩) none 1 0 w
    ⟨rfl, rfl, rfl, by simp [exCrt], by simp [exCrt], h, Kd.C_nil _ _⟩ (by intro s hs; simp [exCrt] at hs; subst hs; simp)
  rw [chk_ex] at hh
  exact hh
theorem none_check (w : World) :
    Calls Try.prog 10 #[.agg #[.int .u8 0, .int .u8 0, .int .u8 0, .int .u8 0, .int .u8 0, .int .u8 0, .int .u8 0, .int .u8 0, .int .u8 0, .int .u8 0, .int .u8 0, .int .u8 0, .int .u8 0, .int .u8 0, .int .u8 0, .int .u8 0, .int .u8 0, .int .u8 0, .int .u8 0, .int .u8 0, .int .u8 0, .int .u8 0, .int .u8 0, .int .u8 0, .int .u8 0, .int .u8 0, .int .u8 0, .int .u8 0, .int .u8 0, .int .u8 0, .int .u8 0, .int .u8 0, .slice none 0 0, .slice none 0 0]] w fun e w' => e = .returned (.tuple #[.int .i64 0, .int .i64 1]) ∧ Below w.heap.size w w' := by
  have hh := check_any exNone #[.int .u8 0, .int .u8 0, .int .u8 0, .int .u8 0, .int .u8 0, .int .u8 0, .int .u8 0, .int .u8 0, .int .u8 0, .int .u8 0, .int .u8 0, .int .u8 0, .int .u8 0, .int .u8 0, .int .u8 0, .int .u8 0, .int .u8 0, .int .u8 0, .int .u8 0, .int .u8 0, .int .u8 0, .int .u8 0, .int .u8 0, .int .u8 0, .int .u8 0, .int .u8 0, .int .u8 0, .int .u8 0, .int .u8 0, .int .u8 0, .int .u8 0, .int .u8 0, .slice none 0 0, .slice none 0 0] none none 0 0 w
    ⟨rfl, rfl, rfl, by simp [exNone], by simp [exNone], Kd.C_nil _ _, Kd.C_nil _ _⟩ (by intro s hs; simp [exNone] at hs)
  rw [chk_none] at hh
  exact hh

set_option maxHeartbeats 8000000 in
set_option maxRecDepth 100000 in
theorem awake_any (w : World) :
    Calls Try.prog 8 #[] w fun e w' => e = .returned (.bool true) ∧ Below w.heap.size w w' := by
  have h1 := one_row 0 w
  have h2 := one_row 0 (w.alloc (.cells #[.int .u32 0] 35))
  have hsz : ((w.alloc (.cells #[.int .u32 0] 35)).alloc (.cells #[.int .u32 0] 35)).heap.size = w.heap.size + 1 + 1 := by simp
  have h3 : Kd.C kSec (((w.alloc (.cells #[.int .u32 0] 35)).alloc (.cells #[.int .u32 0] 35)).alloc (.cells #[.int .u32 0, .int .u32 0, .slice (some ⟨w.heap.size, 0, none⟩) 1 1, .int .u32 0, .int .u32 0, .slice (some ⟨w.heap.size + 1, 0, none⟩) 1 1] 38)) (some ⟨w.heap.size + 1 + 1, 0, none⟩) 1 [⟨0, 0, [0], 0, 0, [0]⟩] := by
    have h := one_sec ⟨0, 0, [0], 0, 0, [0]⟩ (some ⟨w.heap.size, 0, none⟩) (some ⟨w.heap.size + 1, 0, none⟩) 1 1 ((w.alloc (.cells #[.int .u32 0] 35)).alloc (.cells #[.int .u32 0] 35)) (by simp) (by simp) (Kd.C_alloc h1 _) (by simpa using h2)
    rw [hsz] at h
    exact h
  have H3 := Aside0.mk h3
  have HB := Aside0.mk (below_alloc (below_alloc (below_alloc (Below.refl w.heap.size w) (.cells #[.int .u32 0] 35)) (.cells #[.int .u32 0] 35)) (.cells #[.int .u32 0, .int .u32 0, .slice (some ⟨w.heap.size, 0, none⟩) 1 1, .int .u32 0, .int .u32 0, .slice (some ⟨w.heap.size + 1, 0, none⟩) 1 1] 38))
  clear h1 h2 h3 hsz
  go_enter Try.func8, Try.ntmps8
  go_wp2_with (first | (go_at_call 10; (with_reducible refine (ex_check (w.heap.size + 1 + 1) _ H3.out).mono ?_); rintro e w1 ⟨rfl, hb⟩; have n_ := Aside0.mk (below_step HB.out hb); clear HB; have HB := n_; clear n_ hb) | (go_at_call 10; (with_reducible refine (none_check _).mono ?_); rintro e w2 ⟨rfl, hb⟩; have n_ := Aside0.mk (below_step HB.out hb); clear HB; have HB := n_; clear n_ hb))
  go_ret
  exact ⟨by first | rfl | (simp; done), HB.out⟩
end Go.Proofs.Ytbemdnjcnmponaa.Awake
