/- Certificates with their digests written out; a law to load an array that lies within a block; what is built of them. No condition. -/
import Derived.Test.YtbemdnjcnmponaaLaws1
import Derived.Laws.Cells
import Derived.Laws.Tables
namespace Go.Proofs.Ytbemdnjcnmponaa.Lit
open Go.RowKit Go.Proofs.YtbemdnjcnmponaaW.PrintWords Go.Proofs.YtbemdnjcnmponaaW.PrintMore Go.Proofs.Ytbemdnjcnmponaa.PCertSame Go.Proofs.Ytbemdnjcnmponaa.Data Go.Proofs.Ytbemdnjcnmponaa.Plain Go.Proofs.Ytbemdnjcnmponaa.Check Go.Proofs.Ytbemdnjcnmponaa.Laws1
set_option linter.unusedVariables false

abbrev litD (dg : Nat → Int) : Array Value := #[.int .u8 (dg 0), .int .u8 (dg 1), .int .u8 (dg 2), .int .u8 (dg 3), .int .u8 (dg 4), .int .u8 (dg 5), .int .u8 (dg 6), .int .u8 (dg 7), .int .u8 (dg 8), .int .u8 (dg 9), .int .u8 (dg 10), .int .u8 (dg 11), .int .u8 (dg 12), .int .u8 (dg 13), .int .u8 (dg 14), .int .u8 (dg 15), .int .u8 (dg 16), .int .u8 (dg 17), .int .u8 (dg 18), .int .u8 (dg 19), .int .u8 (dg 20), .int .u8 (dg 21), .int .u8 (dg 22), .int .u8 (dg 23), .int .u8 (dg 24), .int .u8 (dg 25), .int .u8 (dg 26), .int .u8 (dg 27), .int .u8 (dg 28), .int .u8 (dg 29), .int .u8 (dg 30), .int .u8 (dg 31)]
abbrev litC (dg : Nat → Int) (S J : Value) : Array Value := #[.int .u8 (dg 0), .int .u8 (dg 1), .int .u8 (dg 2), .int .u8 (dg 3), .int .u8 (dg 4), .int .u8 (dg 5), .int .u8 (dg 6), .int .u8 (dg 7), .int .u8 (dg 8), .int .u8 (dg 9), .int .u8 (dg 10), .int .u8 (dg 11), .int .u8 (dg 12), .int .u8 (dg 13), .int .u8 (dg 14), .int .u8 (dg 15), .int .u8 (dg 16), .int .u8 (dg 17), .int .u8 (dg 18), .int .u8 (dg 19), .int .u8 (dg 20), .int .u8 (dg 21), .int .u8 (dg 22), .int .u8 (dg 23), .int .u8 (dg 24), .int .u8 (dg 25), .int .u8 (dg 26), .int .u8 (dg 27), .int .u8 (dg 28), .int .u8 (dg 29), .int .u8 (dg 30), .int .u8 (dg 31), S, J]

theorem lit_list (l : List Int) (h : l.length = 32) : l.map (Value.int .u8) = (litD (fun i => l.getD i 0)).toList := by
  apply List.ext_getElem?
  intro i
  have hr : (litD (fun i => l.getD i 0)).toList = (List.range 32).map (fun i => Value.int .u8 (l.getD i 0)) := rfl
  rw [hr, List.getElem?_map, List.getElem?_map]
  by_cases hi : i < 32
  · rw [List.getElem?_range hi, List.getElem?_eq_getElem (by omega)]
    simp [List.getElem?_eq_getElem (show i < l.length by omega)]
  · rw [List.getElem?_eq_none (by omega), List.getElem?_eq_none (by rw [List.length_range]; omega)]; rfl

theorem lit_cells (l : List Int) (h : l.length = 32) (S J : Value) : (l.map (Value.int .u8) ++ [S, J]).toArray = litC (fun i => l.getD i 0) S J := by
  rw [lit_list l h]; rfl

section
variable {P : Program}
/-- an array (or a struct) that lies from an offset on in a block -/
theorem run_loadVar_sub (w : World) (g off : Nat) (t ty : TypeId) (cs D : Array Value) (fr : Nat × Nat) (d : TypeDesc) (hg : w.heap[g]? = some (.cells cs t fr)) (hD : ∀ j, j < D.size → cs[off + j]? = D[j]?)
    (hu : P.underlying ty = some d) (hd : (match d with | .struct _ | .array _ _ => true | _ => false) = true) (hi : (P.info? ty).map (·.size) = some D.size) :
    (loadVar ty ⟨g, off, none⟩).run P w = .ok (.agg D) w := by
  have hl : (loadCells ⟨g, off, none⟩ D.toList.length).run P w = .ok D.toList.toArray w :=
    run_loadCells_list (P := P) w ⟨g, off, none⟩ D.toList (fun j v hv => by
      have hadd : (⟨g, off, none⟩ : Addr).add j = ⟨g, off + j, none⟩ := by unfold Addr.add; split <;> simp_all
      have hj : j < D.size := by have := (List.getElem?_eq_some_iff.1 hv).1; simpa using this
      rw [hadd, cell_of_row w g (off + j) cs t fr hg, hD j hj]
      simpa using hv)
  cases hq : P.info? ty with
  | none => simp [hq] at hi
  | some i =>
    have hs : i.size = D.size := by simpa [hq] using hi
    have hagg : (isAgg ty).run P w = .ok true w := by
      unfold isAgg
      rw [Sem.run_bind, run_underlying hu w]
      cases d <;> simp_all
    simp only [Array.length_toList, Array.toArray_toList] at hl
    simp [loadVar, Sem.run_bind, hagg, sizeOf, typeInfo, hq, hs, hl]

theorem wpList_load_sub {ops : Array Oper} {rest : List Oper} {o : Oper} {a : Act} {w : World} {Q : Exit → Act → World → Prop} (hgd : o.guard = none) (ty : TypeId) (x : Operand) (ho : o.op = .load ty x)
    (g off : Nat) (hx : a.eval x = .pointer (some ⟨g, off, none⟩)) (t : TypeId) (cs D : Array Value) (fr : Nat × Nat) (d : TypeDesc) (hg : w.heap[g]? = some (.cells cs t fr)) (hD : ∀ j, j < D.size → cs[off + j]? = D[j]?)
    (hu : P.underlying ty = some d) (hd : (match d with | .struct _ | .array _ _ => true | _ => false) = true) (hi : (P.info? ty).map (·.size) = some D.size)
    (h : wpList P ops Q rest (a.put o.dst (.agg D)) w) : wpList P ops Q (o :: rest) a w :=
  wpList_plain hgd fun K hK => by
    unfold Oper.wp execOp
    simp only [ho, hx, Instr.loadAt, Instr.sureAddr, Sem.run_bind, Sem.run_pure, Result.andThen_ok, run_loadVar_sub w g off t ty cs D fr d hg hD hu hd hi]
    exact hK _ _ h
end

theorem dig_sub (dg : Nat → Int) (S J : Value) : ∀ j, j < (litD dg).size → (litC dg S J)[0 + j]? = (litD dg)[j]? := by
  intro j hj
  have e : litC dg S J = litD dg ++ #[S, J] := rfl
  rw [e, Nat.zero_add, Array.getElem?_append_left hj]
theorem size22 (dg : Nat → Int) : (Try.prog.info? 22).map (·.size) = some (litD dg).size := by
  show _ = some 32
  kernel_rfl

theorem litVal {w : World} (dg : Nat → Int) (c : Crt) (A B : Option Addr) (a b : Nat) (ha : c.secs.length ≤ a) (hb : c.justs.length ≤ b) (hA : Kd.C kSec w A c.secs.length c.secs) (hB : Kd.C k40 w B c.justs.length c.justs) :
    CrtVal w c (litC dg (.slice A c.secs.length a) (.slice B c.justs.length b)) A a B b := ⟨rfl, rfl, rfl, ha, hb, hA, hB⟩
end Go.Proofs.Ytbemdnjcnmponaa.Lit
