/- A digest of nothing (sha.New): its contract; no condition. -/
import Derived.Test.YtldkofdpohaahaaDoorWord
namespace Go.Proofs.YtldkofdpohaahaaDoor.New
open Go.RowKit Go.Proofs.YtldkofdpohaahaaDoorW.PrintWords Go.Proofs.YtldkofdpohaahaaDoorW.PrintLast Go.Proofs.YtldkofdpohaahaaDoorW.PrintMore
set_option linter.unusedVariables false
/-- the cells of a digest on its way: eight words, the slice of what is left, how many bytes came -/
def stateCells (h : Nat → Int) (L : Value) (n : Int) : Array Value := #[.int .u32 (h 0), .int .u32 (h 1), .int .u32 (h 2), .int .u32 (h 3), .int .u32 (h 4), .int .u32 (h 5), .int .u32 (h 6), .int .u32 (h 7), L, .int .u64 n]
def h0 (i : Nat) : Int := [1779033703, 3144134277, 1013904242, 2773480762, 1359893119, 2600822924, 528734635, 1541459225].getD i 0
set_option maxHeartbeats 2000000 in
set_option maxRecDepth 100000 in
theorem new_any (w : World) : Calls Tryd.prog 10 #[] w fun e w' => e = .returned (.pointer (some ⟨w.heap.size, 0, none⟩)) ∧ w' = w.alloc (.cells (stateCells h0 (.slice none 0 0) 0) 47) := by
  go_enter Tryd.func10, Tryd.ntmps10
  go_wp2
  go_ret
  exact ⟨rfl, rfl⟩
end Go.Proofs.YtldkofdpohaahaaDoor.New
