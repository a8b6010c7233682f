/- The rounds of SHA-256 over numbers, and what a world keeps but for one block; plain laws, no condition. -/
import Derived.Test.YtldkofdpohaahaaDoorSpread
namespace Go.Proofs.YtldkofdpohaahaaDoor.Rounds
open Go.RowKit Go.Proofs.YtldkofdpohaahaaDoorW.PrintWords Go.Proofs.YtldkofdpohaahaaDoor.Turn Go.Proofs.YtldkofdpohaahaaDoor.Word Go.Proofs.YtldkofdpohaahaaDoor.New Go.Proofs.YtldkofdpohaahaaDoor.Plain Go.Proofs.YtldkofdpohaahaaDoor.Sched Go.Proofs.YtldkofdpohaahaaDoor.Spread
set_option linter.unusedVariables false
def keysL : List Int := [1116352408, 1899447441, 3049323471, 3921009573, 961987163, 1508970993, 2453635748, 2870763221, 3624381080, 310598401, 607225278, 1426881987, 1925078388, 2162078206, 2614888103, 3248222580, 3835390401, 4022224774, 264347078, 604807628, 770255983, 1249150122, 1555081692, 1996064986, 2554220882, 2821834349, 2952996808, 3210313671, 3336571891, 3584528711, 113926993, 338241895, 666307205, 773529912, 1294757372, 1396182291, 1695183700, 1986661051, 2177026350, 2456956037, 2730485921, 2820302411, 3259730800, 3345764771, 3516065817, 3600352804, 4094571909, 275423344, 430227734, 506948616, 659060556, 883997877, 958139571, 1322822218, 1537002063, 1747873779, 1955562222, 2024104815, 2227730452, 2361852424, 2428436474, 2756734187, 3204031479, 3329325298]
theorem keysL_len : keysL.length = 64 := by decide
def not32 (x : Int) : Int := bits .xor .u32 4294967295 x
def big1 (e : Int) : Int := xor32 (xor32 (rot 6 e) (rot 11 e)) (rot 25 e)
def big0 (a : Int) : Int := xor32 (xor32 (rot 2 a) (rot 13 a)) (rot 22 a)
def tOf (e f g h k x : Int) : Int := add32 (add32 (add32 (add32 h (big1 e)) (xor32 (and32 e f) (and32 (not32 e) g))) k) x
def uOf (a b c : Int) : Int := add32 (big0 a) (xor32 (xor32 (and32 a b) (and32 a c)) (and32 b c))
/-- one round -/
def turnOf (v : List Int) (k x : Int) : List Int :=
  [add32 (tOf (v.getD 4 0) (v.getD 5 0) (v.getD 6 0) (v.getD 7 0) k x) (uOf (v.getD 0 0) (v.getD 1 0) (v.getD 2 0)), v.getD 0 0, v.getD 1 0, v.getD 2 0,
   add32 (v.getD 3 0) (tOf (v.getD 4 0) (v.getD 5 0) (v.getD 6 0) (v.getD 7 0) k x), v.getD 4 0, v.getD 5 0, v.getD 6 0]
def rounds (ws : List Int) (H : List Int) : Nat → List Int
  | 0 => H
  | i + 1 => turnOf (rounds ws H i) (keysL.getD i 0) (ws.getD i 0)
def compress (H b : List Int) : List Int := (List.range 8).map fun i => add32 (H.getD i 0) ((rounds (sched b) H 64).getD i 0)
theorem rounds_len (ws H : List Int) (h : H.length = 8) : ∀ i, (rounds ws H i).length = 8
  | 0 => h
  | i + 1 => rfl
theorem compress_len (H b : List Int) : (compress H b).length = 8 := by unfold compress; rw [List.length_map, List.length_range]
theorem compress_get (H b : List Int) (i : Nat) (h : i < 8) : (compress H b).getD i 0 = add32 (H.getD i 0) ((rounds (sched b) H 64).getD i 0) := by
  unfold compress; rw [List.getD_eq_getElem?_getD, List.getElem?_map, List.getElem?_range h]; rfl
theorem eight (l : List Int) (h : l.length = 8) : ∃ a b c d e f g k, l = [a, b, c, d, e, f, g, k] := by
  match l, h with
  | [a, b, c, d, e, f, g, k], _ => exact ⟨a, b, c, d, e, f, g, k, rfl⟩
/-- the world is as it was, but for block g and what is new -/
structure Ch (g : Nat) (w w' : World) : Prop where
  os : w'.os = w.os
  tape : w'.tape = w.tape
  output : w'.output = w.output
  size : w.heap.size ≤ w'.heap.size
  block : ∀ k, k ≠ g → k < w.heap.size → w'.heap[k]? = w.heap[k]?
theorem Ch.refl (g : Nat) (w : World) : Ch g w w := ⟨rfl, rfl, rfl, Nat.le_refl _, fun _ _ _ => rfl⟩
theorem Ch.trans {g : Nat} {a b c : World} (h : Ch g a b) (k : Ch g b c) : Ch g a c :=
  ⟨k.os.trans h.os, k.tape.trans h.tape, k.output.trans h.output, Nat.le_trans h.size k.size, fun i hi hl => (k.block i hi (Nat.lt_of_lt_of_le hl h.size)).trans (h.block i hi hl)⟩
theorem Ch.of_below {g : Nat} {w w' : World} (h : Below w.heap.size w w') : Ch g w w' := ⟨h.os, h.tape, h.output, h.size, fun k _ hl => h.block k hl⟩
theorem Ch.drew {g : Nat} {w w' : World} (h : Ch g w w') : Ch g w w'.drew := h.trans (Ch.of_below (below_drew1 (Below.refl _ _)))
theorem Ch.setCell {g : Nat} {w w' : World} (h : Ch g w w') {p : Addr} (hp : p.block = g) (v : Value) : Ch g w (w'.setCell p v) := by
  have hb := (Below.refl 0 w').setCell (p := p) (Nat.zero_le _) v
  refine h.trans ⟨hb.os, hb.tape, hb.output, hb.size, fun k hk _ => ?_⟩
  exact heap_setCell_other w' p k v (by rw [hp]; exact hk)
theorem Ch.setRow {g : Nat} {w w' : World} (h : Ch g w w') (cs : Array Value) : Ch g w (w'.setRow g cs) :=
  h.trans ⟨rfl, rfl, rfl, by rw [setRow_size]; exact Nat.le_refl _, fun k hk _ => setRow_other w' g k cs (by omega)⟩
theorem Ch.step {g : Nat} {w wB w1 : World} (h : Ch g w wB) (hb : Below w.heap.size wB w1) : Ch g w w1 :=
  ⟨hb.os.trans h.os, hb.tape.trans h.tape, hb.output.trans h.output, Nat.le_trans h.size hb.size, fun k hk hl => (hb.block k hl).trans (h.block k hk hl)⟩
theorem Ch.below {g n : Nat} {w w' : World} (h : Ch g w w') (hg : n ≤ g) (hn : n ≤ w.heap.size) : Below n w w' :=
  ⟨h.os, h.tape, h.output, h.size, fun k hk => h.block k (by omega) (by omega)⟩
theorem Ch.cell {g : Nat} {w w' : World} (h : Ch g w w') {p : Addr} (hp : p.block ≠ g) (hl : p.block < w.heap.size) : w'.cell? p = w.cell? p := by
  have hb := h.block p.block hp hl
  unfold World.cell?; rw [hb]
theorem state_get (h : Nat → Int) (L : Value) (n : Int) (i : Nat) (hi : i < 8) : (stateCells h L n)[i]? = some (.int .u32 (h i)) := by
  match i, hi with
  | 0, _ | 1, _ | 2, _ | 3, _ | 4, _ | 5, _ | 6, _ | 7, _ => rfl
theorem state_set (h : Nat → Int) (L : Value) (n : Int) (i : Nat) (hi : i < 8) (x : Int) : (stateCells h L n).setIfInBounds i (.int .u32 x) = stateCells (fun k => if k = i then x else h k) L n := by
  match i, hi with
  | 0, _ | 1, _ | 2, _ | 3, _ | 4, _ | 5, _ | 6, _ | 7, _ => rfl
theorem state_ext (h h' : Nat → Int) (L : Value) (n : Int) (he : ∀ i, i < 8 → h i = h' i) : stateCells h L n = stateCells h' L n := by
  unfold stateCells; rw [he 0 (by omega), he 1 (by omega), he 2 (by omega), he 3 (by omega), he 4 (by omega), he 5 (by omega), he 6 (by omega), he 7 (by omega)]
end Go.Proofs.YtldkofdpohaahaaDoor.Rounds
