/- The document's digest (alibiref02.Of): its contract; for fewer than 2^20 bytes. -/
import Derived.Test.YtldkofdpohaahaaDoorRefPlain
namespace Go.Proofs.YtldkofdpohaahaaDoor.RefOf
open Go.RowKit Go.Proofs.YtldkofdpohaahaaDoorW.PrintWords Go.Proofs.YtldkofdpohaahaaDoorW.PrintLast Go.Proofs.YtldkofdpohaahaaDoorW.PrintMore Go.Proofs.YtldkofdpohaahaaDoor.New Go.Proofs.YtldkofdpohaahaaDoor.Plain Go.Proofs.YtldkofdpohaahaaDoor.Rounds Go.Proofs.YtldkofdpohaahaaDoor.Mix Go.Proofs.YtldkofdpohaahaaDoor.Eat Go.Proofs.YtldkofdpohaahaaDoor.Write Go.Proofs.YtldkofdpohaahaaDoor.Pad Go.Proofs.YtldkofdpohaahaaDoor.Of Go.Proofs.YtldkofdpohaahaaDoor.Awake Go.Proofs.YtldkofdpohaahaaDoor.Eq
open Go.Proofs.YtldkofdpohaahaaDoor.Sum hiding start_any
set_option linter.unusedVariables false
set_option linter.unusedSimpArgs false
open Go.Proofs.YtldkofdpohaahaaDoor.Turn Go.Proofs.YtldkofdpohaahaaDoor.Hex Go.Proofs.YtldkofdpohaahaaDoor.Padded Go.Proofs.YtldkofdpohaahaaDoor.RefPlain Go.Proofs.YtldkofdpohaahaaDoor.Sched
def rf20.T20 : Bool × List (List Nat × List Nat) := (true, [([], []), ([], []), ([1], [1]), ([0, 2], [0, 2]), ([3], [3]), ([], []), ([], []), ([6], [6]), ([5, 7], [5, 7]), ([8], [8]), ([4, 0, 1, 2, 3, 4], [4]), ([9, 10, 0, 1, 2, 3, 4, 5, 6, 7, 8, 9, 10], [9])])
def rf20.B20 : List Nat := [0, 0, 2, 7, 15, 0, 0, 64, 224, 480, 31, 2047]
theorem rf20.tab20 : rtab .any (opsOf Tryd.f9 20) = rf20.T20 := by kernel_rfl
theorem rf20.bits20 : waitsOk rf20.T20.2 rf20.B20 = true := by kernel_rfl
def rf23.T23 : Bool × List (List Nat × List Nat) := (true, [([], []), ([], []), ([], []), ([2], [2]), ([1, 3], [1, 3]), ([4], [4]), ([], []), ([5, 6], [5, 6]), ([], []), ([], []), ([9], [9]), ([8, 10], [8, 10]), ([11], [11]), ([7, 12], [7, 12]), ([], []), ([13, 14], [13, 14]), ([15], [15]), ([0, 16], [0, 16]), ([17, 17, 0, 1, 2, 3, 4, 5, 6, 7, 8, 9, 10, 11, 12, 13, 14, 15, 16, 17], [0, 1, 8, 17])])
def rf23.B23 : List Nat := [0, 0, 0, 4, 14, 30, 0, 126, 0, 0, 512, 1792, 3840, 8190, 0, 32766, 65534, 131071, 262143]
theorem rf23.tab23 : rtab .any (opsOf Tryd.f9 23) = rf23.T23 := by kernel_rfl
theorem rf23.bits23 : waitsOk rf23.T23.2 rf23.B23 = true := by kernel_rfl
def rf24.T24 : Bool × List (List Nat × List Nat) := (true, [([], []), ([0], [0]), ([1], [1]), ([], []), ([3], [3]), ([4], [4]), ([], []), ([6], [6]), ([7], [7]), ([], []), ([9], [9]), ([10], [10]), ([], []), ([12], [12]), ([13], [13]), ([], []), ([15], [15]), ([16], [16]), ([], []), ([18], [18]), ([19], [19]), ([], []), ([21], [21]), ([22], [22]), ([2, 0, 1, 2], [2]), ([5, 24, 0, 1, 2, 3, 4, 5, 24], [5]), ([8, 25, 0, 1, 2, 3, 4, 5, 6, 7, 8, 24, 25], [8]), ([11, 26, 0, 1, 2, 3, 4, 5, 6, 7, 8, 9, 10, 11, 24, 25, 26], [11]), ([14, 27, 0, 1, 2, 3, 4, 5, 6, 7, 8, 9, 10, 11, 12, 13, 14, 24, 25, 26, 27], [14]), ([17, 28, 0, 1, 2, 3, 4, 5, 6, 7, 8, 9, 10, 11, 12, 13, 14, 15, 16, 17, 24, 25, 26, 27, 28], [17]), ([20, 29, 0, 1, 2, 3, 4, 5, 6, 7, 8, 9, 10, 11, 12, 13, 14, 15, 16, 17, 18, 19, 20, 24, 25, 26, 27, 28, 29], [20]), ([23, 30, 0, 1, 2, 3, 4, 5, 6, 7, 8, 9, 10, 11, 12, 13, 14, 15, 16, 17, 18, 19, 20, 21, 22, 23, 24, 25, 26, 27, 28, 29, 30], [23])])
def rf24.B24 : List Nat := [0, 1, 3, 0, 8, 24, 0, 64, 192, 0, 512, 1536, 0, 4096, 12288, 0, 32768, 98304, 0, 262144, 786432, 0, 2097152, 6291456, 7, 16777279, 50332159, 117444607, 251691007, 520355839, 1059061759, 2147483647]
theorem rf24.tab24 : rtab .any (opsOf Tryd.f9 24) = rf24.T24 := by kernel_rfl
theorem rf24.bits24 : waitsOk rf24.T24.2 rf24.B24 = true := by kernel_rfl
def rf28.T28 : Bool × List (List Nat × List Nat) := (true, [([], []), ([], []), ([1], [1]), ([], []), ([3, 2], [3]), ([2, 4], [2, 4]), ([], []), ([6, 4], [6]), ([5, 7], [5, 7]), ([0, 8], [0, 8]), ([], []), ([], []), ([10, 11], [10, 11]), ([], []), ([13], [13]), ([], []), ([14, 15], [14, 15]), ([12, 16], [12, 16]), ([9, 17], [9, 17]), ([], []), ([], []), ([19, 20], [19, 20]), ([21], [21]), ([18, 22], [18, 22]), ([], []), ([], []), ([24, 25], [24, 25]), ([26], [26]), ([23, 27], [23, 27]), ([28, 7, 0, 1, 2, 3, 4, 5, 6, 7, 8, 9, 10, 11, 12, 13, 14, 15, 16, 17, 18, 19, 20, 21, 22, 23, 24, 25, 26, 27, 28], [28])])
def rf28.B28 : List Nat := [0, 0, 2, 0, 14, 30, 0, 94, 254, 511, 0, 0, 3072, 0, 8192, 0, 57344, 130048, 262143, 0, 0, 1572864, 3670016, 8388607, 0, 0, 50331648, 117440512, 268435455, 536870911]
theorem rf28.tab28 : rtab .any (opsOf Tryd.f9 28) = rf28.T28 := by kernel_rfl
theorem rf28.bits28 : waitsOk rf28.T28.2 rf28.B28 = true := by kernel_rfl
def rf31.T31 : Bool × List (List Nat × List Nat) := (true, [([], []), ([0], [0]), ([1], [1]), ([], []), ([2, 3], [2, 3]), ([], []), ([5], [5]), ([6], [6]), ([], []), ([7, 8], [7, 8]), ([], []), ([10], [10]), ([11], [11]), ([], []), ([12, 13], [12, 13]), ([], []), ([15], [15]), ([16], [16]), ([], []), ([17, 18], [17, 18]), ([], []), ([20], [20]), ([21], [21]), ([], []), ([22, 23], [22, 23]), ([], []), ([25], [25]), ([26], [26]), ([], []), ([27, 28], [27, 28]), ([], []), ([30], [30]), ([31], [31]), ([], []), ([32, 33], [32, 33]), ([], []), ([35], [35]), ([36], [36]), ([], []), ([37, 38], [37, 38]), ([4, 9, 14, 19, 24, 29, 34, 39], [4, 9, 14, 19, 24, 29, 34, 39]), ([40, 0, 1, 2, 3, 4, 5, 6, 7, 8, 9, 10, 11, 12, 13, 14, 15, 16, 17, 18, 19, 20, 21, 22, 23, 24, 25, 26, 27, 28, 29, 30, 31, 32, 33, 34, 35, 36, 37, 38, 39, 40], [0, 5, 10, 15, 20, 25, 30, 35, 40])])
def rf31.B31 : List Nat := [0, 1, 3, 0, 15, 0, 32, 96, 0, 480, 0, 1024, 3072, 0, 15360, 0, 32768, 98304, 0, 491520, 0, 1048576, 3145728, 0, 15728640, 0, 33554432, 100663296, 0, 503316480, 0, 1073741824, 3221225472, 0, 16106127360, 0, 34359738368, 103079215104, 0, 515396075520, 1099511627775, 2199023255551]
theorem rf31.tab31 : rtab .any (opsOf Tryd.f9 31) = rf31.T31 := by kernel_rfl
theorem rf31.bits31 : waitsOk rf31.T31.2 rf31.B31 = true := by kernel_rfl
theorem start_any {P : Program} {ops : Array Oper} {Q : Exit → Act → World → Prop} {S : World → Prop} {ds : List Nat} {id n : Nat} {a : Act} {w : World} (l : Array Bool) (hm : P.follows .mixedOrders = true) (hn : ops.size = n) (hl : Array.replicate n false = l) (hS : S w.drew)
    (h : ∀ wd, S wd → wpAnyLast P .any ops Q S ds n l a wd) : (Code.region id ops true).wp P Q a w := start_ l hm hn hl hS (fun _ => h _ hS)
theorem hex_is (s : ByteArray) (l : List Int) (n : Nat) (w : World) (hs : decide (s.size < 1073741824) = true) (hp : hexP s = l) (hn : l.length = n) :
    Calls Tryd.prog 14 #[.string s] w fun e w' => ∃ A c, e = .returned (.slice A n c) ∧ ReadsInt w' .u32 A n l ∧ Below w.heap.size w w' := by
  subst hp
  subst hn
  exact hex_any s w (of_decide_eq_true hs)
theorem pad_div (xs : List Int) : (pad xs).length = 64 * ((pad xs).length / 64) := by
  have h1 := pad_len xs
  unfold zeros at h1
  omega
theorem pad_b (xs : List Int) (h : Bytes8 xs) : Bytes8 (pad xs) := by
  unfold pad padK
  refine Bytes8.app (Bytes8.app (h.app b_128) (fun x hx => ?_)) (tail8_b _)
  have := List.eq_of_mem_replicate hx; omega
/-- a word under way: j of its bytes are in -/
def pwd (b : List Int) (s : Nat) : Nat → Int
  | 0 => 0
  | j + 1 => (pwd b s j * 256 % 4294967296 + b.getD (s + j) 0) % 4294967296
theorem pwd_four (b : List Int) (i : Nat) (hi : i < 16) (hb : b.length = 64) (hB : Bytes8 b) : pwd b (4 * i) 4 = (first16 b).getD i 0 := by
  have g : ∀ k, k < 64 → 0 ≤ b.getD k 0 ∧ b.getD k 0 < 256 := fun k hk => by
    rw [List.getD_eq_getElem?_getD, List.getElem?_eq_getElem (by omega)]; exact hB _ (List.getElem_mem _)
  have g0 := g (4 * i) (by omega)
  have g1 := g (4 * i + 1) (by omega)
  have g2 := g (4 * i + 2) (by omega)
  have g3 := g (4 * i + 3) (by omega)
  rw [first16_get b i hi, word4_sum _ _ _ _ g0 g1 g2 g3]
  show ((((0 * 256 % 4294967296 + b.getD (4 * i) 0) % 4294967296 * 256 % 4294967296 + b.getD (4 * i + 1) 0) % 4294967296 * 256 % 4294967296 + b.getD (4 * i + 2) 0) % 4294967296 * 256 % 4294967296 + b.getD (4 * i + 3) 0) % 4294967296 = _
  omega
theorem box_of {n : Nat} {w W : World} (h : Below n w W) (y : Int) : (W.alloc (.cells #[.int .u32 y] 41)).heap[W.heap.size]? = some (.cells #[.int .u32 y] 41) := heap_alloc_new W _
theorem run_num {wo W : World} {v : Value} {l : List Int} {i p : Nat} {y : Int} (HO : W.ownsRow wo.heap.size 41 1 v i (nums .u32 l)) (hp : W.heap[p]? = some (.cells #[.int .u32 y] 41)) (hl : l.length = i) (hb : Below wo.heap.size wo W) (hi : i < 64) (x : Int) (hx : x = y) :
    ∃ A c w1, (Builtin.append_ #[38, 38] 38 #[v, .slice (some ⟨p, 0, none⟩) 1 1]).run Tryd.prog W = .ok (.slice A (i + 1) c) w1 ∧ w1.ownsRow wo.heap.size 41 1 (.slice A (i + 1) c) (i + 1) (nums .u32 (l ++ [x])) ∧ Below wo.heap.size wo w1 := by
  subst hx
  obtain ⟨i0, hi0, hzz⟩ := Option.map_eq_some_iff.1 info41
  simp only [Prod.mk.injEq] at hzz
  obtain ⟨hz0, hz1, hz2⟩ := hzz
  obtain ⟨v1, w1, hr, h2, h3, _, h5⟩ := run_append_own_at (P := Tryd.prog) W wo.heap.size 38 38 41 i0 (.int .u32 0) 1 4 Tryd.underlying38 hi0 hz0 hz1 hz2 rfl (by omega) v i (nums .u32 l) HO ⟨p, 0, none⟩ 1 1 [.int .u32 x] rfl
    (World.news_of_block (cs := #[.int .u32 x]) (t := 41) (fr := (0, 0)) hp) (by intro u hu; rw [List.mem_singleton.1 hu]; rfl) (by simp only [maxLen]; omega) (by omega) hb.size
  have h6 : w1.ownsRow wo.heap.size 41 1 v1 (i + 1) (nums .u32 (l ++ [x])) := by rw [nums_append]; exact h2
  obtain ⟨A, c, rfl, _⟩ := own_reads h6
  exact ⟨A, c, w1, hr, h6, pw_below_grown hb _ hb.size h3 (own_base HO)⟩
theorem g_s0 (x : Int) : bits BinOp.xor IntKind.u32 (bits BinOp.xor IntKind.u32 (rot 7 x) (rot 18 x)) (x / 8) = Plain.s0 x := by unfold Plain.s0 xor32; rfl
theorem g_s1 (x : Int) : bits BinOp.xor IntKind.u32 (bits BinOp.xor IntKind.u32 (rot 17 x) (rot 19 x)) (x / 1024) = Plain.s1 x := by unfold Plain.s1 xor32; rfl
theorem g_nx (a b c d : Int) : IntKind.u32.wrap (IntKind.u32.wrap (IntKind.u32.wrap (a + b) + c) + d) = add32 (add32 (add32 a b) c) d := by simp only [Mix.wrap_add]
theorem rc_cells {wo wr : World} {W : Option Addr} {cw i : Nat} {sc : List Int} (HO : wr.ownsRow wo.heap.size 41 1 (.slice W i cw) i (nums .u32 (sc.take i))) (hl : sc.length = 64) (hi : i ≤ 64) {aw : Addr} (hW : W = some aw) : ∀ k, k < i → ∀ w', Below wr.heap.size wr w' → w'.cell? (aw.add k) = some (.int .u32 (sc.getD k 0)) := fun k hk w' hw' => by
  obtain ⟨A', c', e, hr⟩ := own_reads HO
  cases e
  obtain ⟨aw', e2, hc⟩ := (hr.below hw').2.2 (by omega)
  rw [hW] at e2
  cases e2
  rw [hc k (by omega), getD_take _ _ _ hk]
theorem rc_some {wo wr : World} {W : Option Addr} {cw i : Nat} {l : List Int} (HO : wr.ownsRow wo.heap.size 41 1 (.slice W i cw) i (nums .u32 l)) (hi : 0 < i) : ∃ aw, W = some aw := by
  obtain ⟨g, cap, e, _⟩ := HO.form hi
  injection e with e1
  exact ⟨_, e1⟩
theorem rc_facts {b sc : List Int} {i : Nat} (hsc : sc = sched b) (hl : sc.length = 64) (h16 : 16 ≤ i) (hi : i < 64) : ∃ (m15 m2 m16 m7 : Nat) (x15 x2 x16 x7 S0 S1 nx : Int),
    ((m15 + 15 = i ∧ m15 < i) ∧ (m2 + 2 = i ∧ m2 < i) ∧ (m16 + 16 = i ∧ m16 < i) ∧ (m7 + 7 = i ∧ m7 < i)) ∧
    (x15 = sc.getD m15 0 ∧ x2 = sc.getD m2 0 ∧ x16 = sc.getD m16 0 ∧ x7 = sc.getD m7 0) ∧
    (wrap64 ((i : Int) - 15) = (m15 : Int) ∧ wrap64 ((i : Int) - 2) = (m2 : Int) ∧ wrap64 ((i : Int) - 16) = (m16 : Int) ∧ wrap64 ((i : Int) - 7) = (m7 : Int) ∧
      ((0 : Int) ≤ (m15 : Int)) = True ∧ ((0 : Int) ≤ (m2 : Int)) = True ∧ ((0 : Int) ≤ (m16 : Int)) = True ∧ ((0 : Int) ≤ (m7 : Int)) = True ∧
      ((m15 : Int) < (i : Int)) = True ∧ ((m2 : Int) < (i : Int)) = True ∧ ((m16 : Int) < (i : Int)) = True ∧ ((m7 : Int) < (i : Int)) = True) ∧
    bits BinOp.xor IntKind.u32 (bits BinOp.xor IntKind.u32 (rot 7 x15) (rot 18 x15)) (x15 / 8) = S0 ∧
    bits BinOp.xor IntKind.u32 (bits BinOp.xor IntKind.u32 (rot 17 x2) (rot 19 x2)) (x2 / 1024) = S1 ∧
    IntKind.u32.wrap (IntKind.u32.wrap (IntKind.u32.wrap (x16 + S0) + x7) + S1) = nx ∧
    ((sc.take i ++ [nx] = sc.take (i + 1) ∧ (sc.take i).length = i) ∧ wrap64 ((i : Int) + 1) = ((i + 1 : Nat) : Int)) := by
  refine ⟨i - 15, i - 2, i - 16, i - 7, _, _, _, _, _, _, _, ⟨⟨by omega, by omega⟩, ⟨by omega, by omega⟩, ⟨by omega, by omega⟩, ⟨by omega, by omega⟩⟩, ⟨rfl, rfl, rfl, rfl⟩, ⟨by unfold wrap64; omega, by unfold wrap64; omega, by unfold wrap64; omega, by unfold wrap64; omega, eq_true (by omega), eq_true (by omega), eq_true (by omega), eq_true (by omega), eq_true (by omega), eq_true (by omega), eq_true (by omega), eq_true (by omega)⟩, g_s0 _, g_s1 _, g_nx _ _ _ _, ⟨?_, ?_⟩, by unfold wrap64; omega⟩
  · rw [take_get _ _ (by rw [hl]; exact hi), hsc, sched_next b i h16 hi]
  · rw [List.length_take, hl]; exact Nat.min_eq_left (Nat.le_of_lt hi)
theorem rc_reads {wo wr : World} {W : Option Addr} {cw : Nat} {sc : List Int} (HO : wr.ownsRow wo.heap.size 41 1 (.slice W 64 cw) 64 (nums .u32 (sc.take 64))) (hl : sc.length = 64) : ReadsInt wr .u32 W 64 sc := by
  obtain ⟨A', c', e, hr⟩ := own_reads HO
  cases e
  rwa [List.take_of_length_le (Nat.le_of_eq hl)] at hr
theorem add_nul (a : Addr) : a.add 0 = a := by unfold Addr.add; rw [if_pos rfl]
theorem rd_facts {sc H : List Int} {i : Nat} {a0 a1 a2 a3 a4 a5 a6 a7 : Int} (h : rounds sc H i = [a0, a1, a2, a3, a4, a5, a6, a7]) (hi : i < 64) : ∃ kk xx T1 U1 X1 Y1 : Int,
    IntKind.u32.wrap (IntKind.u32.wrap (IntKind.u32.wrap (IntKind.u32.wrap (a7 + bits BinOp.xor IntKind.u32 (bits BinOp.xor IntKind.u32 (rot 6 a4) (rot 11 a4)) (rot 25 a4)) + bits BinOp.xor IntKind.u32 (bits BinOp.and IntKind.u32 a4 a5) (bits BinOp.and IntKind.u32 (bits BinOp.xor IntKind.u32 IntKind.u32.max a4) a6)) + kk) + xx) = T1 ∧
    IntKind.u32.wrap (bits BinOp.xor IntKind.u32 (bits BinOp.xor IntKind.u32 (rot 2 a0) (rot 13 a0)) (rot 22 a0) + bits BinOp.xor IntKind.u32 (bits BinOp.xor IntKind.u32 (bits BinOp.and IntKind.u32 a0 a1) (bits BinOp.and IntKind.u32 a0 a2)) (bits BinOp.and IntKind.u32 a1 a2)) = U1 ∧
    IntKind.u32.wrap (a3 + T1) = X1 ∧ IntKind.u32.wrap (T1 + U1) = Y1 ∧ kk = keysL.getD i 0 ∧ xx = sc.getD i 0 ∧
    rounds sc H (i + 1) = [Y1, a0, a1, a2, X1, a4, a5, a6] ∧ wrap64 ((i : Int) + 1) = ((i + 1 : Nat) : Int) := by
  refine ⟨_, _, _, _, _, _, mix_t _ _ _ _ _ _, mix_u _ _ _, Mix.wrap_add _ _, Mix.wrap_add _ _, rfl, rfl, ?_, by unfold wrap64; omega⟩
  show turnOf (rounds sc H i) (keysL.getD i 0) (sc.getD i 0) = _
  rw [h]; rfl
theorem cmp_eq {al b sc : List Int} {t : Nat} {h0 h1 h2 h3 h4 h5 h6 h7 a0 a1 a2 a3 a4 a5 a6 a7 : Int} (hH : [h0, h1, h2, h3, h4, h5, h6, h7] = (eat t Eat.h0L al).1) (hb : b = (al.drop (64 * t)).take 64) (hsc : sc = sched b) (hr : rounds sc [h0, h1, h2, h3, h4, h5, h6, h7] 64 = [a0, a1, a2, a3, a4, a5, a6, a7]) :
    [add32 h0 a0, add32 h1 a1, add32 h2 a2, add32 h3 a3, add32 h4 a4, add32 h5 a5, add32 h6 a6, add32 h7 a7] = (eat (t + 1) Eat.h0L al).1 := by
  rw [eat_next, ← hH, ← hb]
  unfold compress
  rw [← hsc, hr]; rfl
theorem nest_x (y a b c d e : Int) : IntKind.u32.wrap (y + IntKind.u32.wrap (IntKind.u32.wrap (IntKind.u32.wrap (IntKind.u32.wrap (a + b) + c) + d) + e)) = (y + (a + b + c + d + e)) % 4294967296 := by
  simp only [IntKind.wrap_u32]; omega
theorem nest_y (u a b c d e : Int) : IntKind.u32.wrap (IntKind.u32.wrap (IntKind.u32.wrap (IntKind.u32.wrap (IntKind.u32.wrap (a + b) + c) + d) + e) + u) = (a + b + c + d + e + u) % 4294967296 := by
  simp only [IntKind.wrap_u32]; omega
theorem at_next (t : Nat) (h : t < 33554432) : wrap64 (64 * (t : Int) + 64) = 64 * ((t + 1 : Nat) : Int) := by unfold wrap64; omega
theorem box8_of {n : Nat} {w W : World} (h : Below n w W) (z0 z1 z2 z3 z4 z5 z6 z7 : Int) : (W.alloc (.cells #[.int .u32 z0, .int .u32 z1, .int .u32 z2, .int .u32 z3, .int .u32 z4, .int .u32 z5, .int .u32 z6, .int .u32 z7] 41)).heap[W.heap.size]? = some (.cells #[.int .u32 z0, .int .u32 z1, .int .u32 z2, .int .u32 z3, .int .u32 z4, .int .u32 z5, .int .u32 z6, .int .u32 z7] 41) := heap_alloc_new W _
theorem reads_box {W : World} {p : Nat} {z0 z1 z2 z3 z4 z5 z6 z7 : Int} (h : W.heap[p]? = some (.cells #[.int .u32 z0, .int .u32 z1, .int .u32 z2, .int .u32 z3, .int .u32 z4, .int .u32 z5, .int .u32 z6, .int .u32 z7] 41)) : ReadsInt W .u32 (some ⟨p, 0, none⟩) 8 [z0, z1, z2, z3, z4, z5, z6, z7] :=
  ⟨rfl, by decide, fun _ => ⟨_, rfl, fun j hj => by
    rw [add_plain, cell_of_row W p j _ 41 (0, 0) h]
    match j, hj with
    | 0, _ | 1, _ | 2, _ | 3, _ | 4, _ | 5, _ | 6, _ | 7, _ => rfl⟩⟩
theorem dig_eq {xs al H : List Int} {T t : Nat} (hal : al = pad xs) (hT : al.length = 64 * T) (ht : t = T) (hH : H = (eat t Eat.h0L al).1) : digest xs = outs H := by
  unfold digest eatAll
  rw [← hal, hT, Nat.mul_div_cancel_left _ (by decide), hH, ht]
theorem res_at {w w4 wo : World} {C : Array Value} (h : Below (w.alloc (.cells (rowB (List.replicate 32 0)) 24)).heap.size (w.alloc (.cells (rowB (List.replicate 32 0)) 24)) w4) (ho : Below w4.heap.size w4 wo) (hr : (w.alloc (.cells (rowB (List.replicate 32 0)) 24)).heap[w.heap.size]? = some (.cells C 24)) : wo.heap[w.heap.size]? = some (.cells C 24) ∧ w.heap.size < wo.heap.size := by
  have hs : (w.alloc (.cells (rowB (List.replicate 32 0)) 24)).heap.size = w.heap.size + 1 := by simp
  have h1 := h.size
  have h2 := ho.size
  exact ⟨(ho.block _ (by omega)).trans ((h.block _ (by omega)).trans hr), by omega⟩
theorem eat_range : ∀ (t : Nat) (l : List Int), ∀ i, i < 8 → 0 ≤ ((eat t Eat.h0L l).1).getD i 0 ∧ ((eat t Eat.h0L l).1).getD i 0 < 4294967296
  | 0, l, i, hi => by
    show 0 ≤ (Eat.h0L).getD i 0 ∧ (Eat.h0L).getD i 0 < 4294967296
    match i, hi with
    | 0, _ | 1, _ | 2, _ | 3, _ | 4, _ | 5, _ | 6, _ | 7, _ => decide
  | t + 1, l, i, hi => by
    rw [eat_next, compress_get _ _ _ hi]
    unfold add32; omega
theorem w4_get (x : Int) (m : Nat) (hm : m < 4) : (word4s x).getD (3 - m) 0 = x / 256 ^ m % 256 := by
  match m, hm with
  | 0, _ => simp [word4s]
  | 1, _ => simp [word4s]
  | 2, _ => simp [word4s]
  | 3, _ => simp [word4s]
theorem out_facts {H : List Int} {i m : Nat} {x : Int} (hi : i < 8) (hm : m < 4) (hx0 : 0 ≤ x) (hx1 : x < 4294967296) (hx : x = H.getD i 0) (ho : (outs H).getD (4 * i + (3 - m)) 0 = (word4s (H.getD i 0)).getD (3 - m) 0) : ∃ (jn ix : Nat) (y r y2 : Int),
    (3 - (m : Int)) = (jn : Int) ∧ decide ((jn : Int) ≥ 0) = true ∧ wrap64 (4 * (i : Int)) = 4 * (i : Int) ∧ wrap64 (4 * (i : Int) + (jn : Int)) = (ix : Int) ∧ (ix = 4 * i + (3 - m) ∧ ix < 32) ∧
    y.tmod 256 = r ∧ IntKind.u8.wrap r = r ∧ y.tdiv 256 = y2 ∧ IntKind.u32.wrap y2 = y2 ∧ r = (outs H).getD (4 * i + (3 - m)) 0 ∧ (x / 256 ^ m = y ∧ y2 = x / 256 ^ (m + 1)) ∧ wrap64 ((jn : Int) - 1) = 3 - ((m + 1 : Nat) : Int) := by
  have hy0 : 0 ≤ x / 256 ^ m := Int.ediv_nonneg hx0 (Int.pow_nonneg (by decide))
  have hy1 : x / 256 ^ m ≤ x := Int.ediv_le_self _ hx0
  refine ⟨3 - m, 4 * i + (3 - m), x / 256 ^ m, x / 256 ^ m % 256, x / 256 ^ m / 256, by omega, decide_eq_true (by omega), by unfold wrap64; omega, by unfold wrap64; omega, ⟨rfl, by omega⟩, Int.tmod_eq_emod_of_nonneg hy0, ?_, Int.tdiv_eq_ediv_of_nonneg hy0, ?_, by rw [ho, ← hx, w4_get x m hm], ⟨rfl, Padded.div_pow x m hx0⟩, by unfold wrap64; omega⟩
  · show x / 256 ^ m % 256 % 256 = _; omega
  · show x / 256 ^ m / 256 % 4294967296 = _; omega
set_option maxHeartbeats 8000000 in
set_option maxRecDepth 100000 in
theorem ref_any (B : Option Addr) (c : Nat) (xs : List Int) (w : World) (hr : ReadsInt w .u8 B xs.length xs) (hl : xs.length < 1073741824) (hx : Bytes8 xs) :
    Calls Tryd.prog 9 #[.slice B xs.length c] w fun e w' => e = .returned (.agg (rowB (digest xs))) ∧ Below w.heap.size w w' := by
  have HR := Aside0.mk hr
  have HL := Aside0.mk hl
  have HX := Aside0.mk hx
  have HB1 := Aside0.mk (below_alloc (Below.refl w.heap.size w) (.cells (rowB (List.replicate 32 0)) 24))
  have HRES : Aside0 ((w.alloc (.cells (rowB (List.replicate 32 0)) 24)).heap[w.heap.size]? = some (.cells (rowB (List.replicate 32 0)) 24)) := ⟨heap_alloc_new _ _⟩
  have HTOK := Aside0.mk True.intro
  obtain ⟨al, hal⟩ : ∃ x, x = pad xs := ⟨_, rfl⟩
  have HAL := Aside0.mk hal
  obtain ⟨T, hT⟩ : ∃ T, al.length = 64 * T := ⟨al.length / 64, by rw [hal]; exact (pad_div xs)⟩
  have HT := Aside0.mk hT
  have HTL : Aside0 (T < 33554432) := ⟨by have h1 := pad_len xs; have h2 := zeros_le xs.length; rw [← hal, hT] at h1; omega⟩
  have HBY : Aside0 (Bytes8 al) := ⟨by rw [hal]; exact pad_b xs hx⟩
  clear hr hl hx hal hT
  go_enter Tryd.func9, Tryd.ntmps9
  go_wp2_with (first | (go_at_call 14; clear HTOK; refine (hex_is litK keysL 64 _ (by kernel_rfl) hexK rfl).mono ?_; rintro e w2 ⟨K, ck, rfl, hr, hb⟩; have RK := Aside0.mk hr; have HB2 := Aside0.mk (below_step HB1.out hb); have HS2 := Aside0.mk hb; clear hr hb) | (go_at_call 14; refine (hex_is litL h0L 8 _ (by kernel_rfl) hexL rfl).mono ?_; rintro e w3 ⟨L, cl, rfl, hr, hb⟩; have RL := Aside0.mk hr; have RK3 := Aside0.mk (RK.out.below hb); have HB3 := Aside0.mk (below_step HB2.out hb); have HS3 := Aside0.mk (HS2.out.trans (hb.mono HS2.out.size)); clear hr hb RK) | (go_at_call 15; (with_reducible refine (padded_any B c xs _ (HR.out.below HB3.out) HL.out).mono ?_); rintro e w4 ⟨P, cp, rfl, hr, hb⟩; rw [← HAL.out] at hr ⊢; have RP := Aside0.mk hr; have RK4 := Aside0.mk (RK3.out.below hb); have RL4 := Aside0.mk (RL.out.below hb); have HB4 := Aside0.mk (below_step HB3.out hb); have HS4 := Aside0.mk (HS3.out.trans (hb.mono HS3.out.size)); clear hr hb RK3 RL))
  go_loopg [4, 6] (T + 1) (fun kq v4 v6 w' => ∃ (t : Nat) (L' : Option Addr) (cl' : Nat), v4 = .slice L' 8 cl' ∧ v6 = .int .i64 (64 * (t : Int)) ∧ Aside0 (t ≤ T ∧ T - t < kq) ∧ Aside0 (ReadsInt w' .u32 L' 8 (eat t h0L al).1) ∧ Aside0 (Below w4.heap.size w4 w'))
  case atStart => exact ⟨0, L, cl, rfl, rfl, ⟨Nat.zero_le _, by omega⟩, RL4, ⟨Below.refl _ _⟩⟩
  case round =>
    obtain ⟨wo, rfl⟩ : ∃ x, x = wr := ⟨_, rfl⟩
    obtain ⟨t, L', cl', rfl, rfl, HI, RLo, HBo⟩ := hrel
    have RKo := Aside0.mk (RK4.out.below HBo.out)
    have RPo := Aside0.mk (RP.out.below HBo.out)
    obtain ⟨H, hH⟩ : ∃ x, x = (eat t h0L al).1 := ⟨_, rfl⟩
    have HHE := Aside0.mk hH
    have HHL : Aside0 (H.length = 8) := ⟨by rw [hH]; exact eat_h _ _ _ rfl⟩
    rw [← hH] at RLo
    clear hH
    cases gk with
    | zero => exact absurd HI.out.2 (by omega)
    | succ k2 =>
      by_cases ht : t < T
      · have s1 : decide (64 * (t : Int) < (al.length : Int)) = true := decide_eq_true (by have := HT.out; omega)
        have HTT := Aside0.mk ht
        obtain ⟨b, hb⟩ : ∃ x, x = (al.drop (64 * t)).take 64 := ⟨_, rfl⟩
        have HBD0 := Aside0.mk hb
        have HBL : Aside0 (b.length = 64) := ⟨by rw [hb, List.length_take, List.length_drop]; have := HT.out; omega⟩
        have HB8 : Aside0 (Bytes8 b) := ⟨fun x hx => HBY.out x (by rw [hb] at hx; exact List.mem_of_mem_drop (List.mem_of_mem_take hx))⟩
        have hbg : ∀ k, k < 64 → b.getD k 0 = al.getD (64 * t + k) 0 := fun k hk => by
          rw [hb, getD_take _ _ _ hk, List.getD_eq_getElem?_getD, List.getElem?_drop, ← List.getD_eq_getElem?_getD]
        have HBG := Aside0.mk hbg
        clear ht hb hbg
        obtain ⟨ap, rfl, hpc⟩ := RPo.out.2.2 (by have := HT.out; have := HTT.out; omega)
        have HPC := Aside0.mk hpc
        clear hpc
        go_wp2
        go_loopg [7, 8] 17 (fun kq v7 v8 w' => ∃ (i : Nat) (W : Option Addr) (cw : Nat), v7 = .slice W i cw ∧ v8 = .int .i64 i ∧ Aside0 (i ≤ 16 ∧ 16 - i < kq) ∧ Aside0 (w'.ownsRow wo.heap.size 41 1 (.slice W i cw) i (nums .u32 ((first16 b).take i))) ∧ Aside0 (Below wo.heap.size wo w'))
        case atStart => exact ⟨0, none, 0, rfl, rfl, ⟨by omega, by omega⟩, ⟨own_nil _ _ _ _⟩, ⟨Below.refl _ _⟩⟩
        case round =>
          obtain ⟨wA, rfl⟩ : ∃ x, x = wr := ⟨_, rfl⟩
          obtain ⟨i, W, cw, rfl, rfl, HJ, HO, HBB⟩ := hrel
          cases gk with
          | zero => exact absurd HJ.out.2 (by omega)
          | succ k3 =>
            by_cases hi : i < 16
            · have r1 : decide (i < 16) = true := decide_eq_true hi
              have r2 : decide ((i : Int) < 16) = true := decide_eq_true (by omega)
              have HI0 := Aside0.mk hi
              clear hi
              go_wp2
              go_loopg [9, 10] 5 (fun kq v9 v10 w' => ∃ j : Nat, v9 = .int .u32 (pwd b (4 * i) j) ∧ v10 = .int .i64 j ∧ Aside0 (j ≤ 4 ∧ 4 - j < kq) ∧ Aside0 (w' = wA))
              case atStart => exact ⟨0, rfl, rfl, ⟨by omega, by omega⟩, ⟨rfl⟩⟩
              case round =>
                obtain ⟨j, rfl, rfl, HK, HWW⟩ := hrel
                obtain rfl := HWW.out
                clear HWW
                obtain ⟨q, hq⟩ : ∃ x, x = pwd b (4 * i) j := ⟨_, rfl⟩
                rw [← hq]
                have HQ := Aside0.mk hq
                clear hq
                cases gk with
                | zero => exact absurd HK.out.2 (by omega)
                | succ k4 =>
                  by_cases hj : j < 4
                  · have r3 : decide (j < 4) = true := decide_eq_true hj
                    have r4 : decide ((j : Int) < 4) = true := decide_eq_true (by omega)
                    obtain ⟨ix, hix⟩ : ∃ ix : Nat, ix = 64 * t + 4 * i + j := ⟨_, rfl⟩
                    have e1 : wrap64 (4 * (i : Int)) = 4 * (i : Int) := by have := HI0.out; unfold wrap64; omega
                    have e2 : wrap64 (64 * (t : Int) + 4 * (i : Int)) = 64 * (t : Int) + 4 * (i : Int) := by have := HI0.out; have := HTT.out; have := HTL.out; unfold wrap64; omega
                    have e3 : wrap64 (64 * (t : Int) + 4 * (i : Int) + (j : Int)) = (ix : Int) := by have := HI0.out; have := HTT.out; have := HTL.out; unfold wrap64; omega
                    have hlt : ix < al.length := by have := HT.out; have := HTT.out; have := HI0.out; omega
                    obtain ⟨x, hx⟩ : ∃ x, x = b.getD (4 * i + j) 0 := ⟨_, rfl⟩
                    have q1 : wr.cell? (ap.add ix) = some (.int .u8 x) := by
                      have := HPC.out ix hlt
                      rw [hx, HBG.out _ (by have := HI0.out; omega), show 64 * t + (4 * i + j) = ix by omega]
                      exact (HBB.out.cell (World.block_lt_of_cell? wo _ this)).trans this
                    have u1 := eq_true (show (0 : Int) ≤ (ix : Int) by omega)
                    have u2 := eq_true (show (ix : Int) < (al.length : Int) by omega)
                    have u3 := eq_true hlt
                    have hw : wrap64 ((j : Int) + 1) = ((j + 1 : Nat) : Int) := by unfold wrap64; omega
                    have HW := Aside0.mk hw
                    have HXX := Aside0.mk hx
                    have HJ0 := Aside0.mk hj
                    clear hix hlt hx hw hj
                    go_wp2
                    go_roundg k4
                    case measure => have := HK.out; have := HJ0.out; omega
                    case rel => exact ⟨j + 1, (by congr 1; show _ = (pwd b (4 * i) j * 256 % 4294967296 + b.getD (4 * i + j) 0) % 4294967296; rw [← HQ.out, ← HXX.out]; omega), (by first | rw [HW.out] | (push_cast; rfl)), ⟨by have := HJ0.out; omega, by have := HK.out; have := HJ0.out; omega⟩, ⟨rfl⟩⟩
                  · have ej : j = 4 := by have := HK.out; omega
                    subst ej
                    clear hj
                    have hqe : q = (first16 b).getD i 0 := by rw [HQ.out, pwd_four b i HI0.out HBL.out HB8.out]
                    obtain ⟨ws, hws⟩ : ∃ x, x = (first16 b).take i := ⟨_, rfl⟩
                    rw [← hws] at HO
                    have HWS : Aside0 (ws.length = i ∧ ws ++ [q] = (first16 b).take (i + 1)) := ⟨by rw [hws, List.length_take, first16_length]; have := HI0.out; omega, by rw [take_get _ _ (by rw [first16_length]; exact HI0.out), hws, hqe]⟩
                    have hw : wrap64 ((i : Int) + 1) = ((i + 1 : Nat) : Int) := by have := HI0.out; unfold wrap64; omega
                    have HW := Aside0.mk hw
                    clear hqe hws hw
                    go_wp2_with (first | ((with_reducible refine gate_builtin (b := .append) (xs := #[.tmp 62, .tmp 64]) rfl ?_); at_builtin; refine print_append_num (w0 := wr) wo.heap.size rfl (.tmp 62) (.tmp 64) 38 41 .u32 4 rfl Tryd.underlying38 info41 (by decide) (.slice W i cw) ws q rfl rfl (by rw [HWS.out.1]; exact HO.out) (Below.refl _ _) HBB.out.size (by have := HWS.out.1; have := HI0.out; omega) ?_; intro v1 w9 ho hb hg hat; rw [HWS.out.2, List.length_take, first16_length, Nat.min_eq_left (by have := HI0.out; omega)] at ho; obtain ⟨A1, c1, rfl, hr1⟩ := own_reads ho; have HO1 := Aside0.mk ho; have HBB1 := Aside0.mk (HBB.out.trans hb); clear ho hb hg hat hr1))
                    go_roundg k3
                    case measure => have := HJ.out; have := HI0.out; omega
                    case rel => exact ⟨i + 1, A1, c1, rfl, (by first | rw [HW.out] | (push_cast; rfl)), ⟨by have := HI0.out; omega, by have := HJ.out; have := HI0.out; omega⟩, HO1, HBB1⟩
            · have ei : i = 16 := by have := HJ.out; omega
              subst ei
              clear hi
              have HO16 : Aside0 (wA.ownsRow wo.heap.size 41 1 (.slice W 16 cw) 16 (nums .u32 ((sched b).take 16))) := ⟨by rw [sched_16]; have := HO.out; rwa [List.take_of_length_le (Nat.le_of_eq (first16_length b))] at this⟩
              obtain ⟨sc, hsc⟩ : ∃ x, x = sched b := ⟨_, rfl⟩
              have HSC := Aside0.mk hsc
              have HSL : Aside0 (sc.length = 64) := ⟨by rw [hsc]; exact sched_length b⟩
              rw [← hsc] at HO16
              clear hsc HO
              go_wp2
              go_loopg [7, 11] 49 (fun kq v7 v11 w' => ∃ (i : Nat) (W : Option Addr) (cw : Nat), v7 = .slice W i cw ∧ v11 = .int .i64 i ∧ Aside0 (16 ≤ i ∧ i ≤ 64 ∧ 64 - i < kq) ∧ Aside0 (w'.ownsRow wo.heap.size 41 1 (.slice W i cw) i (nums .u32 (sc.take i))) ∧ Aside0 (Below wo.heap.size wo w'))
              case atStart => exact ⟨16, W, cw, rfl, rfl, ⟨by omega, by omega, by omega⟩, HO16, HBB⟩
              case round =>
                clear HO16 HBB HJ
                obtain ⟨i, W, cw, rfl, rfl, HJ, HO, HBB⟩ := hrel
                cases gk with
                | zero => exact absurd HJ.out.2.2 (by omega)
                | succ k3 =>
                  by_cases hi : i < 64
                  · have r1 : decide (i < 64) = true := decide_eq_true hi
                    have r2 : decide ((i : Int) < 64) = true := decide_eq_true (by omega)
                    obtain ⟨aw, rfl⟩ := rc_some HO.out (Nat.lt_of_lt_of_le (by decide) HJ.out.1)
                    have hcells := rc_cells HO.out HSL.out (Nat.le_of_lt hi) rfl
                    obtain ⟨m15, m2, m16, m7, x15, x2, x16, x7, S0, S1, nx, hm, hx, he, g0, g1, g2, hlast⟩ := rc_facts HSC.out HSL.out HJ.out.1 hi
                    have HC15 : Aside0 (∀ w', Below wr.heap.size wr w' → w'.cell? (aw.add m15) = some (.int .u32 x15)) := ⟨fun w' hw' => hx.1 ▸ hcells m15 hm.1.2 w' hw'⟩
                    have HC2 : Aside0 (∀ w', Below wr.heap.size wr w' → w'.cell? (aw.add m2) = some (.int .u32 x2)) := ⟨fun w' hw' => hx.2.1 ▸ hcells m2 hm.2.1.2 w' hw'⟩
                    have HC16 : Aside0 (∀ w', Below wr.heap.size wr w' → w'.cell? (aw.add m16) = some (.int .u32 x16)) := ⟨fun w' hw' => hx.2.2.1 ▸ hcells m16 hm.2.2.1.2 w' hw'⟩
                    have HC7 : Aside0 (∀ w', Below wr.heap.size wr w' → w'.cell? (aw.add m7) = some (.int .u32 x7)) := ⟨fun w' hw' => hx.2.2.2 ▸ hcells m7 hm.2.2.2.2 w' hw'⟩
                    obtain ⟨e15, e2, e16, e7, ua15, ua2, ua16, ua7, ub15, ub2, ub16, ub7⟩ := he
                    have uc15 := eq_true hm.1.2
                    have uc2 := eq_true hm.2.1.2
                    have uc16 := eq_true hm.2.2.1.2
                    have uc7 := eq_true hm.2.2.2.2
                    have HTK : Aside0 (sc.take i ++ [nx] = sc.take (i + 1) ∧ (sc.take i).length = i) := ⟨hlast.1⟩
                    have HW : Aside0 (wrap64 ((i : Int) + 1) = ((i + 1 : Nat) : Int)) := ⟨hlast.2⟩
                    have HI0 := Aside0.mk hi
                    clear hcells hm hx hlast hi
                    go_wp2
                    refine start_any (n := 12) (S := fun w' => Below wr.heap.size wr w') (ds := []) #[false, false, false, false, false, false, false, false, false, false, false, false] (by kernel_rfl) rfl rfl (below_drew1 (Below.refl _ _)) (fun wa hHeld => ?_); refine with_tabW rf20.tab20 rf20.bits20 (fun HT_ HW_ => ?_)
                    refine pure_ (i := 0) (N := some 70) (v := ?_) (a' := ?_) #[true, false, false, false, false, false, false, false, false, false, false, false] rfl rfl (any_of HT_.out (by kernel_rfl)) (fun _ _ _ h => h) (Or.inl ⟨by rfl, ?_⟩) ?_ ?_
                    rotate_left
                    · intro w'
                      go_simp
                      with_reducible rfl
                    rotate_left
                    · simp only [Act.put, List.setIfInBounds_toArray, List.set_cons_zero, List.set_cons_succ, i64_w, i32_w]
                      rfl
                    refine pure_ (i := 1) (N := some 71) (v := ?_) (a' := ?_) #[true, true, false, false, false, false, false, false, false, false, false, false] rfl rfl (any_of HT_.out (by kernel_rfl)) (fun _ _ _ h => h) (Or.inl ⟨by rfl, ?_⟩) ?_ ?_
                    rotate_left
                    · intro w'
                      go_simp
                      with_reducible rfl
                    rotate_left
                    · simp only [Act.put, List.setIfInBounds_toArray, List.set_cons_zero, List.set_cons_succ, i64_w, i32_w]
                      rfl
                    refine pure_ (i := 2) (N := some 72) (v := ?_) (a' := ?_) #[true, true, true, false, false, false, false, false, false, false, false, false] rfl rfl (any_of HT_.out (by kernel_rfl)) (fun _ _ _ h => h) (Or.inl ⟨by rfl, ?_⟩) ?_ ?_
                    rotate_left
                    · intro w'
                      go_simp
                      with_reducible rfl
                    rotate_left
                    · simp only [Act.put, List.setIfInBounds_toArray, List.set_cons_zero, List.set_cons_succ, i64_w, i32_w]
                      rfl
                    refine pure_ (i := 3) (N := some 73) (v := ?_) (a' := ?_) #[true, true, true, true, false, false, false, false, false, false, false, false] rfl rfl (any_of HT_.out (by kernel_rfl)) (fun _ _ _ h => h) (Or.inl ⟨by rfl, ?_⟩) ?_ ?_
                    rotate_left
                    · intro w'
                      go_simp
                      with_reducible rfl
                    rotate_left
                    · simp only [Act.put, List.setIfInBounds_toArray, List.set_cons_zero, List.set_cons_succ, i64_w, i32_w]
                      rfl
                    refine take_ (i := 4) (N := some 74) (v := ?_) (a' := ?_) #[true, true, true, true, true, false, false, false, false, false, false, false] rfl rfl (take_ofW HT_.out HW_.out (by kernel_rfl)) (fun _ _ _ h => h) (Or.inl ⟨by rfl, ?_⟩) hHeld ?_ ?_
                    rotate_left
                    · intro w' hw'
                      have hq := HC15.out w' hw'
                      go_simp
                      with_reducible rfl
                    rotate_left
                    · simp only [Act.put, List.setIfInBounds_toArray, List.set_cons_zero, List.set_cons_succ, i64_w, i32_w]
                      rfl
                    refine pure_ (i := 5) (N := some 75) (v := ?_) (a' := ?_) #[true, true, true, true, true, true, false, false, false, false, false, false] rfl rfl (any_of HT_.out (by kernel_rfl)) (fun _ _ _ h => h) (Or.inl ⟨by rfl, ?_⟩) ?_ ?_
                    rotate_left
                    · intro w'
                      go_simp
                      with_reducible rfl
                    rotate_left
                    · simp only [Act.put, List.setIfInBounds_toArray, List.set_cons_zero, List.set_cons_succ, i64_w, i32_w]
                      rfl
                    refine pure_ (i := 6) (N := some 76) (v := ?_) (a' := ?_) #[true, true, true, true, true, true, true, false, false, false, false, false] rfl rfl (any_of HT_.out (by kernel_rfl)) (fun _ _ _ h => h) (Or.inl ⟨by rfl, ?_⟩) ?_ ?_
                    rotate_left
                    · intro w'
                      go_simp
                      with_reducible rfl
                    rotate_left
                    · simp only [Act.put, List.setIfInBounds_toArray, List.set_cons_zero, List.set_cons_succ, i64_w, i32_w]
                      rfl
                    refine pure_ (i := 7) (N := some 77) (v := ?_) (a' := ?_) #[true, true, true, true, true, true, true, true, false, false, false, false] rfl rfl (any_of HT_.out (by kernel_rfl)) (fun _ _ _ h => h) (Or.inl ⟨by rfl, ?_⟩) ?_ ?_
                    rotate_left
                    · intro w'
                      go_simp
                      with_reducible rfl
                    rotate_left
                    · simp only [Act.put, List.setIfInBounds_toArray, List.set_cons_zero, List.set_cons_succ, i64_w, i32_w]
                      rfl
                    refine pure_ (i := 8) (N := some 78) (v := ?_) (a' := ?_) #[true, true, true, true, true, true, true, true, true, false, false, false] rfl rfl (any_of HT_.out (by kernel_rfl)) (fun _ _ _ h => h) (Or.inl ⟨by rfl, ?_⟩) ?_ ?_
                    rotate_left
                    · intro w'
                      go_simp
                      with_reducible rfl
                    rotate_left
                    · simp only [Act.put, List.setIfInBounds_toArray, List.set_cons_zero, List.set_cons_succ, i64_w, i32_w]
                      rfl
                    refine take_ (i := 9) (N := some 79) (v := ?_) (a' := ?_) #[true, true, true, true, true, true, true, true, true, true, false, false] rfl rfl (take_ofW HT_.out HW_.out (by kernel_rfl)) (fun _ _ _ h => h) (Or.inl ⟨by rfl, ?_⟩) hHeld ?_ ?_
                    rotate_left
                    · intro w' hw'
                      have hq := HC2.out w' hw'
                      go_simp
                      with_reducible rfl
                    rotate_left
                    · simp only [Act.put, List.setIfInBounds_toArray, List.set_cons_zero, List.set_cons_succ, i64_w, i32_w]
                      rfl
                    refine pure_ (i := 10) (N := some 12) (v := ?_) (a' := ?_) #[true, true, true, true, true, true, true, true, true, true, true, false] rfl rfl (any_of HT_.out (by kernel_rfl)) (fun _ _ _ h => h) (Or.inl ⟨by rfl, ?_⟩) ?_ ?_
                    rotate_left
                    · intro w'
                      go_simp
                      with_reducible rfl
                    rotate_left
                    · simp only [Act.put, List.setIfInBounds_toArray, List.set_cons_zero, List.set_cons_succ, i64_w, i32_w]
                      rfl
                    refine pure_ (i := 11) (N := some 13) (v := ?_) (a' := ?_) #[true, true, true, true, true, true, true, true, true, true, true, true] rfl rfl (any_of HT_.out (by kernel_rfl)) (fun _ _ _ h => h) (Or.inl ⟨by rfl, ?_⟩) ?_ ?_
                    rotate_left
                    · intro w'
                      go_simp
                      with_reducible rfl
                    rotate_left
                    · simp only [Act.put, List.setIfInBounds_toArray, List.set_cons_zero, List.set_cons_succ, i64_w, i32_w]
                      rfl
                    refine done_ (done_of HT_.out (by kernel_rfl)) ?_
                    have HWX := Aside0.mk hHeld
                    go_wp2_with (first | (go_at_call 16; (with_reducible refine (r_7 x15 _).mono ?_); rintro e x' ⟨rfl, hb⟩; have n_ := Aside0.mk (HWX.out.trans (hb.mono HWX.out.size)); clear HWX; have HWX := n_; clear n_ hb) | (go_at_call 16; (with_reducible refine (r_18 x15 _).mono ?_); rintro e x' ⟨rfl, hb⟩; have n_ := Aside0.mk (HWX.out.trans (hb.mono HWX.out.size)); clear HWX; have HWX := n_; clear n_ hb) | (go_at_call 16; (with_reducible refine (r_17 x2 _).mono ?_); rintro e x' ⟨rfl, hb⟩; have n_ := Aside0.mk (HWX.out.trans (hb.mono HWX.out.size)); clear HWX; have HWX := n_; clear n_ hb) | (go_at_call 16; (with_reducible refine (r_19 x2 _).mono ?_); rintro e x' ⟨rfl, hb⟩; have n_ := Aside0.mk (HWX.out.trans (hb.mono HWX.out.size)); clear HWX; have HWX := n_; clear n_ hb))
                    refine start_any (n := 19) (S := fun w' => Below wr.heap.size wr w') (ds := [17]) #[false, false, false, false, false, false, false, false, false, false, false, false, false, false, false, false, false, false, false] (by kernel_rfl) rfl rfl (below_drew1 HWX.out) (fun wb hHeld => ?_); refine with_tabW rf23.tab23 rf23.bits23 (fun HT_ HW_ => ?_)
                    have HWX := Aside0.mk hHeld
                    refine pure_ (i := 0) (N := some 96) (v := ?_) (a' := ?_) #[true, false, false, false, false, false, false, false, false, false, false, false, false, false, false, false, false, false, false] rfl rfl (any_of HT_.out (by kernel_rfl)) (fun _ _ _ h => h) (Or.inl ⟨by rfl, ?_⟩) ?_ ?_
                    rotate_left
                    · intro w'
                      go_simp
                      with_reducible rfl
                    rotate_left
                    · simp only [Act.put, List.setIfInBounds_toArray, List.set_cons_zero, List.set_cons_succ, i64_w, i32_w]
                      rfl
                    refine pure_ (i := 1) (N := some 97) (v := ?_) (a' := ?_) #[true, true, false, false, false, false, false, false, false, false, false, false, false, false, false, false, false, false, false] rfl rfl (any_of HT_.out (by kernel_rfl)) (fun _ _ _ h => h) (Or.inl ⟨by rfl, ?_⟩) ?_ ?_
                    rotate_left
                    · intro w'
                      go_simp
                      with_reducible rfl
                    rotate_left
                    · simp only [Act.put, List.setIfInBounds_toArray, List.set_cons_zero, List.set_cons_succ, i64_w, i32_w]
                      rfl
                    refine pure_ (i := 2) (N := some 98) (v := ?_) (a' := ?_) #[true, true, true, false, false, false, false, false, false, false, false, false, false, false, false, false, false, false, false] rfl rfl (any_of HT_.out (by kernel_rfl)) (fun _ _ _ h => h) (Or.inl ⟨by rfl, ?_⟩) ?_ ?_
                    rotate_left
                    · intro w'
                      go_simp
                      with_reducible rfl
                    rotate_left
                    · simp only [Act.put, List.setIfInBounds_toArray, List.set_cons_zero, List.set_cons_succ, i64_w, i32_w]
                      rfl
                    refine pure_ (i := 3) (N := some 99) (v := ?_) (a' := ?_) #[true, true, true, true, false, false, false, false, false, false, false, false, false, false, false, false, false, false, false] rfl rfl (any_of HT_.out (by kernel_rfl)) (fun _ _ _ h => h) (Or.inl ⟨by rfl, ?_⟩) ?_ ?_
                    rotate_left
                    · intro w'
                      go_simp
                      with_reducible rfl
                    rotate_left
                    · simp only [Act.put, List.setIfInBounds_toArray, List.set_cons_zero, List.set_cons_succ, i64_w, i32_w]
                      rfl
                    refine pure_ (i := 4) (N := some 100) (v := ?_) (a' := ?_) #[true, true, true, true, true, false, false, false, false, false, false, false, false, false, false, false, false, false, false] rfl rfl (any_of HT_.out (by kernel_rfl)) (fun _ _ _ h => h) (Or.inl ⟨by rfl, ?_⟩) ?_ ?_
                    rotate_left
                    · intro w'
                      go_simp
                      with_reducible rfl
                    rotate_left
                    · simp only [Act.put, List.setIfInBounds_toArray, List.set_cons_zero, List.set_cons_succ, i64_w, i32_w]
                      rfl
                    refine take_ (i := 5) (N := some 101) (v := ?_) (a' := ?_) #[true, true, true, true, true, true, false, false, false, false, false, false, false, false, false, false, false, false, false] rfl rfl (take_ofW HT_.out HW_.out (by kernel_rfl)) (fun _ _ _ h => h) (Or.inl ⟨by rfl, ?_⟩) hHeld ?_ ?_
                    rotate_left
                    · intro w' hw'
                      have hq := HC16.out w' hw'
                      go_simp
                      with_reducible rfl
                    rotate_left
                    · simp only [Act.put, List.setIfInBounds_toArray, List.set_cons_zero, List.set_cons_succ, i64_w, i32_w]
                      rfl
                    refine pure_ (i := 6) (N := some 102) (v := ?_) (a' := ?_) #[true, true, true, true, true, true, true, false, false, false, false, false, false, false, false, false, false, false, false] rfl rfl (any_of HT_.out (by kernel_rfl)) (fun _ _ _ h => h) (Or.inl ⟨by rfl, ?_⟩) ?_ ?_
                    rotate_left
                    · intro w'
                      go_simp
                      with_reducible rfl
                    rotate_left
                    · simp only [Act.put, List.setIfInBounds_toArray, List.set_cons_zero, List.set_cons_succ, i64_w, i32_w]
                      rfl
                    refine pure_ (i := 7) (N := some 103) (v := ?_) (a' := ?_) #[true, true, true, true, true, true, true, true, false, false, false, false, false, false, false, false, false, false, false] rfl rfl (any_of HT_.out (by kernel_rfl)) (fun _ _ _ h => h) (Or.inl ⟨by rfl, ?_⟩) ?_ ?_
                    rotate_left
                    · intro w'
                      go_simp
                      with_reducible rfl
                    rotate_left
                    · simp only [Act.put, List.setIfInBounds_toArray, List.set_cons_zero, List.set_cons_succ, i64_w, i32_w]
                      rfl
                    refine pure_ (i := 8) (N := some 104) (v := ?_) (a' := ?_) #[true, true, true, true, true, true, true, true, true, false, false, false, false, false, false, false, false, false, false] rfl rfl (any_of HT_.out (by kernel_rfl)) (fun _ _ _ h => h) (Or.inl ⟨by rfl, ?_⟩) ?_ ?_
                    rotate_left
                    · intro w'
                      go_simp
                      with_reducible rfl
                    rotate_left
                    · simp only [Act.put, List.setIfInBounds_toArray, List.set_cons_zero, List.set_cons_succ, i64_w, i32_w]
                      rfl
                    refine pure_ (i := 9) (N := some 105) (v := ?_) (a' := ?_) #[true, true, true, true, true, true, true, true, true, true, false, false, false, false, false, false, false, false, false] rfl rfl (any_of HT_.out (by kernel_rfl)) (fun _ _ _ h => h) (Or.inl ⟨by rfl, ?_⟩) ?_ ?_
                    rotate_left
                    · intro w'
                      go_simp
                      with_reducible rfl
                    rotate_left
                    · simp only [Act.put, List.setIfInBounds_toArray, List.set_cons_zero, List.set_cons_succ, i64_w, i32_w]
                      rfl
                    refine pure_ (i := 10) (N := some 106) (v := ?_) (a' := ?_) #[true, true, true, true, true, true, true, true, true, true, true, false, false, false, false, false, false, false, false] rfl rfl (any_of HT_.out (by kernel_rfl)) (fun _ _ _ h => h) (Or.inl ⟨by rfl, ?_⟩) ?_ ?_
                    rotate_left
                    · intro w'
                      go_simp
                      with_reducible rfl
                    rotate_left
                    · simp only [Act.put, List.setIfInBounds_toArray, List.set_cons_zero, List.set_cons_succ, i64_w, i32_w]
                      rfl
                    refine pure_ (i := 11) (N := some 107) (v := ?_) (a' := ?_) #[true, true, true, true, true, true, true, true, true, true, true, true, false, false, false, false, false, false, false] rfl rfl (any_of HT_.out (by kernel_rfl)) (fun _ _ _ h => h) (Or.inl ⟨by rfl, ?_⟩) ?_ ?_
                    rotate_left
                    · intro w'
                      go_simp
                      with_reducible rfl
                    rotate_left
                    · simp only [Act.put, List.setIfInBounds_toArray, List.set_cons_zero, List.set_cons_succ, i64_w, i32_w]
                      rfl
                    refine take_ (i := 12) (N := some 108) (v := ?_) (a' := ?_) #[true, true, true, true, true, true, true, true, true, true, true, true, true, false, false, false, false, false, false] rfl rfl (take_ofW HT_.out HW_.out (by kernel_rfl)) (fun _ _ _ h => h) (Or.inl ⟨by rfl, ?_⟩) hHeld ?_ ?_
                    rotate_left
                    · intro w' hw'
                      have hq := HC7.out w' hw'
                      go_simp
                      with_reducible rfl
                    rotate_left
                    · simp only [Act.put, List.setIfInBounds_toArray, List.set_cons_zero, List.set_cons_succ, i64_w, i32_w]
                      rfl
                    refine pure_ (i := 13) (N := some 109) (v := ?_) (a' := ?_) #[true, true, true, true, true, true, true, true, true, true, true, true, true, true, false, false, false, false, false] rfl rfl (any_of HT_.out (by kernel_rfl)) (fun _ _ _ h => h) (Or.inl ⟨by rfl, ?_⟩) ?_ ?_
                    rotate_left
                    · intro w'
                      go_simp
                      with_reducible rfl
                    rotate_left
                    · simp only [Act.put, List.setIfInBounds_toArray, List.set_cons_zero, List.set_cons_succ, i64_w, i32_w]
                      rfl
                    refine pure_ (i := 14) (N := some 110) (v := ?_) (a' := ?_) #[true, true, true, true, true, true, true, true, true, true, true, true, true, true, true, false, false, false, false] rfl rfl (any_of HT_.out (by kernel_rfl)) (fun _ _ _ h => h) (Or.inl ⟨by rfl, ?_⟩) ?_ ?_
                    rotate_left
                    · intro w'
                      go_simp
                      with_reducible rfl
                    rotate_left
                    · simp only [Act.put, List.setIfInBounds_toArray, List.set_cons_zero, List.set_cons_succ, i64_w, i32_w]
                      rfl
                    refine pure_ (i := 15) (N := some 111) (v := ?_) (a' := ?_) #[true, true, true, true, true, true, true, true, true, true, true, true, true, true, true, true, false, false, false] rfl rfl (any_of HT_.out (by kernel_rfl)) (fun _ _ _ h => h) (Or.inl ⟨by rfl, ?_⟩) ?_ ?_
                    rotate_left
                    · intro w'
                      go_simp
                      with_reducible rfl
                    rotate_left
                    · simp only [Act.put, List.setIfInBounds_toArray, List.set_cons_zero, List.set_cons_succ, i64_w, i32_w]
                      rfl
                    refine one_ (i := 16) (N := some 112) #[true, true, true, true, true, true, true, true, true, true, true, true, true, true, true, true, true, false, false] rfl rfl (one_of HT_.out (by kernel_rfl)) (by decide) (fun K hK => ?_)
                    have hal := box_of HWX.out nx
                    have hbl := HWX.out.alloc HWX.out.size (.cells #[.int .u32 nx] 41)
                    refine value_ (w1 := ?_) (v := ?_) (by rfl) rfl ?_ ?_
                    rotate_left 2
                    · go_simp
                      constructor
                      · rfl
                      · rfl
                    have HP := Aside0.mk hal
                    clear HWX
                    have HWX := Aside0.mk hbl
                    clear hal hbl
                    refine hK.out _ _ HWX.out (fun hHeld => ?_)
                    clear hK K
                    refine norm_ (a' := ?_) ?_ ?_
                    rotate_left
                    · show Act.put _ (some 112) _ = _
                      simp only [Act.put, List.setIfInBounds_toArray, List.set_cons_zero, List.set_cons_succ, i64_w, i32_w]
                      rfl
                    refine last_ (i := 17) (N := some 113) #[true, true, true, true, true, true, true, true, true, true, true, true, true, true, true, true, true, true, false] rfl rfl (one_of HT_.out (by kernel_rfl)) (by decide) (fun K hK => ?_)
                    obtain ⟨A9, c9, w9, hrun, ho9, hb9⟩ := run_num (pw_own_below HO.out HWX.out) HP.out HTK.out.2 (HBB.out.trans (HWX.out.mono HBB.out.size)) (by have := HI0.out; omega) nx rfl
                    rw [HTK.out.1] at ho9
                    refine event_step (v := .slice A9 (i + 1) c9) (w1 := w9) (by rfl) ?_ ?_
                    · exact exec_append (.tmp 96) (.tmp 112) 38 rfl (.slice (some aw) i cw) (.slice (some ⟨_, 0, none⟩) 1 1) (by rfl) (by rfl) hrun
                    have HO9 := Aside0.mk ho9
                    have HBB9 := Aside0.mk hb9
                    clear hrun ho9 hb9
                    refine hK.out _ _ ?_
                    clear hK K
                    refine norm_ (a' := ?_) ?_ ?_
                    rotate_left
                    · show Act.put _ (some 113) _ = _
                      simp only [Act.put, List.setIfInBounds_toArray, List.set_cons_zero, List.set_cons_succ, i64_w, i32_w]
                      rfl
                    refine pure_ (i := 18) (N := some 7) (v := ?_) (a' := ?_) #[true, true, true, true, true, true, true, true, true, true, true, true, true, true, true, true, true, true, true] rfl rfl (any_of HT_.out (by kernel_rfl)) (fun _ _ _ h => h) (Or.inl ⟨by rfl, ?_⟩) ?_ ?_
                    rotate_left
                    · intro w'
                      go_simp
                      with_reducible rfl
                    rotate_left
                    · simp only [Act.put, List.setIfInBounds_toArray, List.set_cons_zero, List.set_cons_succ, i64_w, i32_w]
                      rfl
                    refine done_ (done_of HT_.out (by kernel_rfl)) ?_
                    go_wp2
                    go_roundg k3
                    case measure => have := HJ.out; have := HI0.out; omega
                    case rel => exact ⟨i + 1, A9, c9, rfl, (by first | rw [HW.out] | (push_cast; rfl)), ⟨by have := HJ.out; omega, by have := HI0.out; omega, by have := HJ.out; have := HI0.out; omega⟩, HO9, HBB9⟩
                  · have ei : i = 64 := by have := HJ.out; omega
                    subst ei
                    clear hi
                    have HRW : Aside0 (ReadsInt wr .u32 W 64 sc) := ⟨rc_reads HO.out HSL.out⟩
                    obtain ⟨wd, rfl⟩ : ∃ x, x = wr := ⟨_, rfl⟩
                    obtain ⟨aw, rfl, hwc⟩ := HRW.out.2.2 (by decide)
                    obtain ⟨ak, rfl, hkc⟩ := (RKo.out.below HBB.out).2.2 (by decide)
                    obtain ⟨al2, rfl, hlc⟩ := (RLo.out.below HBB.out).2.2 (by decide)
                    obtain ⟨h0, h1, h2, h3, h4, h5, h6, h7, h8⟩ := eight H HHL.out
                    subst h8
                    have HWC := Aside0.mk hwc
                    have HKC := Aside0.mk hkc
                    have HLC := Aside0.mk hlc
                    have HZ0 : Aside0 (∀ w', Below wd.heap.size wd w' → w'.cell? al2 = some (.int .u32 h0)) := ⟨fun w' hw' => pw_cell_below hw' ((congrArg wd.cell? (add_nul al2)).symm.trans (hlc 0 (by decide)))⟩
                    have HZ1 : Aside0 (∀ w', Below wd.heap.size wd w' → w'.cell? ⟨al2.block, al2.off + 1, none⟩ = some (.int .u32 h1)) := ⟨fun w' hw' => pw_cell_below hw' (hlc 1 (by decide))⟩
                    have HZ2 : Aside0 (∀ w', Below wd.heap.size wd w' → w'.cell? ⟨al2.block, al2.off + 2, none⟩ = some (.int .u32 h2)) := ⟨fun w' hw' => pw_cell_below hw' (hlc 2 (by decide))⟩
                    have HZ3 : Aside0 (∀ w', Below wd.heap.size wd w' → w'.cell? ⟨al2.block, al2.off + 3, none⟩ = some (.int .u32 h3)) := ⟨fun w' hw' => pw_cell_below hw' (hlc 3 (by decide))⟩
                    have HZ4 : Aside0 (∀ w', Below wd.heap.size wd w' → w'.cell? ⟨al2.block, al2.off + 4, none⟩ = some (.int .u32 h4)) := ⟨fun w' hw' => pw_cell_below hw' (hlc 4 (by decide))⟩
                    have HZ5 : Aside0 (∀ w', Below wd.heap.size wd w' → w'.cell? ⟨al2.block, al2.off + 5, none⟩ = some (.int .u32 h5)) := ⟨fun w' hw' => pw_cell_below hw' (hlc 5 (by decide))⟩
                    have HZ6 : Aside0 (∀ w', Below wd.heap.size wd w' → w'.cell? ⟨al2.block, al2.off + 6, none⟩ = some (.int .u32 h6)) := ⟨fun w' hw' => pw_cell_below hw' (hlc 6 (by decide))⟩
                    have HZ7 : Aside0 (∀ w', Below wd.heap.size wd w' → w'.cell? ⟨al2.block, al2.off + 7, none⟩ = some (.int .u32 h7)) := ⟨fun w' hw' => pw_cell_below hw' (hlc 7 (by decide))⟩
                    clear hwc hkc hlc HRW HO
                    go_wp2
                    refine start_any (n := 32) (S := fun w' => Below wd.heap.size wd w') (ds := []) #[false, false, false, false, false, false, false, false, false, false, false, false, false, false, false, false, false, false, false, false, false, false, false, false, false, false, false, false, false, false, false, false] (by kernel_rfl) rfl rfl (below_drew1 (Below.refl _ _)) (fun wz hHeld => ?_); refine with_tabW rf24.tab24 rf24.bits24 (fun HT_ HW_ => ?_)
                    refine pure_ (i := 0) (N := some 114) (v := ?_) (a' := ?_) #[true, false, false, false, false, false, false, false, false, false, false, false, false, false, false, false, false, false, false, false, false, false, false, false, false, false, false, false, false, false, false, false] rfl rfl (any_of HT_.out (by kernel_rfl)) (fun _ _ _ h => h) (Or.inl ⟨by rfl, ?_⟩) ?_ ?_
                    rotate_left
                    · intro w'
                      go_simp
                      with_reducible rfl
                    rotate_left
                    · simp only [Act.put, List.setIfInBounds_toArray, List.set_cons_zero, List.set_cons_succ, i64_w, i32_w]
                      rfl
                    refine pure_ (i := 1) (N := some 115) (v := ?_) (a' := ?_) #[true, true, false, false, false, false, false, false, false, false, false, false, false, false, false, false, false, false, false, false, false, false, false, false, false, false, false, false, false, false, false, false] rfl rfl (any_of HT_.out (by kernel_rfl)) (fun _ _ _ h => h) (Or.inl ⟨by rfl, ?_⟩) ?_ ?_
                    rotate_left
                    · intro w'
                      go_simp
                      with_reducible rfl
                    rotate_left
                    · simp only [Act.put, List.setIfInBounds_toArray, List.set_cons_zero, List.set_cons_succ, i64_w, i32_w]
                      rfl
                    refine take_ (i := 2) (N := some 116) (v := ?_) (a' := ?_) #[true, true, true, false, false, false, false, false, false, false, false, false, false, false, false, false, false, false, false, false, false, false, false, false, false, false, false, false, false, false, false, false] rfl rfl (take_ofW HT_.out HW_.out (by kernel_rfl)) (fun _ _ _ h => h) (Or.inl ⟨by rfl, ?_⟩) hHeld ?_ ?_
                    rotate_left
                    · intro w' hw'
                      have hq := HZ0.out w' hw'
                      go_simp
                      with_reducible rfl
                    rotate_left
                    · simp only [Act.put, List.setIfInBounds_toArray, List.set_cons_zero, List.set_cons_succ, i64_w, i32_w]
                      rfl
                    refine pure_ (i := 3) (N := some 117) (v := ?_) (a' := ?_) #[true, true, true, true, false, false, false, false, false, false, false, false, false, false, false, false, false, false, false, false, false, false, false, false, false, false, false, false, false, false, false, false] rfl rfl (any_of HT_.out (by kernel_rfl)) (fun _ _ _ h => h) (Or.inl ⟨by rfl, ?_⟩) ?_ ?_
                    rotate_left
                    · intro w'
                      go_simp
                      with_reducible rfl
                    rotate_left
                    · simp only [Act.put, List.setIfInBounds_toArray, List.set_cons_zero, List.set_cons_succ, i64_w, i32_w]
                      rfl
                    refine pure_ (i := 4) (N := some 118) (v := ?_) (a' := ?_) #[true, true, true, true, true, false, false, false, false, false, false, false, false, false, false, false, false, false, false, false, false, false, false, false, false, false, false, false, false, false, false, false] rfl rfl (any_of HT_.out (by kernel_rfl)) (fun _ _ _ h => h) (Or.inl ⟨by rfl, ?_⟩) ?_ ?_
                    rotate_left
                    · intro w'
                      go_simp
                      with_reducible rfl
                    rotate_left
                    · simp only [Act.put, List.setIfInBounds_toArray, List.set_cons_zero, List.set_cons_succ, i64_w, i32_w]
                      rfl
                    refine take_ (i := 5) (N := some 119) (v := ?_) (a' := ?_) #[true, true, true, true, true, true, false, false, false, false, false, false, false, false, false, false, false, false, false, false, false, false, false, false, false, false, false, false, false, false, false, false] rfl rfl (take_ofW HT_.out HW_.out (by kernel_rfl)) (fun _ _ _ h => h) (Or.inl ⟨by rfl, ?_⟩) hHeld ?_ ?_
                    rotate_left
                    · intro w' hw'
                      have hq := HZ1.out w' hw'
                      go_simp
                      with_reducible rfl
                    rotate_left
                    · simp only [Act.put, List.setIfInBounds_toArray, List.set_cons_zero, List.set_cons_succ, i64_w, i32_w]
                      rfl
                    refine pure_ (i := 6) (N := some 120) (v := ?_) (a' := ?_) #[true, true, true, true, true, true, true, false, false, false, false, false, false, false, false, false, false, false, false, false, false, false, false, false, false, false, false, false, false, false, false, false] rfl rfl (any_of HT_.out (by kernel_rfl)) (fun _ _ _ h => h) (Or.inl ⟨by rfl, ?_⟩) ?_ ?_
                    rotate_left
                    · intro w'
                      go_simp
                      with_reducible rfl
                    rotate_left
                    · simp only [Act.put, List.setIfInBounds_toArray, List.set_cons_zero, List.set_cons_succ, i64_w, i32_w]
                      rfl
                    refine pure_ (i := 7) (N := some 121) (v := ?_) (a' := ?_) #[true, true, true, true, true, true, true, true, false, false, false, false, false, false, false, false, false, false, false, false, false, false, false, false, false, false, false, false, false, false, false, false] rfl rfl (any_of HT_.out (by kernel_rfl)) (fun _ _ _ h => h) (Or.inl ⟨by rfl, ?_⟩) ?_ ?_
                    rotate_left
                    · intro w'
                      go_simp
                      with_reducible rfl
                    rotate_left
                    · simp only [Act.put, List.setIfInBounds_toArray, List.set_cons_zero, List.set_cons_succ, i64_w, i32_w]
                      rfl
                    refine take_ (i := 8) (N := some 122) (v := ?_) (a' := ?_) #[true, true, true, true, true, true, true, true, true, false, false, false, false, false, false, false, false, false, false, false, false, false, false, false, false, false, false, false, false, false, false, false] rfl rfl (take_ofW HT_.out HW_.out (by kernel_rfl)) (fun _ _ _ h => h) (Or.inl ⟨by rfl, ?_⟩) hHeld ?_ ?_
                    rotate_left
                    · intro w' hw'
                      have hq := HZ2.out w' hw'
                      go_simp
                      with_reducible rfl
                    rotate_left
                    · simp only [Act.put, List.setIfInBounds_toArray, List.set_cons_zero, List.set_cons_succ, i64_w, i32_w]
                      rfl
                    refine pure_ (i := 9) (N := some 123) (v := ?_) (a' := ?_) #[true, true, true, true, true, true, true, true, true, true, false, false, false, false, false, false, false, false, false, false, false, false, false, false, false, false, false, false, false, false, false, false] rfl rfl (any_of HT_.out (by kernel_rfl)) (fun _ _ _ h => h) (Or.inl ⟨by rfl, ?_⟩) ?_ ?_
                    rotate_left
                    · intro w'
                      go_simp
                      with_reducible rfl
                    rotate_left
                    · simp only [Act.put, List.setIfInBounds_toArray, List.set_cons_zero, List.set_cons_succ, i64_w, i32_w]
                      rfl
                    refine pure_ (i := 10) (N := some 124) (v := ?_) (a' := ?_) #[true, true, true, true, true, true, true, true, true, true, true, false, false, false, false, false, false, false, false, false, false, false, false, false, false, false, false, false, false, false, false, false] rfl rfl (any_of HT_.out (by kernel_rfl)) (fun _ _ _ h => h) (Or.inl ⟨by rfl, ?_⟩) ?_ ?_
                    rotate_left
                    · intro w'
                      go_simp
                      with_reducible rfl
                    rotate_left
                    · simp only [Act.put, List.setIfInBounds_toArray, List.set_cons_zero, List.set_cons_succ, i64_w, i32_w]
                      rfl
                    refine take_ (i := 11) (N := some 125) (v := ?_) (a' := ?_) #[true, true, true, true, true, true, true, true, true, true, true, true, false, false, false, false, false, false, false, false, false, false, false, false, false, false, false, false, false, false, false, false] rfl rfl (take_ofW HT_.out HW_.out (by kernel_rfl)) (fun _ _ _ h => h) (Or.inl ⟨by rfl, ?_⟩) hHeld ?_ ?_
                    rotate_left
                    · intro w' hw'
                      have hq := HZ3.out w' hw'
                      go_simp
                      with_reducible rfl
                    rotate_left
                    · simp only [Act.put, List.setIfInBounds_toArray, List.set_cons_zero, List.set_cons_succ, i64_w, i32_w]
                      rfl
                    refine pure_ (i := 12) (N := some 126) (v := ?_) (a' := ?_) #[true, true, true, true, true, true, true, true, true, true, true, true, true, false, false, false, false, false, false, false, false, false, false, false, false, false, false, false, false, false, false, false] rfl rfl (any_of HT_.out (by kernel_rfl)) (fun _ _ _ h => h) (Or.inl ⟨by rfl, ?_⟩) ?_ ?_
                    rotate_left
                    · intro w'
                      go_simp
                      with_reducible rfl
                    rotate_left
                    · simp only [Act.put, List.setIfInBounds_toArray, List.set_cons_zero, List.set_cons_succ, i64_w, i32_w]
                      rfl
                    refine pure_ (i := 13) (N := some 127) (v := ?_) (a' := ?_) #[true, true, true, true, true, true, true, true, true, true, true, true, true, true, false, false, false, false, false, false, false, false, false, false, false, false, false, false, false, false, false, false] rfl rfl (any_of HT_.out (by kernel_rfl)) (fun _ _ _ h => h) (Or.inl ⟨by rfl, ?_⟩) ?_ ?_
                    rotate_left
                    · intro w'
                      go_simp
                      with_reducible rfl
                    rotate_left
                    · simp only [Act.put, List.setIfInBounds_toArray, List.set_cons_zero, List.set_cons_succ, i64_w, i32_w]
                      rfl
                    refine take_ (i := 14) (N := some 128) (v := ?_) (a' := ?_) #[true, true, true, true, true, true, true, true, true, true, true, true, true, true, true, false, false, false, false, false, false, false, false, false, false, false, false, false, false, false, false, false] rfl rfl (take_ofW HT_.out HW_.out (by kernel_rfl)) (fun _ _ _ h => h) (Or.inl ⟨by rfl, ?_⟩) hHeld ?_ ?_
                    rotate_left
                    · intro w' hw'
                      have hq := HZ4.out w' hw'
                      go_simp
                      with_reducible rfl
                    rotate_left
                    · simp only [Act.put, List.setIfInBounds_toArray, List.set_cons_zero, List.set_cons_succ, i64_w, i32_w]
                      rfl
                    refine pure_ (i := 15) (N := some 129) (v := ?_) (a' := ?_) #[true, true, true, true, true, true, true, true, true, true, true, true, true, true, true, true, false, false, false, false, false, false, false, false, false, false, false, false, false, false, false, false] rfl rfl (any_of HT_.out (by kernel_rfl)) (fun _ _ _ h => h) (Or.inl ⟨by rfl, ?_⟩) ?_ ?_
                    rotate_left
                    · intro w'
                      go_simp
                      with_reducible rfl
                    rotate_left
                    · simp only [Act.put, List.setIfInBounds_toArray, List.set_cons_zero, List.set_cons_succ, i64_w, i32_w]
                      rfl
                    refine pure_ (i := 16) (N := some 130) (v := ?_) (a' := ?_) #[true, true, true, true, true, true, true, true, true, true, true, true, true, true, true, true, true, false, false, false, false, false, false, false, false, false, false, false, false, false, false, false] rfl rfl (any_of HT_.out (by kernel_rfl)) (fun _ _ _ h => h) (Or.inl ⟨by rfl, ?_⟩) ?_ ?_
                    rotate_left
                    · intro w'
                      go_simp
                      with_reducible rfl
                    rotate_left
                    · simp only [Act.put, List.setIfInBounds_toArray, List.set_cons_zero, List.set_cons_succ, i64_w, i32_w]
                      rfl
                    refine take_ (i := 17) (N := some 131) (v := ?_) (a' := ?_) #[true, true, true, true, true, true, true, true, true, true, true, true, true, true, true, true, true, true, false, false, false, false, false, false, false, false, false, false, false, false, false, false] rfl rfl (take_ofW HT_.out HW_.out (by kernel_rfl)) (fun _ _ _ h => h) (Or.inl ⟨by rfl, ?_⟩) hHeld ?_ ?_
                    rotate_left
                    · intro w' hw'
                      have hq := HZ5.out w' hw'
                      go_simp
                      with_reducible rfl
                    rotate_left
                    · simp only [Act.put, List.setIfInBounds_toArray, List.set_cons_zero, List.set_cons_succ, i64_w, i32_w]
                      rfl
                    refine pure_ (i := 18) (N := some 132) (v := ?_) (a' := ?_) #[true, true, true, true, true, true, true, true, true, true, true, true, true, true, true, true, true, true, true, false, false, false, false, false, false, false, false, false, false, false, false, false] rfl rfl (any_of HT_.out (by kernel_rfl)) (fun _ _ _ h => h) (Or.inl ⟨by rfl, ?_⟩) ?_ ?_
                    rotate_left
                    · intro w'
                      go_simp
                      with_reducible rfl
                    rotate_left
                    · simp only [Act.put, List.setIfInBounds_toArray, List.set_cons_zero, List.set_cons_succ, i64_w, i32_w]
                      rfl
                    refine pure_ (i := 19) (N := some 133) (v := ?_) (a' := ?_) #[true, true, true, true, true, true, true, true, true, true, true, true, true, true, true, true, true, true, true, true, false, false, false, false, false, false, false, false, false, false, false, false] rfl rfl (any_of HT_.out (by kernel_rfl)) (fun _ _ _ h => h) (Or.inl ⟨by rfl, ?_⟩) ?_ ?_
                    rotate_left
                    · intro w'
                      go_simp
                      with_reducible rfl
                    rotate_left
                    · simp only [Act.put, List.setIfInBounds_toArray, List.set_cons_zero, List.set_cons_succ, i64_w, i32_w]
                      rfl
                    refine take_ (i := 20) (N := some 134) (v := ?_) (a' := ?_) #[true, true, true, true, true, true, true, true, true, true, true, true, true, true, true, true, true, true, true, true, true, false, false, false, false, false, false, false, false, false, false, false] rfl rfl (take_ofW HT_.out HW_.out (by kernel_rfl)) (fun _ _ _ h => h) (Or.inl ⟨by rfl, ?_⟩) hHeld ?_ ?_
                    rotate_left
                    · intro w' hw'
                      have hq := HZ6.out w' hw'
                      go_simp
                      with_reducible rfl
                    rotate_left
                    · simp only [Act.put, List.setIfInBounds_toArray, List.set_cons_zero, List.set_cons_succ, i64_w, i32_w]
                      rfl
                    refine pure_ (i := 21) (N := some 135) (v := ?_) (a' := ?_) #[true, true, true, true, true, true, true, true, true, true, true, true, true, true, true, true, true, true, true, true, true, true, false, false, false, false, false, false, false, false, false, false] rfl rfl (any_of HT_.out (by kernel_rfl)) (fun _ _ _ h => h) (Or.inl ⟨by rfl, ?_⟩) ?_ ?_
                    rotate_left
                    · intro w'
                      go_simp
                      with_reducible rfl
                    rotate_left
                    · simp only [Act.put, List.setIfInBounds_toArray, List.set_cons_zero, List.set_cons_succ, i64_w, i32_w]
                      rfl
                    refine pure_ (i := 22) (N := some 136) (v := ?_) (a' := ?_) #[true, true, true, true, true, true, true, true, true, true, true, true, true, true, true, true, true, true, true, true, true, true, true, false, false, false, false, false, false, false, false, false] rfl rfl (any_of HT_.out (by kernel_rfl)) (fun _ _ _ h => h) (Or.inl ⟨by rfl, ?_⟩) ?_ ?_
                    rotate_left
                    · intro w'
                      go_simp
                      with_reducible rfl
                    rotate_left
                    · simp only [Act.put, List.setIfInBounds_toArray, List.set_cons_zero, List.set_cons_succ, i64_w, i32_w]
                      rfl
                    refine take_ (i := 23) (N := some 137) (v := ?_) (a' := ?_) #[true, true, true, true, true, true, true, true, true, true, true, true, true, true, true, true, true, true, true, true, true, true, true, true, false, false, false, false, false, false, false, false] rfl rfl (take_ofW HT_.out HW_.out (by kernel_rfl)) (fun _ _ _ h => h) (Or.inl ⟨by rfl, ?_⟩) hHeld ?_ ?_
                    rotate_left
                    · intro w' hw'
                      have hq := HZ7.out w' hw'
                      go_simp
                      with_reducible rfl
                    rotate_left
                    · simp only [Act.put, List.setIfInBounds_toArray, List.set_cons_zero, List.set_cons_succ, i64_w, i32_w]
                      rfl
                    refine pure_ (i := 24) (N := some 16) (v := ?_) (a' := ?_) #[true, true, true, true, true, true, true, true, true, true, true, true, true, true, true, true, true, true, true, true, true, true, true, true, true, false, false, false, false, false, false, false] rfl rfl (any_of HT_.out (by kernel_rfl)) (fun _ _ _ h => h) (Or.inl ⟨by rfl, ?_⟩) ?_ ?_
                    rotate_left
                    · intro w'
                      go_simp
                      with_reducible rfl
                    rotate_left
                    · simp only [Act.put, List.setIfInBounds_toArray, List.set_cons_zero, List.set_cons_succ, i64_w, i32_w]
                      rfl
                    refine pure_ (i := 25) (N := some 17) (v := ?_) (a' := ?_) #[true, true, true, true, true, true, true, true, true, true, true, true, true, true, true, true, true, true, true, true, true, true, true, true, true, true, false, false, false, false, false, false] rfl rfl (any_of HT_.out (by kernel_rfl)) (fun _ _ _ h => h) (Or.inl ⟨by rfl, ?_⟩) ?_ ?_
                    rotate_left
                    · intro w'
                      go_simp
                      with_reducible rfl
                    rotate_left
                    · simp only [Act.put, List.setIfInBounds_toArray, List.set_cons_zero, List.set_cons_succ, i64_w, i32_w]
                      rfl
                    refine pure_ (i := 26) (N := some 18) (v := ?_) (a' := ?_) #[true, true, true, true, true, true, true, true, true, true, true, true, true, true, true, true, true, true, true, true, true, true, true, true, true, true, true, false, false, false, false, false] rfl rfl (any_of HT_.out (by kernel_rfl)) (fun _ _ _ h => h) (Or.inl ⟨by rfl, ?_⟩) ?_ ?_
                    rotate_left
                    · intro w'
                      go_simp
                      with_reducible rfl
                    rotate_left
                    · simp only [Act.put, List.setIfInBounds_toArray, List.set_cons_zero, List.set_cons_succ, i64_w, i32_w]
                      rfl
                    refine pure_ (i := 27) (N := some 19) (v := ?_) (a' := ?_) #[true, true, true, true, true, true, true, true, true, true, true, true, true, true, true, true, true, true, true, true, true, true, true, true, true, true, true, true, false, false, false, false] rfl rfl (any_of HT_.out (by kernel_rfl)) (fun _ _ _ h => h) (Or.inl ⟨by rfl, ?_⟩) ?_ ?_
                    rotate_left
                    · intro w'
                      go_simp
                      with_reducible rfl
                    rotate_left
                    · simp only [Act.put, List.setIfInBounds_toArray, List.set_cons_zero, List.set_cons_succ, i64_w, i32_w]
                      rfl
                    refine pure_ (i := 28) (N := some 20) (v := ?_) (a' := ?_) #[true, true, true, true, true, true, true, true, true, true, true, true, true, true, true, true, true, true, true, true, true, true, true, true, true, true, true, true, true, false, false, false] rfl rfl (any_of HT_.out (by kernel_rfl)) (fun _ _ _ h => h) (Or.inl ⟨by rfl, ?_⟩) ?_ ?_
                    rotate_left
                    · intro w'
                      go_simp
                      with_reducible rfl
                    rotate_left
                    · simp only [Act.put, List.setIfInBounds_toArray, List.set_cons_zero, List.set_cons_succ, i64_w, i32_w]
                      rfl
                    refine pure_ (i := 29) (N := some 21) (v := ?_) (a' := ?_) #[true, true, true, true, true, true, true, true, true, true, true, true, true, true, true, true, true, true, true, true, true, true, true, true, true, true, true, true, true, true, false, false] rfl rfl (any_of HT_.out (by kernel_rfl)) (fun _ _ _ h => h) (Or.inl ⟨by rfl, ?_⟩) ?_ ?_
                    rotate_left
                    · intro w'
                      go_simp
                      with_reducible rfl
                    rotate_left
                    · simp only [Act.put, List.setIfInBounds_toArray, List.set_cons_zero, List.set_cons_succ, i64_w, i32_w]
                      rfl
                    refine pure_ (i := 30) (N := some 22) (v := ?_) (a' := ?_) #[true, true, true, true, true, true, true, true, true, true, true, true, true, true, true, true, true, true, true, true, true, true, true, true, true, true, true, true, true, true, true, false] rfl rfl (any_of HT_.out (by kernel_rfl)) (fun _ _ _ h => h) (Or.inl ⟨by rfl, ?_⟩) ?_ ?_
                    rotate_left
                    · intro w'
                      go_simp
                      with_reducible rfl
                    rotate_left
                    · simp only [Act.put, List.setIfInBounds_toArray, List.set_cons_zero, List.set_cons_succ, i64_w, i32_w]
                      rfl
                    refine pure_ (i := 31) (N := some 23) (v := ?_) (a' := ?_) #[true, true, true, true, true, true, true, true, true, true, true, true, true, true, true, true, true, true, true, true, true, true, true, true, true, true, true, true, true, true, true, true] rfl rfl (any_of HT_.out (by kernel_rfl)) (fun _ _ _ h => h) (Or.inl ⟨by rfl, ?_⟩) ?_ ?_
                    rotate_left
                    · intro w'
                      go_simp
                      with_reducible rfl
                    rotate_left
                    · simp only [Act.put, List.setIfInBounds_toArray, List.set_cons_zero, List.set_cons_succ, i64_w, i32_w]
                      rfl
                    refine done_ (done_of HT_.out (by kernel_rfl)) ?_
                    go_wp2
                    go_loopg [16, 17, 18, 19, 20, 21, 22, 23, 24] 65 (fun kq v16 v17 v18 v19 v20 v21 v22 v23 v24 w' => ∃ (a0 a1 a2 a3 a4 a5 a6 a7 : Int) (i : Nat), v16 = .int .u32 a0 ∧ v17 = .int .u32 a1 ∧ v18 = .int .u32 a2 ∧ v19 = .int .u32 a3 ∧ v20 = .int .u32 a4 ∧ v21 = .int .u32 a5 ∧ v22 = .int .u32 a6 ∧ v23 = .int .u32 a7 ∧ v24 = .int .i64 i ∧ Aside0 (i ≤ 64 ∧ 64 - i < kq) ∧ Aside0 (rounds sc [h0, h1, h2, h3, h4, h5, h6, h7] i = [a0, a1, a2, a3, a4, a5, a6, a7]) ∧ Aside0 (Below wd.heap.size wd w'))
                    case atStart => exact ⟨h0, h1, h2, h3, h4, h5, h6, h7, 0, rfl, rfl, rfl, rfl, rfl, rfl, rfl, rfl, rfl, ⟨by omega, by omega⟩, ⟨rfl⟩, ⟨hHeld⟩⟩
                    case round =>
                      obtain ⟨a0, a1, a2, a3, a4, a5, a6, a7, i, rfl, rfl, rfl, rfl, rfl, rfl, rfl, rfl, rfl, HJ2, HRD, HBD⟩ := hrel
                      cases gk with
                      | zero => exact absurd HJ2.out.2 (by omega)
                      | succ k5 =>
                        by_cases hi : i < 64
                        · have r1 : decide (i < 64) = true := decide_eq_true hi
                          have r2 : decide ((i : Int) < 64) = true := decide_eq_true (by omega)
                          obtain ⟨kk, xx, T1, U1, X1, Y1, hT, hU, hX, hY, hkk, hxx, hrow, hw⟩ := rd_facts (a0 := a0) (a1 := a1) (a2 := a2) (a3 := a3) (a4 := a4) (a5 := a5) (a6 := a6) (a7 := a7) HRD.out hi
                          have HCk : Aside0 (∀ w', Below wr.heap.size wr w' → w'.cell? (ak.add i) = some (.int .u32 kk)) := ⟨fun w' hw' => pw_cell_below hw' (by rw [hkk]; exact pw_cell_below HBD.out (HKC.out i hi))⟩
                          have HCw : Aside0 (∀ w', Below wr.heap.size wr w' → w'.cell? (aw.add i) = some (.int .u32 xx)) := ⟨fun w' hw' => pw_cell_below hw' (by rw [hxx]; exact pw_cell_below HBD.out (HWC.out i hi))⟩
                          have u1 := eq_true (show (0 : Int) ≤ (i : Int) from Int.natCast_nonneg i)
                          have u2 := eq_true (show (i : Int) < 64 from Int.ofNat_lt.2 hi)
                          have u3 := eq_true hi
                          have HROW := Aside0.mk hrow
                          have HW := Aside0.mk hw
                          have HI0 := Aside0.mk hi
                          clear hkk hxx hrow hw hi
                          go_wp2
                          refine start_any (n := 30) (S := fun w' => Below wr.heap.size wr w') (ds := []) #[false, false, false, false, false, false, false, false, false, false, false, false, false, false, false, false, false, false, false, false, false, false, false, false, false, false, false, false, false, false] (by kernel_rfl) rfl rfl (below_drew1 (Below.refl _ _)) (fun wy hHeld => ?_); refine with_tabW rf28.tab28 rf28.bits28 (fun HT_ HW_ => ?_)
                          have HWX := Aside0.mk hHeld
                          refine pure_ (i := 0) (N := some 142) (v := ?_) (a' := ?_) #[true, false, false, false, false, false, false, false, false, false, false, false, false, false, false, false, false, false, false, false, false, false, false, false, false, false, false, false, false, false] rfl rfl (any_of HT_.out (by kernel_rfl)) (fun _ _ _ h => h) (Or.inl ⟨by rfl, ?_⟩) ?_ ?_
                          rotate_left
                          · intro w'
                            go_simp
                            with_reducible rfl
                          rotate_left
                          · simp only [Act.put, List.setIfInBounds_toArray, List.set_cons_zero, List.set_cons_succ, i64_w, i32_w]
                            rfl
                          refine pure_ (i := 1) (N := some 143) (v := ?_) (a' := ?_) #[true, true, false, false, false, false, false, false, false, false, false, false, false, false, false, false, false, false, false, false, false, false, false, false, false, false, false, false, false, false] rfl rfl (any_of HT_.out (by kernel_rfl)) (fun _ _ _ h => h) (Or.inl ⟨by rfl, ?_⟩) ?_ ?_
                          rotate_left
                          · intro w'
                            go_simp
                            with_reducible rfl
                          rotate_left
                          · simp only [Act.put, List.setIfInBounds_toArray, List.set_cons_zero, List.set_cons_succ, i64_w, i32_w]
                            rfl
                          refine pure_ (i := 3) (N := some 145) (v := ?_) (a' := ?_) #[true, true, false, true, false, false, false, false, false, false, false, false, false, false, false, false, false, false, false, false, false, false, false, false, false, false, false, false, false, false] rfl rfl (any_of HT_.out (by kernel_rfl)) (fun _ _ _ h => h) (Or.inl ⟨by rfl, ?_⟩) ?_ ?_
                          rotate_left
                          · intro w'
                            go_simp
                            with_reducible rfl
                          rotate_left
                          · simp only [Act.put, List.setIfInBounds_toArray, List.set_cons_zero, List.set_cons_succ, i64_w, i32_w]
                            rfl
                          refine pure_ (i := 6) (N := some 148) (v := ?_) (a' := ?_) #[true, true, false, true, false, false, true, false, false, false, false, false, false, false, false, false, false, false, false, false, false, false, false, false, false, false, false, false, false, false] rfl rfl (any_of HT_.out (by kernel_rfl)) (fun _ _ _ h => h) (Or.inl ⟨by rfl, ?_⟩) ?_ ?_
                          rotate_left
                          · intro w'
                            go_simp
                            with_reducible rfl
                          rotate_left
                          · simp only [Act.put, List.setIfInBounds_toArray, List.set_cons_zero, List.set_cons_succ, i64_w, i32_w]
                            rfl
                          refine pure_ (i := 10) (N := some 152) (v := ?_) (a' := ?_) #[true, true, false, true, false, false, true, false, false, false, true, false, false, false, false, false, false, false, false, false, false, false, false, false, false, false, false, false, false, false] rfl rfl (any_of HT_.out (by kernel_rfl)) (fun _ _ _ h => h) (Or.inl ⟨by rfl, ?_⟩) ?_ ?_
                          rotate_left
                          · intro w'
                            go_simp
                            with_reducible rfl
                          rotate_left
                          · simp only [Act.put, List.setIfInBounds_toArray, List.set_cons_zero, List.set_cons_succ, i64_w, i32_w]
                            rfl
                          refine pure_ (i := 11) (N := some 153) (v := ?_) (a' := ?_) #[true, true, false, true, false, false, true, false, false, false, true, true, false, false, false, false, false, false, false, false, false, false, false, false, false, false, false, false, false, false] rfl rfl (any_of HT_.out (by kernel_rfl)) (fun _ _ _ h => h) (Or.inl ⟨by rfl, ?_⟩) ?_ ?_
                          rotate_left
                          · intro w'
                            go_simp
                            with_reducible rfl
                          rotate_left
                          · simp only [Act.put, List.setIfInBounds_toArray, List.set_cons_zero, List.set_cons_succ, i64_w, i32_w]
                            rfl
                          refine pure_ (i := 12) (N := some 154) (v := ?_) (a' := ?_) #[true, true, false, true, false, false, true, false, false, false, true, true, true, false, false, false, false, false, false, false, false, false, false, false, false, false, false, false, false, false] rfl rfl (any_of HT_.out (by kernel_rfl)) (fun _ _ _ h => h) (Or.inl ⟨by rfl, ?_⟩) ?_ ?_
                          rotate_left
                          · intro w'
                            go_simp
                            with_reducible rfl
                          rotate_left
                          · simp only [Act.put, List.setIfInBounds_toArray, List.set_cons_zero, List.set_cons_succ, i64_w, i32_w]
                            rfl
                          refine pure_ (i := 13) (N := some 155) (v := ?_) (a' := ?_) #[true, true, false, true, false, false, true, false, false, false, true, true, true, true, false, false, false, false, false, false, false, false, false, false, false, false, false, false, false, false] rfl rfl (any_of HT_.out (by kernel_rfl)) (fun _ _ _ h => h) (Or.inl ⟨by rfl, ?_⟩) ?_ ?_
                          rotate_left
                          · intro w'
                            go_simp
                            with_reducible rfl
                          rotate_left
                          · simp only [Act.put, List.setIfInBounds_toArray, List.set_cons_zero, List.set_cons_succ, i64_w, i32_w]
                            rfl
                          refine pure_ (i := 14) (N := some 156) (v := ?_) (a' := ?_) #[true, true, false, true, false, false, true, false, false, false, true, true, true, true, true, false, false, false, false, false, false, false, false, false, false, false, false, false, false, false] rfl rfl (any_of HT_.out (by kernel_rfl)) (fun _ _ _ h => h) (Or.inl ⟨by rfl, ?_⟩) ?_ ?_
                          rotate_left
                          · intro w'
                            go_simp
                            with_reducible rfl
                          rotate_left
                          · simp only [Act.put, List.setIfInBounds_toArray, List.set_cons_zero, List.set_cons_succ, i64_w, i32_w]
                            rfl
                          refine pure_ (i := 15) (N := some 157) (v := ?_) (a' := ?_) #[true, true, false, true, false, false, true, false, false, false, true, true, true, true, true, true, false, false, false, false, false, false, false, false, false, false, false, false, false, false] rfl rfl (any_of HT_.out (by kernel_rfl)) (fun _ _ _ h => h) (Or.inl ⟨by rfl, ?_⟩) ?_ ?_
                          rotate_left
                          · intro w'
                            go_simp
                            with_reducible rfl
                          rotate_left
                          · simp only [Act.put, List.setIfInBounds_toArray, List.set_cons_zero, List.set_cons_succ, i64_w, i32_w]
                            rfl
                          refine pure_ (i := 16) (N := some 158) (v := ?_) (a' := ?_) #[true, true, false, true, false, false, true, false, false, false, true, true, true, true, true, true, true, false, false, false, false, false, false, false, false, false, false, false, false, false] rfl rfl (any_of HT_.out (by kernel_rfl)) (fun _ _ _ h => h) (Or.inl ⟨by rfl, ?_⟩) ?_ ?_
                          rotate_left
                          · intro w'
                            go_simp
                            with_reducible rfl
                          rotate_left
                          · simp only [Act.put, List.setIfInBounds_toArray, List.set_cons_zero, List.set_cons_succ, i64_w, i32_w]
                            rfl
                          refine pure_ (i := 17) (N := some 159) (v := ?_) (a' := ?_) #[true, true, false, true, false, false, true, false, false, false, true, true, true, true, true, true, true, true, false, false, false, false, false, false, false, false, false, false, false, false] rfl rfl (any_of HT_.out (by kernel_rfl)) (fun _ _ _ h => h) (Or.inl ⟨by rfl, ?_⟩) ?_ ?_
                          rotate_left
                          · intro w'
                            go_simp
                            with_reducible rfl
                          rotate_left
                          · simp only [Act.put, List.setIfInBounds_toArray, List.set_cons_zero, List.set_cons_succ, i64_w, i32_w]
                            rfl
                          refine pure_ (i := 19) (N := some 161) (v := ?_) (a' := ?_) #[true, true, false, true, false, false, true, false, false, false, true, true, true, true, true, true, true, true, false, true, false, false, false, false, false, false, false, false, false, false] rfl rfl (any_of HT_.out (by kernel_rfl)) (fun _ _ _ h => h) (Or.inl ⟨by rfl, ?_⟩) ?_ ?_
                          rotate_left
                          · intro w'
                            go_simp
                            with_reducible rfl
                          rotate_left
                          · simp only [Act.put, List.setIfInBounds_toArray, List.set_cons_zero, List.set_cons_succ, i64_w, i32_w]
                            rfl
                          refine pure_ (i := 20) (N := some 162) (v := ?_) (a' := ?_) #[true, true, false, true, false, false, true, false, false, false, true, true, true, true, true, true, true, true, false, true, true, false, false, false, false, false, false, false, false, false] rfl rfl (any_of HT_.out (by kernel_rfl)) (fun _ _ _ h => h) (Or.inl ⟨by rfl, ?_⟩) ?_ ?_
                          rotate_left
                          · intro w'
                            go_simp
                            with_reducible rfl
                          rotate_left
                          · simp only [Act.put, List.setIfInBounds_toArray, List.set_cons_zero, List.set_cons_succ, i64_w, i32_w]
                            rfl
                          refine pure_ (i := 21) (N := some 163) (v := ?_) (a' := ?_) #[true, true, false, true, false, false, true, false, false, false, true, true, true, true, true, true, true, true, false, true, true, true, false, false, false, false, false, false, false, false] rfl rfl (any_of HT_.out (by kernel_rfl)) (fun _ _ _ h => h) (Or.inl ⟨by rfl, ?_⟩) ?_ ?_
                          rotate_left
                          · intro w'
                            go_simp
                            with_reducible rfl
                          rotate_left
                          · simp only [Act.put, List.setIfInBounds_toArray, List.set_cons_zero, List.set_cons_succ, i64_w, i32_w]
                            rfl
                          refine take_ (i := 22) (N := some 164) (v := ?_) (a' := ?_) #[true, true, false, true, false, false, true, false, false, false, true, true, true, true, true, true, true, true, false, true, true, true, true, false, false, false, false, false, false, false] rfl rfl (take_ofW HT_.out HW_.out (by kernel_rfl)) (fun _ _ _ h => h) (Or.inl ⟨by rfl, ?_⟩) hHeld ?_ ?_
                          rotate_left
                          · intro w' hw'
                            have hq := HCk.out w' hw'
                            go_simp
                            with_reducible rfl
                          rotate_left
                          · simp only [Act.put, List.setIfInBounds_toArray, List.set_cons_zero, List.set_cons_succ, i64_w, i32_w]
                            rfl
                          refine pure_ (i := 24) (N := some 166) (v := ?_) (a' := ?_) #[true, true, false, true, false, false, true, false, false, false, true, true, true, true, true, true, true, true, false, true, true, true, true, false, true, false, false, false, false, false] rfl rfl (any_of HT_.out (by kernel_rfl)) (fun _ _ _ h => h) (Or.inl ⟨by rfl, ?_⟩) ?_ ?_
                          rotate_left
                          · intro w'
                            go_simp
                            with_reducible rfl
                          rotate_left
                          · simp only [Act.put, List.setIfInBounds_toArray, List.set_cons_zero, List.set_cons_succ, i64_w, i32_w]
                            rfl
                          refine pure_ (i := 25) (N := some 167) (v := ?_) (a' := ?_) #[true, true, false, true, false, false, true, false, false, false, true, true, true, true, true, true, true, true, false, true, true, true, true, false, true, true, false, false, false, false] rfl rfl (any_of HT_.out (by kernel_rfl)) (fun _ _ _ h => h) (Or.inl ⟨by rfl, ?_⟩) ?_ ?_
                          rotate_left
                          · intro w'
                            go_simp
                            with_reducible rfl
                          rotate_left
                          · simp only [Act.put, List.setIfInBounds_toArray, List.set_cons_zero, List.set_cons_succ, i64_w, i32_w]
                            rfl
                          refine pure_ (i := 26) (N := some 168) (v := ?_) (a' := ?_) #[true, true, false, true, false, false, true, false, false, false, true, true, true, true, true, true, true, true, false, true, true, true, true, false, true, true, true, false, false, false] rfl rfl (any_of HT_.out (by kernel_rfl)) (fun _ _ _ h => h) (Or.inl ⟨by rfl, ?_⟩) ?_ ?_
                          rotate_left
                          · intro w'
                            go_simp
                            with_reducible rfl
                          rotate_left
                          · simp only [Act.put, List.setIfInBounds_toArray, List.set_cons_zero, List.set_cons_succ, i64_w, i32_w]
                            rfl
                          refine take_ (i := 27) (N := some 169) (v := ?_) (a' := ?_) #[true, true, false, true, false, false, true, false, false, false, true, true, true, true, true, true, true, true, false, true, true, true, true, false, true, true, true, true, false, false] rfl rfl (take_ofW HT_.out HW_.out (by kernel_rfl)) (fun _ _ _ h => h) (Or.inl ⟨by rfl, ?_⟩) hHeld ?_ ?_
                          rotate_left
                          · intro w' hw'
                            have hq := HCw.out w' hw'
                            go_simp
                            with_reducible rfl
                          rotate_left
                          · simp only [Act.put, List.setIfInBounds_toArray, List.set_cons_zero, List.set_cons_succ, i64_w, i32_w]
                            rfl
                          refine one_ (i := 2) (N := some 144) #[true, true, true, true, false, false, true, false, false, false, true, true, true, true, true, true, true, true, false, true, true, true, true, false, true, true, true, true, false, false] rfl rfl (one_of HT_.out (by kernel_rfl)) (by decide) (fun K hK => ?_)
                          refine goes_ Tryd.func16 (by kernel_rfl) rfl #[.int .u32 a4, .int .i64 6] (by rfl) rfl rfl (by (try simp only [List.map_toArray, List.map_cons, List.map_nil]); first | done | rfl) ?_
                          with_reducible refine (r_6 a4 _).mono ?_
                          rintro e x' ⟨rfl, hb⟩
                          refine ⟨_, rfl, ?_⟩
                          have n_ := Aside0.mk (HWX.out.trans (hb.mono HWX.out.size))
                          clear HWX
                          have HWX := n_
                          clear n_ hb
                          refine hK.out _ _ HWX.out (fun hHeld => ?_)
                          clear hK K
                          refine norm_ (a' := ?_) ?_ ?_
                          rotate_left
                          · show Act.put _ (some 144) _ = _
                            simp only [Act.put, List.setIfInBounds_toArray, List.set_cons_zero, List.set_cons_succ, i64_w, i32_w]
                            rfl
                          refine one_ (i := 4) (N := some 146) #[true, true, true, true, true, false, true, false, false, false, true, true, true, true, true, true, true, true, false, true, true, true, true, false, true, true, true, true, false, false] rfl rfl (one_of HT_.out (by kernel_rfl)) (by decide) (fun K hK => ?_)
                          refine goes_ Tryd.func16 (by kernel_rfl) rfl #[.int .u32 a4, .int .i64 11] (by rfl) rfl rfl (by (try simp only [List.map_toArray, List.map_cons, List.map_nil]); first | done | rfl) ?_
                          with_reducible refine (r_11 a4 _).mono ?_
                          rintro e x' ⟨rfl, hb⟩
                          refine ⟨_, rfl, ?_⟩
                          have n_ := Aside0.mk (HWX.out.trans (hb.mono HWX.out.size))
                          clear HWX
                          have HWX := n_
                          clear n_ hb
                          refine hK.out _ _ HWX.out (fun hHeld => ?_)
                          clear hK K
                          refine norm_ (a' := ?_) ?_ ?_
                          rotate_left
                          · show Act.put _ (some 146) _ = _
                            simp only [Act.put, List.setIfInBounds_toArray, List.set_cons_zero, List.set_cons_succ, i64_w, i32_w]
                            rfl
                          refine pure_ (i := 5) (N := some 147) (v := ?_) (a' := ?_) #[true, true, true, true, true, true, true, false, false, false, true, true, true, true, true, true, true, true, false, true, true, true, true, false, true, true, true, true, false, false] rfl rfl (any_of HT_.out (by kernel_rfl)) (fun _ _ _ h => h) (Or.inl ⟨by rfl, ?_⟩) ?_ ?_
                          rotate_left
                          · intro w'
                            go_simp
                            with_reducible rfl
                          rotate_left
                          · simp only [Act.put, List.setIfInBounds_toArray, List.set_cons_zero, List.set_cons_succ, i64_w, i32_w]
                            rfl
                          refine one_ (i := 7) (N := some 149) #[true, true, true, true, true, true, true, true, false, false, true, true, true, true, true, true, true, true, false, true, true, true, true, false, true, true, true, true, false, false] rfl rfl (one_of HT_.out (by kernel_rfl)) (by decide) (fun K hK => ?_)
                          refine goes_ Tryd.func16 (by kernel_rfl) rfl #[.int .u32 a4, .int .i64 25] (by rfl) rfl rfl (by (try simp only [List.map_toArray, List.map_cons, List.map_nil]); first | done | rfl) ?_
                          with_reducible refine (r_25 a4 _).mono ?_
                          rintro e x' ⟨rfl, hb⟩
                          refine ⟨_, rfl, ?_⟩
                          have n_ := Aside0.mk (HWX.out.trans (hb.mono HWX.out.size))
                          clear HWX
                          have HWX := n_
                          clear n_ hb
                          refine hK.out _ _ HWX.out (fun hHeld => ?_)
                          clear hK K
                          refine norm_ (a' := ?_) ?_ ?_
                          rotate_left
                          · show Act.put _ (some 149) _ = _
                            simp only [Act.put, List.setIfInBounds_toArray, List.set_cons_zero, List.set_cons_succ, i64_w, i32_w]
                            rfl
                          refine pure_ (i := 8) (N := some 150) (v := ?_) (a' := ?_) #[true, true, true, true, true, true, true, true, true, false, true, true, true, true, true, true, true, true, false, true, true, true, true, false, true, true, true, true, false, false] rfl rfl (any_of HT_.out (by kernel_rfl)) (fun _ _ _ h => h) (Or.inl ⟨by rfl, ?_⟩) ?_ ?_
                          rotate_left
                          · intro w'
                            go_simp
                            with_reducible rfl
                          rotate_left
                          · simp only [Act.put, List.setIfInBounds_toArray, List.set_cons_zero, List.set_cons_succ, i64_w, i32_w]
                            rfl
                          refine pure_ (i := 9) (N := some 151) (v := ?_) (a' := ?_) #[true, true, true, true, true, true, true, true, true, true, true, true, true, true, true, true, true, true, false, true, true, true, true, false, true, true, true, true, false, false] rfl rfl (any_of HT_.out (by kernel_rfl)) (fun _ _ _ h => h) (Or.inl ⟨by rfl, ?_⟩) ?_ ?_
                          rotate_left
                          · intro w'
                            go_simp
                            with_reducible rfl
                          rotate_left
                          · simp only [Act.put, List.setIfInBounds_toArray, List.set_cons_zero, List.set_cons_succ, i64_w, i32_w]
                            rfl
                          refine pure_ (i := 18) (N := some 160) (v := ?_) (a' := ?_) #[true, true, true, true, true, true, true, true, true, true, true, true, true, true, true, true, true, true, true, true, true, true, true, false, true, true, true, true, false, false] rfl rfl (any_of HT_.out (by kernel_rfl)) (fun _ _ _ h => h) (Or.inl ⟨by rfl, ?_⟩) ?_ ?_
                          rotate_left
                          · intro w'
                            go_simp
                            with_reducible rfl
                          rotate_left
                          · simp only [Act.put, List.setIfInBounds_toArray, List.set_cons_zero, List.set_cons_succ, i64_w, i32_w]
                            rfl
                          refine pure_ (i := 23) (N := some 165) (v := ?_) (a' := ?_) #[true, true, true, true, true, true, true, true, true, true, true, true, true, true, true, true, true, true, true, true, true, true, true, true, true, true, true, true, false, false] rfl rfl (any_of HT_.out (by kernel_rfl)) (fun _ _ _ h => h) (Or.inl ⟨by rfl, ?_⟩) ?_ ?_
                          rotate_left
                          · intro w'
                            go_simp
                            with_reducible rfl
                          rotate_left
                          · simp only [Act.put, List.setIfInBounds_toArray, List.set_cons_zero, List.set_cons_succ, i64_w, i32_w]
                            rfl
                          refine pure_ (i := 28) (N := some 170) (v := ?_) (a' := ?_) #[true, true, true, true, true, true, true, true, true, true, true, true, true, true, true, true, true, true, true, true, true, true, true, true, true, true, true, true, true, false] rfl rfl (any_of HT_.out (by kernel_rfl)) (fun _ _ _ h => h) (Or.inl ⟨by rfl, ?_⟩) ?_ ?_
                          rotate_left
                          · intro w'
                            go_simp
                            with_reducible rfl
                          rotate_left
                          · simp only [Act.put, List.setIfInBounds_toArray, List.set_cons_zero, List.set_cons_succ, i64_w, i32_w]
                            rfl
                          refine pure_ (i := 29) (N := some 25) (v := ?_) (a' := ?_) #[true, true, true, true, true, true, true, true, true, true, true, true, true, true, true, true, true, true, true, true, true, true, true, true, true, true, true, true, true, true] rfl rfl (any_of HT_.out (by kernel_rfl)) (fun _ _ _ h => h) (Or.inl ⟨by rfl, ?_⟩) ?_ ?_
                          rotate_left
                          · intro w'
                            go_simp
                            with_reducible rfl
                          rotate_left
                          · simp only [Act.put, List.setIfInBounds_toArray, List.set_cons_zero, List.set_cons_succ, i64_w, i32_w]
                            rfl
                          refine done_ (done_of HT_.out (by kernel_rfl)) ?_
                          have HWX2 := Aside0.mk hHeld
                          clear HWX
                          have HWX := HWX2
                          clear HWX2
                          go_wp2_with (first | (go_at_call 16; (with_reducible refine (r_2 a0 _).mono ?_); rintro e x' ⟨rfl, hb⟩; have n_ := Aside0.mk (HWX.out.trans (hb.mono HWX.out.size)); clear HWX; have HWX := n_; clear n_ hb) | (go_at_call 16; (with_reducible refine (r_13 a0 _).mono ?_); rintro e x' ⟨rfl, hb⟩; have n_ := Aside0.mk (HWX.out.trans (hb.mono HWX.out.size)); clear HWX; have HWX := n_; clear n_ hb) | (go_at_call 16; (with_reducible refine (r_22 a0 _).mono ?_); rintro e x' ⟨rfl, hb⟩; have n_ := Aside0.mk (HWX.out.trans (hb.mono HWX.out.size)); clear HWX; have HWX := n_; clear n_ hb))
                          go_roundg k5
                          case measure => have := HJ2.out; have := HI0.out; omega
                          case rel => exact ⟨Y1, a0, a1, a2, X1, a4, a5, a6, i + 1, (by first | rfl | (rw [← hY, ← hT, nest_y])), rfl, rfl, rfl, (by first | rfl | (rw [← hX, ← hT, nest_x])), rfl, rfl, rfl, (by first | rw [HW.out] | (push_cast; rfl)), ⟨by have := HI0.out; omega, by have := HJ2.out; have := HI0.out; omega⟩, ⟨HROW.out⟩, ⟨HBD.out.trans (HWX.out.mono HBD.out.size)⟩⟩
                        · have ei : i = 64 := by have := HJ2.out; omega
                          subst ei
                          clear hi
                          obtain ⟨z0, hz0⟩ : ∃ z, z = add32 h0 a0 := ⟨_, rfl⟩
                          obtain ⟨z1, hz1⟩ : ∃ z, z = add32 h1 a1 := ⟨_, rfl⟩
                          obtain ⟨z2, hz2⟩ : ∃ z, z = add32 h2 a2 := ⟨_, rfl⟩
                          obtain ⟨z3, hz3⟩ : ∃ z, z = add32 h3 a3 := ⟨_, rfl⟩
                          obtain ⟨z4, hz4⟩ : ∃ z, z = add32 h4 a4 := ⟨_, rfl⟩
                          obtain ⟨z5, hz5⟩ : ∃ z, z = add32 h5 a5 := ⟨_, rfl⟩
                          obtain ⟨z6, hz6⟩ : ∃ z, z = add32 h6 a6 := ⟨_, rfl⟩
                          obtain ⟨z7, hz7⟩ : ∃ z, z = add32 h7 a7 := ⟨_, rfl⟩
                          have hq0 := (Mix.wrap_add h0 a0).trans hz0.symm
                          have hq1 := (Mix.wrap_add h1 a1).trans hz1.symm
                          have hq2 := (Mix.wrap_add h2 a2).trans hz2.symm
                          have hq3 := (Mix.wrap_add h3 a3).trans hz3.symm
                          have hq4 := (Mix.wrap_add h4 a4).trans hz4.symm
                          have hq5 := (Mix.wrap_add h5 a5).trans hz5.symm
                          have hq6 := (Mix.wrap_add h6 a6).trans hz6.symm
                          have hq7 := (Mix.wrap_add h7 a7).trans hz7.symm
                          have HCMP : Aside0 ([z0, z1, z2, z3, z4, z5, z6, z7] = (eat (t + 1) Eat.h0L al).1) := ⟨by rw [hz0, hz1, hz2, hz3, hz4, hz5, hz6, hz7]; exact cmp_eq HHE.out HBD0.out HSC.out HRD.out⟩
                          clear hz0 hz1 hz2 hz3 hz4 hz5 hz6 hz7
                          have hw : wrap64 (64 * (t : Int) + 64) = 64 * ((t + 1 : Nat) : Int) := at_next t (Nat.lt_trans HTT.out HTL.out)
                          have HW := Aside0.mk hw
                          clear hw
                          go_wp2
                          refine start_any (n := 42) (S := fun w' => Below wr.heap.size wr w') (ds := []) #[false, false, false, false, false, false, false, false, false, false, false, false, false, false, false, false, false, false, false, false, false, false, false, false, false, false, false, false, false, false, false, false, false, false, false, false, false, false, false, false, false, false] (by kernel_rfl) rfl rfl (below_drew1 (Below.refl _ _)) (fun wx hHeld => ?_); refine with_tabW rf31.tab31 rf31.bits31 (fun HT_ HW_ => ?_)
                          have HWX := Aside0.mk hHeld
                          refine pure_ (i := 0) (N := some 203) (v := ?_) (a' := ?_) #[true, false, false, false, false, false, false, false, false, false, false, false, false, false, false, false, false, false, false, false, false, false, false, false, false, false, false, false, false, false, false, false, false, false, false, false, false, false, false, false, false, false] rfl rfl (any_of HT_.out (by kernel_rfl)) (fun _ _ _ h => h) (Or.inl ⟨by rfl, ?_⟩) ?_ ?_
                          rotate_left
                          · intro w'
                            go_simp
                            with_reducible rfl
                          rotate_left
                          · simp only [Act.put, List.setIfInBounds_toArray, List.set_cons_zero, List.set_cons_succ, i64_w, i32_w]
                            rfl
                          refine pure_ (i := 1) (N := some 204) (v := ?_) (a' := ?_) #[true, true, false, false, false, false, false, false, false, false, false, false, false, false, false, false, false, false, false, false, false, false, false, false, false, false, false, false, false, false, false, false, false, false, false, false, false, false, false, false, false, false] rfl rfl (any_of HT_.out (by kernel_rfl)) (fun _ _ _ h => h) (Or.inl ⟨by rfl, ?_⟩) ?_ ?_
                          rotate_left
                          · intro w'
                            go_simp
                            with_reducible rfl
                          rotate_left
                          · simp only [Act.put, List.setIfInBounds_toArray, List.set_cons_zero, List.set_cons_succ, i64_w, i32_w]
                            rfl
                          refine take_ (i := 2) (N := some 205) (v := ?_) (a' := ?_) #[true, true, true, false, false, false, false, false, false, false, false, false, false, false, false, false, false, false, false, false, false, false, false, false, false, false, false, false, false, false, false, false, false, false, false, false, false, false, false, false, false, false] rfl rfl (take_ofW HT_.out HW_.out (by kernel_rfl)) (fun _ _ _ h => h) (Or.inl ⟨by rfl, ?_⟩) hHeld ?_ ?_
                          rotate_left
                          · intro w' hw'
                            have hq := HZ0.out w' (below_step HBD.out hw')
                            go_simp
                            with_reducible rfl
                          rotate_left
                          · simp only [Act.put, List.setIfInBounds_toArray, List.set_cons_zero, List.set_cons_succ, i64_w, i32_w]
                            rfl
                          refine pure_ (i := 3) (N := some 206) (v := ?_) (a' := ?_) #[true, true, true, true, false, false, false, false, false, false, false, false, false, false, false, false, false, false, false, false, false, false, false, false, false, false, false, false, false, false, false, false, false, false, false, false, false, false, false, false, false, false] rfl rfl (any_of HT_.out (by kernel_rfl)) (fun _ _ _ h => h) (Or.inl ⟨by rfl, ?_⟩) ?_ ?_
                          rotate_left
                          · intro w'
                            go_simp
                            with_reducible rfl
                          rotate_left
                          · simp only [Act.put, List.setIfInBounds_toArray, List.set_cons_zero, List.set_cons_succ, i64_w, i32_w]
                            rfl
                          refine pure_ (i := 4) (N := some 207) (v := ?_) (a' := ?_) #[true, true, true, true, true, false, false, false, false, false, false, false, false, false, false, false, false, false, false, false, false, false, false, false, false, false, false, false, false, false, false, false, false, false, false, false, false, false, false, false, false, false] rfl rfl (any_of HT_.out (by kernel_rfl)) (fun _ _ _ h => h) (Or.inl ⟨by rfl, ?_⟩) ?_ ?_
                          rotate_left
                          · intro w'
                            go_simp
                            with_reducible rfl
                          rotate_left
                          · simp only [Act.put, List.setIfInBounds_toArray, List.set_cons_zero, List.set_cons_succ, i64_w, i32_w]
                            rfl
                          refine pure_ (i := 5) (N := some 208) (v := ?_) (a' := ?_) #[true, true, true, true, true, true, false, false, false, false, false, false, false, false, false, false, false, false, false, false, false, false, false, false, false, false, false, false, false, false, false, false, false, false, false, false, false, false, false, false, false, false] rfl rfl (any_of HT_.out (by kernel_rfl)) (fun _ _ _ h => h) (Or.inl ⟨by rfl, ?_⟩) ?_ ?_
                          rotate_left
                          · intro w'
                            go_simp
                            with_reducible rfl
                          rotate_left
                          · simp only [Act.put, List.setIfInBounds_toArray, List.set_cons_zero, List.set_cons_succ, i64_w, i32_w]
                            rfl
                          refine pure_ (i := 6) (N := some 209) (v := ?_) (a' := ?_) #[true, true, true, true, true, true, true, false, false, false, false, false, false, false, false, false, false, false, false, false, false, false, false, false, false, false, false, false, false, false, false, false, false, false, false, false, false, false, false, false, false, false] rfl rfl (any_of HT_.out (by kernel_rfl)) (fun _ _ _ h => h) (Or.inl ⟨by rfl, ?_⟩) ?_ ?_
                          rotate_left
                          · intro w'
                            go_simp
                            with_reducible rfl
                          rotate_left
                          · simp only [Act.put, List.setIfInBounds_toArray, List.set_cons_zero, List.set_cons_succ, i64_w, i32_w]
                            rfl
                          refine take_ (i := 7) (N := some 210) (v := ?_) (a' := ?_) #[true, true, true, true, true, true, true, true, false, false, false, false, false, false, false, false, false, false, false, false, false, false, false, false, false, false, false, false, false, false, false, false, false, false, false, false, false, false, false, false, false, false] rfl rfl (take_ofW HT_.out HW_.out (by kernel_rfl)) (fun _ _ _ h => h) (Or.inl ⟨by rfl, ?_⟩) hHeld ?_ ?_
                          rotate_left
                          · intro w' hw'
                            have hq := HZ1.out w' (below_step HBD.out hw')
                            go_simp
                            with_reducible rfl
                          rotate_left
                          · simp only [Act.put, List.setIfInBounds_toArray, List.set_cons_zero, List.set_cons_succ, i64_w, i32_w]
                            rfl
                          refine pure_ (i := 8) (N := some 211) (v := ?_) (a' := ?_) #[true, true, true, true, true, true, true, true, true, false, false, false, false, false, false, false, false, false, false, false, false, false, false, false, false, false, false, false, false, false, false, false, false, false, false, false, false, false, false, false, false, false] rfl rfl (any_of HT_.out (by kernel_rfl)) (fun _ _ _ h => h) (Or.inl ⟨by rfl, ?_⟩) ?_ ?_
                          rotate_left
                          · intro w'
                            go_simp
                            with_reducible rfl
                          rotate_left
                          · simp only [Act.put, List.setIfInBounds_toArray, List.set_cons_zero, List.set_cons_succ, i64_w, i32_w]
                            rfl
                          refine pure_ (i := 9) (N := some 212) (v := ?_) (a' := ?_) #[true, true, true, true, true, true, true, true, true, true, false, false, false, false, false, false, false, false, false, false, false, false, false, false, false, false, false, false, false, false, false, false, false, false, false, false, false, false, false, false, false, false] rfl rfl (any_of HT_.out (by kernel_rfl)) (fun _ _ _ h => h) (Or.inl ⟨by rfl, ?_⟩) ?_ ?_
                          rotate_left
                          · intro w'
                            go_simp
                            with_reducible rfl
                          rotate_left
                          · simp only [Act.put, List.setIfInBounds_toArray, List.set_cons_zero, List.set_cons_succ, i64_w, i32_w]
                            rfl
                          refine pure_ (i := 10) (N := some 213) (v := ?_) (a' := ?_) #[true, true, true, true, true, true, true, true, true, true, true, false, false, false, false, false, false, false, false, false, false, false, false, false, false, false, false, false, false, false, false, false, false, false, false, false, false, false, false, false, false, false] rfl rfl (any_of HT_.out (by kernel_rfl)) (fun _ _ _ h => h) (Or.inl ⟨by rfl, ?_⟩) ?_ ?_
                          rotate_left
                          · intro w'
                            go_simp
                            with_reducible rfl
                          rotate_left
                          · simp only [Act.put, List.setIfInBounds_toArray, List.set_cons_zero, List.set_cons_succ, i64_w, i32_w]
                            rfl
                          refine pure_ (i := 11) (N := some 214) (v := ?_) (a' := ?_) #[true, true, true, true, true, true, true, true, true, true, true, true, false, false, false, false, false, false, false, false, false, false, false, false, false, false, false, false, false, false, false, false, false, false, false, false, false, false, false, false, false, false] rfl rfl (any_of HT_.out (by kernel_rfl)) (fun _ _ _ h => h) (Or.inl ⟨by rfl, ?_⟩) ?_ ?_
                          rotate_left
                          · intro w'
                            go_simp
                            with_reducible rfl
                          rotate_left
                          · simp only [Act.put, List.setIfInBounds_toArray, List.set_cons_zero, List.set_cons_succ, i64_w, i32_w]
                            rfl
                          refine take_ (i := 12) (N := some 215) (v := ?_) (a' := ?_) #[true, true, true, true, true, true, true, true, true, true, true, true, true, false, false, false, false, false, false, false, false, false, false, false, false, false, false, false, false, false, false, false, false, false, false, false, false, false, false, false, false, false] rfl rfl (take_ofW HT_.out HW_.out (by kernel_rfl)) (fun _ _ _ h => h) (Or.inl ⟨by rfl, ?_⟩) hHeld ?_ ?_
                          rotate_left
                          · intro w' hw'
                            have hq := HZ2.out w' (below_step HBD.out hw')
                            go_simp
                            with_reducible rfl
                          rotate_left
                          · simp only [Act.put, List.setIfInBounds_toArray, List.set_cons_zero, List.set_cons_succ, i64_w, i32_w]
                            rfl
                          refine pure_ (i := 13) (N := some 216) (v := ?_) (a' := ?_) #[true, true, true, true, true, true, true, true, true, true, true, true, true, true, false, false, false, false, false, false, false, false, false, false, false, false, false, false, false, false, false, false, false, false, false, false, false, false, false, false, false, false] rfl rfl (any_of HT_.out (by kernel_rfl)) (fun _ _ _ h => h) (Or.inl ⟨by rfl, ?_⟩) ?_ ?_
                          rotate_left
                          · intro w'
                            go_simp
                            with_reducible rfl
                          rotate_left
                          · simp only [Act.put, List.setIfInBounds_toArray, List.set_cons_zero, List.set_cons_succ, i64_w, i32_w]
                            rfl
                          refine pure_ (i := 14) (N := some 217) (v := ?_) (a' := ?_) #[true, true, true, true, true, true, true, true, true, true, true, true, true, true, true, false, false, false, false, false, false, false, false, false, false, false, false, false, false, false, false, false, false, false, false, false, false, false, false, false, false, false] rfl rfl (any_of HT_.out (by kernel_rfl)) (fun _ _ _ h => h) (Or.inl ⟨by rfl, ?_⟩) ?_ ?_
                          rotate_left
                          · intro w'
                            go_simp
                            with_reducible rfl
                          rotate_left
                          · simp only [Act.put, List.setIfInBounds_toArray, List.set_cons_zero, List.set_cons_succ, i64_w, i32_w]
                            rfl
                          refine pure_ (i := 15) (N := some 218) (v := ?_) (a' := ?_) #[true, true, true, true, true, true, true, true, true, true, true, true, true, true, true, true, false, false, false, false, false, false, false, false, false, false, false, false, false, false, false, false, false, false, false, false, false, false, false, false, false, false] rfl rfl (any_of HT_.out (by kernel_rfl)) (fun _ _ _ h => h) (Or.inl ⟨by rfl, ?_⟩) ?_ ?_
                          rotate_left
                          · intro w'
                            go_simp
                            with_reducible rfl
                          rotate_left
                          · simp only [Act.put, List.setIfInBounds_toArray, List.set_cons_zero, List.set_cons_succ, i64_w, i32_w]
                            rfl
                          refine pure_ (i := 16) (N := some 219) (v := ?_) (a' := ?_) #[true, true, true, true, true, true, true, true, true, true, true, true, true, true, true, true, true, false, false, false, false, false, false, false, false, false, false, false, false, false, false, false, false, false, false, false, false, false, false, false, false, false] rfl rfl (any_of HT_.out (by kernel_rfl)) (fun _ _ _ h => h) (Or.inl ⟨by rfl, ?_⟩) ?_ ?_
                          rotate_left
                          · intro w'
                            go_simp
                            with_reducible rfl
                          rotate_left
                          · simp only [Act.put, List.setIfInBounds_toArray, List.set_cons_zero, List.set_cons_succ, i64_w, i32_w]
                            rfl
                          refine take_ (i := 17) (N := some 220) (v := ?_) (a' := ?_) #[true, true, true, true, true, true, true, true, true, true, true, true, true, true, true, true, true, true, false, false, false, false, false, false, false, false, false, false, false, false, false, false, false, false, false, false, false, false, false, false, false, false] rfl rfl (take_ofW HT_.out HW_.out (by kernel_rfl)) (fun _ _ _ h => h) (Or.inl ⟨by rfl, ?_⟩) hHeld ?_ ?_
                          rotate_left
                          · intro w' hw'
                            have hq := HZ3.out w' (below_step HBD.out hw')
                            go_simp
                            with_reducible rfl
                          rotate_left
                          · simp only [Act.put, List.setIfInBounds_toArray, List.set_cons_zero, List.set_cons_succ, i64_w, i32_w]
                            rfl
                          refine pure_ (i := 18) (N := some 221) (v := ?_) (a' := ?_) #[true, true, true, true, true, true, true, true, true, true, true, true, true, true, true, true, true, true, true, false, false, false, false, false, false, false, false, false, false, false, false, false, false, false, false, false, false, false, false, false, false, false] rfl rfl (any_of HT_.out (by kernel_rfl)) (fun _ _ _ h => h) (Or.inl ⟨by rfl, ?_⟩) ?_ ?_
                          rotate_left
                          · intro w'
                            go_simp
                            with_reducible rfl
                          rotate_left
                          · simp only [Act.put, List.setIfInBounds_toArray, List.set_cons_zero, List.set_cons_succ, i64_w, i32_w]
                            rfl
                          refine pure_ (i := 19) (N := some 222) (v := ?_) (a' := ?_) #[true, true, true, true, true, true, true, true, true, true, true, true, true, true, true, true, true, true, true, true, false, false, false, false, false, false, false, false, false, false, false, false, false, false, false, false, false, false, false, false, false, false] rfl rfl (any_of HT_.out (by kernel_rfl)) (fun _ _ _ h => h) (Or.inl ⟨by rfl, ?_⟩) ?_ ?_
                          rotate_left
                          · intro w'
                            go_simp
                            with_reducible rfl
                          rotate_left
                          · simp only [Act.put, List.setIfInBounds_toArray, List.set_cons_zero, List.set_cons_succ, i64_w, i32_w]
                            rfl
                          refine pure_ (i := 20) (N := some 223) (v := ?_) (a' := ?_) #[true, true, true, true, true, true, true, true, true, true, true, true, true, true, true, true, true, true, true, true, true, false, false, false, false, false, false, false, false, false, false, false, false, false, false, false, false, false, false, false, false, false] rfl rfl (any_of HT_.out (by kernel_rfl)) (fun _ _ _ h => h) (Or.inl ⟨by rfl, ?_⟩) ?_ ?_
                          rotate_left
                          · intro w'
                            go_simp
                            with_reducible rfl
                          rotate_left
                          · simp only [Act.put, List.setIfInBounds_toArray, List.set_cons_zero, List.set_cons_succ, i64_w, i32_w]
                            rfl
                          refine pure_ (i := 21) (N := some 224) (v := ?_) (a' := ?_) #[true, true, true, true, true, true, true, true, true, true, true, true, true, true, true, true, true, true, true, true, true, true, false, false, false, false, false, false, false, false, false, false, false, false, false, false, false, false, false, false, false, false] rfl rfl (any_of HT_.out (by kernel_rfl)) (fun _ _ _ h => h) (Or.inl ⟨by rfl, ?_⟩) ?_ ?_
                          rotate_left
                          · intro w'
                            go_simp
                            with_reducible rfl
                          rotate_left
                          · simp only [Act.put, List.setIfInBounds_toArray, List.set_cons_zero, List.set_cons_succ, i64_w, i32_w]
                            rfl
                          refine take_ (i := 22) (N := some 225) (v := ?_) (a' := ?_) #[true, true, true, true, true, true, true, true, true, true, true, true, true, true, true, true, true, true, true, true, true, true, true, false, false, false, false, false, false, false, false, false, false, false, false, false, false, false, false, false, false, false] rfl rfl (take_ofW HT_.out HW_.out (by kernel_rfl)) (fun _ _ _ h => h) (Or.inl ⟨by rfl, ?_⟩) hHeld ?_ ?_
                          rotate_left
                          · intro w' hw'
                            have hq := HZ4.out w' (below_step HBD.out hw')
                            go_simp
                            with_reducible rfl
                          rotate_left
                          · simp only [Act.put, List.setIfInBounds_toArray, List.set_cons_zero, List.set_cons_succ, i64_w, i32_w]
                            rfl
                          refine pure_ (i := 23) (N := some 226) (v := ?_) (a' := ?_) #[true, true, true, true, true, true, true, true, true, true, true, true, true, true, true, true, true, true, true, true, true, true, true, true, false, false, false, false, false, false, false, false, false, false, false, false, false, false, false, false, false, false] rfl rfl (any_of HT_.out (by kernel_rfl)) (fun _ _ _ h => h) (Or.inl ⟨by rfl, ?_⟩) ?_ ?_
                          rotate_left
                          · intro w'
                            go_simp
                            with_reducible rfl
                          rotate_left
                          · simp only [Act.put, List.setIfInBounds_toArray, List.set_cons_zero, List.set_cons_succ, i64_w, i32_w]
                            rfl
                          refine pure_ (i := 24) (N := some 227) (v := ?_) (a' := ?_) #[true, true, true, true, true, true, true, true, true, true, true, true, true, true, true, true, true, true, true, true, true, true, true, true, true, false, false, false, false, false, false, false, false, false, false, false, false, false, false, false, false, false] rfl rfl (any_of HT_.out (by kernel_rfl)) (fun _ _ _ h => h) (Or.inl ⟨by rfl, ?_⟩) ?_ ?_
                          rotate_left
                          · intro w'
                            go_simp
                            with_reducible rfl
                          rotate_left
                          · simp only [Act.put, List.setIfInBounds_toArray, List.set_cons_zero, List.set_cons_succ, i64_w, i32_w]
                            rfl
                          refine pure_ (i := 25) (N := some 228) (v := ?_) (a' := ?_) #[true, true, true, true, true, true, true, true, true, true, true, true, true, true, true, true, true, true, true, true, true, true, true, true, true, true, false, false, false, false, false, false, false, false, false, false, false, false, false, false, false, false] rfl rfl (any_of HT_.out (by kernel_rfl)) (fun _ _ _ h => h) (Or.inl ⟨by rfl, ?_⟩) ?_ ?_
                          rotate_left
                          · intro w'
                            go_simp
                            with_reducible rfl
                          rotate_left
                          · simp only [Act.put, List.setIfInBounds_toArray, List.set_cons_zero, List.set_cons_succ, i64_w, i32_w]
                            rfl
                          refine pure_ (i := 26) (N := some 229) (v := ?_) (a' := ?_) #[true, true, true, true, true, true, true, true, true, true, true, true, true, true, true, true, true, true, true, true, true, true, true, true, true, true, true, false, false, false, false, false, false, false, false, false, false, false, false, false, false, false] rfl rfl (any_of HT_.out (by kernel_rfl)) (fun _ _ _ h => h) (Or.inl ⟨by rfl, ?_⟩) ?_ ?_
                          rotate_left
                          · intro w'
                            go_simp
                            with_reducible rfl
                          rotate_left
                          · simp only [Act.put, List.setIfInBounds_toArray, List.set_cons_zero, List.set_cons_succ, i64_w, i32_w]
                            rfl
                          refine take_ (i := 27) (N := some 230) (v := ?_) (a' := ?_) #[true, true, true, true, true, true, true, true, true, true, true, true, true, true, true, true, true, true, true, true, true, true, true, true, true, true, true, true, false, false, false, false, false, false, false, false, false, false, false, false, false, false] rfl rfl (take_ofW HT_.out HW_.out (by kernel_rfl)) (fun _ _ _ h => h) (Or.inl ⟨by rfl, ?_⟩) hHeld ?_ ?_
                          rotate_left
                          · intro w' hw'
                            have hq := HZ5.out w' (below_step HBD.out hw')
                            go_simp
                            with_reducible rfl
                          rotate_left
                          · simp only [Act.put, List.setIfInBounds_toArray, List.set_cons_zero, List.set_cons_succ, i64_w, i32_w]
                            rfl
                          refine pure_ (i := 28) (N := some 231) (v := ?_) (a' := ?_) #[true, true, true, true, true, true, true, true, true, true, true, true, true, true, true, true, true, true, true, true, true, true, true, true, true, true, true, true, true, false, false, false, false, false, false, false, false, false, false, false, false, false] rfl rfl (any_of HT_.out (by kernel_rfl)) (fun _ _ _ h => h) (Or.inl ⟨by rfl, ?_⟩) ?_ ?_
                          rotate_left
                          · intro w'
                            go_simp
                            with_reducible rfl
                          rotate_left
                          · simp only [Act.put, List.setIfInBounds_toArray, List.set_cons_zero, List.set_cons_succ, i64_w, i32_w]
                            rfl
                          refine pure_ (i := 29) (N := some 232) (v := ?_) (a' := ?_) #[true, true, true, true, true, true, true, true, true, true, true, true, true, true, true, true, true, true, true, true, true, true, true, true, true, true, true, true, true, true, false, false, false, false, false, false, false, false, false, false, false, false] rfl rfl (any_of HT_.out (by kernel_rfl)) (fun _ _ _ h => h) (Or.inl ⟨by rfl, ?_⟩) ?_ ?_
                          rotate_left
                          · intro w'
                            go_simp
                            with_reducible rfl
                          rotate_left
                          · simp only [Act.put, List.setIfInBounds_toArray, List.set_cons_zero, List.set_cons_succ, i64_w, i32_w]
                            rfl
                          refine pure_ (i := 30) (N := some 233) (v := ?_) (a' := ?_) #[true, true, true, true, true, true, true, true, true, true, true, true, true, true, true, true, true, true, true, true, true, true, true, true, true, true, true, true, true, true, true, false, false, false, false, false, false, false, false, false, false, false] rfl rfl (any_of HT_.out (by kernel_rfl)) (fun _ _ _ h => h) (Or.inl ⟨by rfl, ?_⟩) ?_ ?_
                          rotate_left
                          · intro w'
                            go_simp
                            with_reducible rfl
                          rotate_left
                          · simp only [Act.put, List.setIfInBounds_toArray, List.set_cons_zero, List.set_cons_succ, i64_w, i32_w]
                            rfl
                          refine pure_ (i := 31) (N := some 234) (v := ?_) (a' := ?_) #[true, true, true, true, true, true, true, true, true, true, true, true, true, true, true, true, true, true, true, true, true, true, true, true, true, true, true, true, true, true, true, true, false, false, false, false, false, false, false, false, false, false] rfl rfl (any_of HT_.out (by kernel_rfl)) (fun _ _ _ h => h) (Or.inl ⟨by rfl, ?_⟩) ?_ ?_
                          rotate_left
                          · intro w'
                            go_simp
                            with_reducible rfl
                          rotate_left
                          · simp only [Act.put, List.setIfInBounds_toArray, List.set_cons_zero, List.set_cons_succ, i64_w, i32_w]
                            rfl
                          refine take_ (i := 32) (N := some 235) (v := ?_) (a' := ?_) #[true, true, true, true, true, true, true, true, true, true, true, true, true, true, true, true, true, true, true, true, true, true, true, true, true, true, true, true, true, true, true, true, true, false, false, false, false, false, false, false, false, false] rfl rfl (take_ofW HT_.out HW_.out (by kernel_rfl)) (fun _ _ _ h => h) (Or.inl ⟨by rfl, ?_⟩) hHeld ?_ ?_
                          rotate_left
                          · intro w' hw'
                            have hq := HZ6.out w' (below_step HBD.out hw')
                            go_simp
                            with_reducible rfl
                          rotate_left
                          · simp only [Act.put, List.setIfInBounds_toArray, List.set_cons_zero, List.set_cons_succ, i64_w, i32_w]
                            rfl
                          refine pure_ (i := 33) (N := some 236) (v := ?_) (a' := ?_) #[true, true, true, true, true, true, true, true, true, true, true, true, true, true, true, true, true, true, true, true, true, true, true, true, true, true, true, true, true, true, true, true, true, true, false, false, false, false, false, false, false, false] rfl rfl (any_of HT_.out (by kernel_rfl)) (fun _ _ _ h => h) (Or.inl ⟨by rfl, ?_⟩) ?_ ?_
                          rotate_left
                          · intro w'
                            go_simp
                            with_reducible rfl
                          rotate_left
                          · simp only [Act.put, List.setIfInBounds_toArray, List.set_cons_zero, List.set_cons_succ, i64_w, i32_w]
                            rfl
                          refine pure_ (i := 34) (N := some 237) (v := ?_) (a' := ?_) #[true, true, true, true, true, true, true, true, true, true, true, true, true, true, true, true, true, true, true, true, true, true, true, true, true, true, true, true, true, true, true, true, true, true, true, false, false, false, false, false, false, false] rfl rfl (any_of HT_.out (by kernel_rfl)) (fun _ _ _ h => h) (Or.inl ⟨by rfl, ?_⟩) ?_ ?_
                          rotate_left
                          · intro w'
                            go_simp
                            with_reducible rfl
                          rotate_left
                          · simp only [Act.put, List.setIfInBounds_toArray, List.set_cons_zero, List.set_cons_succ, i64_w, i32_w]
                            rfl
                          refine pure_ (i := 35) (N := some 238) (v := ?_) (a' := ?_) #[true, true, true, true, true, true, true, true, true, true, true, true, true, true, true, true, true, true, true, true, true, true, true, true, true, true, true, true, true, true, true, true, true, true, true, true, false, false, false, false, false, false] rfl rfl (any_of HT_.out (by kernel_rfl)) (fun _ _ _ h => h) (Or.inl ⟨by rfl, ?_⟩) ?_ ?_
                          rotate_left
                          · intro w'
                            go_simp
                            with_reducible rfl
                          rotate_left
                          · simp only [Act.put, List.setIfInBounds_toArray, List.set_cons_zero, List.set_cons_succ, i64_w, i32_w]
                            rfl
                          refine pure_ (i := 36) (N := some 239) (v := ?_) (a' := ?_) #[true, true, true, true, true, true, true, true, true, true, true, true, true, true, true, true, true, true, true, true, true, true, true, true, true, true, true, true, true, true, true, true, true, true, true, true, true, false, false, false, false, false] rfl rfl (any_of HT_.out (by kernel_rfl)) (fun _ _ _ h => h) (Or.inl ⟨by rfl, ?_⟩) ?_ ?_
                          rotate_left
                          · intro w'
                            go_simp
                            with_reducible rfl
                          rotate_left
                          · simp only [Act.put, List.setIfInBounds_toArray, List.set_cons_zero, List.set_cons_succ, i64_w, i32_w]
                            rfl
                          refine take_ (i := 37) (N := some 240) (v := ?_) (a' := ?_) #[true, true, true, true, true, true, true, true, true, true, true, true, true, true, true, true, true, true, true, true, true, true, true, true, true, true, true, true, true, true, true, true, true, true, true, true, true, true, false, false, false, false] rfl rfl (take_ofW HT_.out HW_.out (by kernel_rfl)) (fun _ _ _ h => h) (Or.inl ⟨by rfl, ?_⟩) hHeld ?_ ?_
                          rotate_left
                          · intro w' hw'
                            have hq := HZ7.out w' (below_step HBD.out hw')
                            go_simp
                            with_reducible rfl
                          rotate_left
                          · simp only [Act.put, List.setIfInBounds_toArray, List.set_cons_zero, List.set_cons_succ, i64_w, i32_w]
                            rfl
                          refine pure_ (i := 38) (N := some 241) (v := ?_) (a' := ?_) #[true, true, true, true, true, true, true, true, true, true, true, true, true, true, true, true, true, true, true, true, true, true, true, true, true, true, true, true, true, true, true, true, true, true, true, true, true, true, true, false, false, false] rfl rfl (any_of HT_.out (by kernel_rfl)) (fun _ _ _ h => h) (Or.inl ⟨by rfl, ?_⟩) ?_ ?_
                          rotate_left
                          · intro w'
                            go_simp
                            with_reducible rfl
                          rotate_left
                          · simp only [Act.put, List.setIfInBounds_toArray, List.set_cons_zero, List.set_cons_succ, i64_w, i32_w]
                            rfl
                          refine pure_ (i := 39) (N := some 242) (v := ?_) (a' := ?_) #[true, true, true, true, true, true, true, true, true, true, true, true, true, true, true, true, true, true, true, true, true, true, true, true, true, true, true, true, true, true, true, true, true, true, true, true, true, true, true, true, false, false] rfl rfl (any_of HT_.out (by kernel_rfl)) (fun _ _ _ h => h) (Or.inl ⟨by rfl, ?_⟩) ?_ ?_
                          rotate_left
                          · intro w'
                            go_simp
                            with_reducible rfl
                          rotate_left
                          · simp only [Act.put, List.setIfInBounds_toArray, List.set_cons_zero, List.set_cons_succ, i64_w, i32_w]
                            rfl
                          refine one_ (i := 40) (N := some 243) #[true, true, true, true, true, true, true, true, true, true, true, true, true, true, true, true, true, true, true, true, true, true, true, true, true, true, true, true, true, true, true, true, true, true, true, true, true, true, true, true, true, false] rfl rfl (one_of HT_.out (by kernel_rfl)) (by decide) (fun K hK => ?_)
                          have hal := box8_of HWX.out z0 z1 z2 z3 z4 z5 z6 z7
                          have hbl := HWX.out.alloc HWX.out.size (.cells #[.int .u32 z0, .int .u32 z1, .int .u32 z2, .int .u32 z3, .int .u32 z4, .int .u32 z5, .int .u32 z6, .int .u32 z7] 41)
                          refine value_ (w1 := ?_) (v := ?_) (by rfl) rfl ?_ ?_
                          rotate_left 2
                          · go_simp
                            constructor
                            · rfl
                            · rfl
                          have HP := Aside0.mk hal
                          clear HWX
                          have HWX := Aside0.mk hbl
                          clear hal hbl
                          refine hK.out _ _ HWX.out (fun hHeld => ?_)
                          clear hK K
                          refine norm_ (a' := ?_) ?_ ?_
                          rotate_left
                          · show Act.put _ (some 243) _ = _
                            simp only [Act.put, List.setIfInBounds_toArray, List.set_cons_zero, List.set_cons_succ, i64_w, i32_w]
                            rfl
                          refine pure_ (i := 41) (N := some 4) (v := ?_) (a' := ?_) #[true, true, true, true, true, true, true, true, true, true, true, true, true, true, true, true, true, true, true, true, true, true, true, true, true, true, true, true, true, true, true, true, true, true, true, true, true, true, true, true, true, true] rfl rfl (any_of HT_.out (by kernel_rfl)) (fun _ _ _ h => h) (Or.inl ⟨by rfl, ?_⟩) ?_ ?_
                          rotate_left
                          · intro w'
                            go_simp
                            with_reducible rfl
                          rotate_left
                          · simp only [Act.put, List.setIfInBounds_toArray, List.set_cons_zero, List.set_cons_succ, i64_w, i32_w]
                            rfl
                          refine done_ (done_of HT_.out (by kernel_rfl)) ?_
                          go_wp2
                          go_roundg k2
                          case measure => have := HI.out; have := HTT.out; omega
                          case rel => exact ⟨t + 1, some ⟨_, 0, none⟩, 8, rfl, (by first | rw [HW.out] | (push_cast; rfl)), ⟨HTT.out, by have := HI.out; have := HTT.out; omega⟩, ⟨by rw [← HCMP.out]; exact reads_box HP.out⟩, ⟨HBo.out.trans ((HBB.out.trans ((HBD.out.trans (HWX.out.mono HBD.out.size)).mono HBB.out.size)).mono HBo.out.size)⟩⟩
      · have s1 : decide (64 * (t : Int) < (al.length : Int)) = false := decide_eq_false (by have := HT.out; omega)
        have s2 : decide (64 * t < al.length) = false := decide_eq_false (by have := HT.out; omega)
        have HDG : Aside0 (digest xs = outs H) := ⟨dig_eq HAL.out HT.out (by have := HI.out.1; omega) HHE.out⟩
        have HRS : Aside0 (wo.heap[w.heap.size]? = some (.cells (rowB (List.replicate 32 0)) 24) ∧ w.heap.size < wo.heap.size) := ⟨res_at HS4.out HBo.out HRES.out⟩
        have HBW : Aside0 (Below w.heap.size w wo) := ⟨HB4.out.trans (HBo.out.mono HB4.out.size)⟩
        have HNN : Aside0 (∀ i, i < 8 → 0 ≤ H.getD i 0 ∧ H.getD i 0 < 4294967296) := ⟨by rw [HHE.out]; exact eat_range t al⟩
        obtain ⟨al2, rfl, hlc⟩ := RLo.out.2.2 (by decide)
        have HLC := Aside0.mk hlc
        clear ht hlc
        go_wp2
        go_loopg [28] 9 (fun kq v28 w' => ∃ i : Nat, v28 = .int .i64 i ∧ Aside0 (i ≤ 8 ∧ 8 - i < kq) ∧ Aside0 (w'.heap[wo.heap.size]? = some (.cells (rowB (RefPlain.part (outs H) i 0)) 24)) ∧ Aside0 (Below wo.heap.size wo w'))
        case atStart => exact ⟨0, rfl, ⟨by omega, by omega⟩, ⟨(heap_alloc_new wo _).trans (by rw [part_zero]; rfl)⟩, ⟨below_alloc (Below.refl _ _) _⟩⟩
        case round =>
          obtain ⟨i, rfl, HJ, HROW, HBD⟩ := hrel
          cases gk with
          | zero => exact absurd HJ.out.2 (by omega)
          | succ k3 =>
            by_cases hi : i < 8
            · have r1 : decide (i < 8) = true := decide_eq_true hi
              have r2 : decide ((i : Int) < 8) = true := decide_eq_true (by omega)
              obtain ⟨x, hx⟩ : ∃ x, x = H.getD i 0 := ⟨_, rfl⟩
              have q1 : wr.cell? (al2.add i) = some (.int .u32 x) := pw_cell_below HBD.out (by rw [hx]; exact HLC.out i hi)
              have HXR : Aside0 (0 ≤ x ∧ x < 4294967296) := ⟨by rw [hx]; exact HNN.out i hi⟩
              have HXD := Aside0.mk hx
              have u1 := eq_true (show (0 : Int) ≤ (i : Int) from Int.natCast_nonneg i)
              have u2 := eq_true (show (i : Int) < 8 from Int.ofNat_lt.2 hi)
              have u3 := eq_true hi
              have hw : wrap64 ((i : Int) + 1) = ((i + 1 : Nat) : Int) := by unfold wrap64; omega
              have HW := Aside0.mk hw
              have HI0 := Aside0.mk hi
              clear hx hw hi
              go_wp2
              go_loopg [29, 30] 5 (fun kq v29 v30 w' => ∃ m : Nat, v29 = .int .u32 (x / 256 ^ m) ∧ v30 = .int .i64 (3 - (m : Int)) ∧ Aside0 (m ≤ 4 ∧ 4 - m < kq) ∧ Aside0 (w'.heap[wo.heap.size]? = some (.cells (rowB (RefPlain.part (outs H) i m)) 24)) ∧ Aside0 (Below wo.heap.size wo w'))
              case atStart => exact ⟨0, (by simp), rfl, ⟨by omega, by omega⟩, HROW, HBD⟩
              case round =>
                clear HROW HBD q1
                obtain ⟨m, rfl, rfl, HM, HROW, HBD⟩ := hrel
                cases gk with
                | zero => exact absurd HM.out.2 (by omega)
                | succ k4 =>
                  by_cases hm : m < 4
                  · obtain ⟨jn, ix, y, r, y2, hj, hge, e1, e2, hix, f1, f2, f3, f4, hv, hny, hwm⟩ := out_facts (H := H) HI0.out hm HXR.out.1 HXR.out.2 HXD.out (outs_get H i (3 - m) (by omega) (by rw [HHL.out]; exact HI0.out))
                    rw [hny.1, hj]
                    have q1 := (cell_of_row wr wo.heap.size ix _ 24 (0, 0) HROW.out).trans (rowB_get _ ix (by rw [part_len]; exact hix.2))
                    have q2 := frozen_of_row wr wo.heap.size ix _ 24 HROW.out
                    have v1 := eq_true (show (0 : Int) ≤ (ix : Int) from Int.natCast_nonneg ix)
                    have v2 := eq_true (show (ix : Int) < 32 from Int.ofNat_lt.2 hix.2)
                    have v3 := eq_true hix.2
                    have HSET : Aside0 ((RefPlain.part (outs H) i m).set ix r = RefPlain.part (outs H) i (m + 1)) := ⟨by rw [hv, hix.1]; exact part_set _ _ _ HI0.out hm⟩
                    have HNY := Aside0.mk hny
                    have HWM := Aside0.mk hwm
                    have HM0 := Aside0.mk hm
                    clear hj hix hv hny hwm hm
                    go_wp2
                    go_roundg k4
                    case measure => have := HM.out; have := HM0.out; omega
                    case rel => exact ⟨m + 1, (by first | (rw [← HNY.out.2]; done) | (rw [f4, ← HNY.out.2]; done)), (by first | rw [HWM.out] | (congr 1; push_cast; omega)), ⟨by have := HM0.out; omega, by have := HM.out; have := HM0.out; omega⟩, ⟨(heap_setCell_same wr wo.heap.size ix _ 24 _ HROW.out).trans (by rw [rowB_set, HSET.out])⟩, ⟨HBD.out.setCell (p := ⟨wo.heap.size, ix, none⟩) (Nat.le_refl _) _⟩⟩
                  · have em : m = 4 := by have := HM.out; omega
                    subst em
                    have hge : decide ((3 - ((4 : Nat) : Int)) ≥ 0) = false := by decide
                    clear hm
                    go_wp2
                    go_roundg k3
                    case measure => have := HJ.out; have := HI0.out; omega
                    case rel => exact ⟨i + 1, (by first | rw [HW.out] | (push_cast; rfl)), ⟨by have := HI0.out; omega, by have := HJ.out; have := HI0.out; omega⟩, ⟨by rw [← part_next]; exact HROW.out⟩, HBD⟩
            · have ei : i = 8 := by have := HJ.out; omega
              subst ei
              clear hi
              obtain ⟨dg, hdg⟩ : ∃ x, x = outs H := ⟨_, rfl⟩
              have HDL : Aside0 (dg.length = 32) := ⟨by rw [hdg, outs_len, HHL.out]⟩
              have HOUT : Aside0 (wr.heap[wo.heap.size]? = some (.cells (rowB dg) 24)) := ⟨HROW.out.trans (by rw [hdg, part_all _ (by rw [outs_len, HHL.out])])⟩
              have HRS2 : Aside0 (wr.heap[w.heap.size]? = some (.cells (rowB (List.replicate 32 0)) 24)) := ⟨(HBD.out.block _ HRS.out.2).trans HRS.out.1⟩
              have HDGG : Aside0 (digest xs = dg) := ⟨by rw [hdg]; exact HDG.out⟩
              have HBF : Aside0 (Below w.heap.size w wr) := ⟨HBW.out.trans (HBD.out.mono HBW.out.size)⟩
              clear hdg HROW
              go_wp2_with (first | ((with_reducible refine gate_dst (N := 266) rfl ?_); refine wpList_load_row rfl 24 (.tmp 27) rfl wo.heap.size rfl 24 (rowB dg) (0, 0) _ HOUT.out Tryd.underlying24 rfl (size24 HDL.out) ?_) | ((with_reducible refine gate_store (t := 24) (p := 2) rfl ?_); refine wpList_store_row rfl 24 (.tmp 2) (.tmp 266) rfl w.heap.size (rowB dg) rfl rfl 24 (rowB (List.replicate 32 0)) HRS2.out (size24 HDL.out) (by rw [rowB_size, rowB_size, HDL.out]; rfl) (rowB_one _) ?_))
              refine bodyPost_ret (v := .agg (rowB dg)) (results_cell_row rfl _ _ w.heap.size 24 _ (0, 0) _ rfl (setRow_heap wr w.heap.size _ _ 24 (0, 0) HRS2.out) Tryd.underlying24 rfl (size24 HDL.out)) rfl ⟨by rw [HDGG.out], Spread.below_setRow HBF.out (Nat.le_refl _) _⟩
end Go.Proofs.YtldkofdpohaahaaDoor.RefOf
