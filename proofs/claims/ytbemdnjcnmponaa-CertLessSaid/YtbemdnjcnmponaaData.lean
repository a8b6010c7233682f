/- Certificates as data: what an argument's cells are, read by kinds (sections, justifications, digest); an argument that can be read is of its kind; no condition. -/
import Derived.Test.YtbemdnjcnmponaaProg
import Derived.Test.YtbemdnjcnmponaaWArr
import Derived.Test.YtbemdnjcnmponaaPCertSamex2
import Derived.ChangeArms
import Derived.OpenShut
import Derived.ChangeSlices
import Derived.ChangeOld
namespace Go.Proofs.Ytbemdnjcnmponaa.Data
open Go.RowKit Go.Proofs.YtbemdnjcnmponaaW.PrintWords Go.Proofs.Ytbemdnjcnmponaa.PCertSame

theorem addr_add (a : Addr) (i j : Nat) : (a.add i).add j = a.add (i + j) := by
  by_cases hi : i = 0
  · subst hi; simp [Addr.add]
  by_cases hj : j = 0
  · subst hj; simp [Addr.add]
  simp [Addr.add, hi, hj, Nat.add_assoc]

/-- what can be read at type t is of kind d -/
def Opens (P : Program) (t : TypeId) {α : Type} (d : Kd α) (g : α → Prop) : Prop :=
  ∀ (H : Type) (enc : TypeId × Value → H) (w : World) (base : Nat) (spare : Nat → Bool) (held : Bool) (fuel : Nat) (cs : List Value) (x : DataW H × List MemPlace),
    DataW.trod enc P w base spare held fuel t cs = some x → ∃ a, d.K w a cs ∧ g a

theorem opens_int {P : Program} {t : TypeId} {k : IntKind} (ht : P.underlying t = some (.int k)) : Opens P t (Kd.int k) (fun n => (Lit.int k n).wf = true) := by
  intro H enc w base spare held fuel cs x h
  obtain ⟨n, rfl, _, hw⟩ := DataW.trod_int ht h
  exact ⟨n, rfl, hw⟩

theorem exists_list {α β : Type} {R : β → α → Prop} : ∀ (l : List β), (∀ (i : Nat) (b : β), l[i]? = some b → ∃ a, R b a) → ∃ xs : List α, xs.length = l.length ∧ ∀ (i : Nat) (b : β) (a : α), l[i]? = some b → xs[i]? = some a → R b a
  | [], _ => ⟨[], rfl, fun i b a h => by simp at h⟩
  | b :: r, h => by
    obtain ⟨a, ha⟩ := h 0 b rfl
    obtain ⟨xs, hl, hx⟩ := exists_list r (fun i b' hb => h (i + 1) b' (by simpa using hb))
    refine ⟨a :: xs, by simp [hl], fun i b' a' hb hxa => ?_⟩
    cases i with
    | zero => simp at hb hxa; subst hb; subst hxa; exact ha
    | succ i => exact hx i b' a' (by simpa using hb) (by simpa using hxa)

theorem opens_slice {P : Program} {t e : TypeId} {α : Type} {d : Kd α} {g : α → Prop} (ht : P.underlying t = some (.slice e)) (hc : P.cellsOf e = d.sz) (hd : Opens P e d g) :
    Opens P t (Kd.slice e d) (fun xs => ∀ x ∈ xs, g x) := by
  intro H enc w base spare held fuel cs x h
  rcases DataW.trod_slice ht h with ⟨rfl, _⟩ | ⟨a, len, cap, elems, rest, n, _, rfl, _, hb, hl, hm, hel, hat, _, _⟩
  · exact ⟨[], ⟨none, 0, rfl, Nat.le_refl _, Kd.C_nil d w⟩, by simp⟩
  · have hone : ∀ (i b : Nat), (List.range len)[i]? = some b → ∃ y, ∃ c, c.length = d.sz ∧ d.K w y c ∧ (∀ j u, c[j]? = some u → w.cell? (a.add (b * d.sz + j)) = some u) ∧ g y := by
      intro i b hib
      have hbl : b < len := by
        have := List.mem_range.1 (List.mem_iff_getElem?.2 ⟨i, hib⟩); exact this
      have hi := hat b hbl
      rw [List.getElem?_eq_getElem (by omega)] at hi
      obtain ⟨c, hcs, htr⟩ := Option.bind_eq_some_iff.1 hi
      obtain ⟨y, hy, hg⟩ := hd H enc w base spare held n c _ htr
      obtain ⟨_, hlen, hcell⟩ := World.cells?_some hcs
      rw [hc] at hlen hcell
      refine ⟨y, c, hlen, hy, fun j u hj => ?_, hg⟩
      have hjl : j < d.sz := by rw [← hlen]; exact (List.getElem?_eq_some_iff.1 hj).1
      have := hcell j hjl
      rw [hj] at this
      rw [← this]
      congr 1
      exact (addr_add a _ _).symm
    obtain ⟨xs, hxl, hx⟩ := exists_list (R := fun b y => ∃ c, c.length = d.sz ∧ d.K w y c ∧ (∀ j u, c[j]? = some u → w.cell? (a.add (b * d.sz + j)) = some u) ∧ g y) (List.range len) hone
    rw [List.length_range] at hxl
    subst hxl
    refine ⟨xs, ⟨some a, cap, rfl, hl, rfl, by unfold maxLen at hm; omega, fun _ => ⟨a, rfl, fun j p hp => ?_⟩⟩, fun y hy => ?_⟩
    · have hj : j < xs.length := (List.getElem?_eq_some_iff.1 hp).1
      obtain ⟨c, h1, h2, h3, _⟩ := hx j j p (by simp [hj]) hp
      exact ⟨c, h1, h2, h3⟩
    · obtain ⟨j, hj⟩ := List.mem_iff_getElem?.1 hy
      have hjl : j < xs.length := (List.getElem?_eq_some_iff.1 hj).1
      obtain ⟨c, _, _, _, h4⟩ := hx j j y (by simp [hjl]) hj
      exact h4

theorem opens_iso {P : Program} {t : TypeId} {α β : Type} {d : Kd α} {g : α → Prop} (f : β → α) (f' : α → β) (hf : ∀ a, f (f' a) = a) (h : Opens P t d g) : Opens P t (Kd.iso d f) (fun b => g (f b)) := by
  intro H enc w base spare held fuel cs x hx
  obtain ⟨a, hk, hg⟩ := h H enc w base spare held fuel cs x hx
  exact ⟨f' a, by show d.K w (f (f' a)) cs; rw [hf]; exact hk, by show g (f (f' a)); rw [hf]; exact hg⟩

theorem opens_array {P : Program} {t e : TypeId} {n : Nat} {α : Type} {d : Kd α} {g : α → Prop} (hs : 0 < d.sz) (ht : P.underlying t = some (.array n e)) (hc : P.cellsOf e = d.sz) (hct : P.cellsOf t = n * d.sz) (hd : Opens P e d g) :
    Opens P t (Kd.arr n d hs) (fun xs => ∀ x ∈ xs, g x) := by
  intro H enc w base spare held fuel cs x h
  obtain ⟨ys, m, _, _, hl, hyl, hy⟩ := DataW.trod_array ht h
  have hone : ∀ (i b : Nat), (List.range n)[i]? = some b → ∃ y, d.K w y ((cs.drop (b * d.sz)).take d.sz) ∧ g y := by
    intro i b hib
    have hbl : b < n := List.mem_range.1 (List.mem_iff_getElem?.2 ⟨i, hib⟩)
    have hi := hy b hbl
    rw [hc, List.getElem?_eq_getElem (by omega)] at hi
    exact hd H enc w base spare held m _ _ hi
  obtain ⟨xs, hxl, hx⟩ := exists_list (R := fun b y => d.K w y ((cs.drop (b * d.sz)).take d.sz) ∧ g y) (List.range n) hone
  rw [List.length_range] at hxl
  refine ⟨xs, ⟨hxl, by rw [hl, hct, hxl], fun j p hp => ?_⟩, fun y hy' => ?_⟩
  · have hj : j < xs.length := (List.getElem?_eq_some_iff.1 hp).1
    exact (hx j j p (List.getElem?_range (by omega)) hp).1
  · obtain ⟨j, hj⟩ := List.mem_iff_getElem?.1 hy'
    have hjl : j < xs.length := (List.getElem?_eq_some_iff.1 hj).1
    exact (hx j j y (List.getElem?_range (by omega)) hj).2

/-- a struct by its fields: the last ones as a chain that begins at an offset -/
def Chain (P : Program) (fs : List Field) (off : Nat) {α : Type} (d : Kd α) (g : α → Prop) : Prop :=
  ∀ (H : Type) (enc : TypeId × Value → H) (w : World) (base : Nat) (spare : Nat → Bool) (held : Bool) (n : Nat) (cs : List Value) (xs : List (DataW H × List MemPlace)),
    cs.length = off + d.sz → (∀ (i : Nat) (f : Field), fs[i]? = some f → DataW.trod enc P w base spare held n f.type ((cs.drop f.offset).take (P.cellsOf f.type)) = xs[i]?) → xs.length = fs.length → ∃ a, d.K w a (cs.drop off) ∧ g a

theorem chain_one {P : Program} {f : Field} {off : Nat} {α : Type} {d : Kd α} {g : α → Prop} (ho : f.offset = off) (hc : P.cellsOf f.type = d.sz) (hd : Opens P f.type d g) : Chain P [f] off d g := by
  intro H enc w base spare held n cs xs hl hx hxl
  have h := hx 0 f rfl
  rw [ho, hc, List.getElem?_eq_getElem (by simp at hxl; omega)] at h
  have : (cs.drop off).take d.sz = cs.drop off := List.take_of_length_le (by rw [List.length_drop]; omega)
  rw [this] at h
  exact hd H enc w base spare held n _ _ h

theorem chain_cons {P : Program} {f : Field} {fs : List Field} {off : Nat} {α β : Type} {d : Kd α} {d' : Kd β} {g : α → Prop} {g' : β → Prop} (ho : f.offset = off) (hc : P.cellsOf f.type = d.sz) (hd : Opens P f.type d g)
    (h' : Chain P fs (off + d.sz) d' g') : Chain P (f :: fs) off (Kd.pair d d') (fun x => g x.1 ∧ g' x.2) := by
  intro H enc w base spare held n cs xs hl hx hxl
  have hl' : cs.length = off + (d.sz + d'.sz) := hl
  have h := hx 0 f rfl
  rw [ho, hc, List.getElem?_eq_getElem (by simp at hxl; omega)] at h
  obtain ⟨a, ha, hg⟩ := hd H enc w base spare held n _ _ h
  obtain ⟨b, hb, hg'⟩ := h' H enc w base spare held n cs (xs.drop 1) (by omega) (fun i f' hf => by rw [List.getElem?_drop, Nat.add_comm]; exact hx (i + 1) f' (by simpa using hf)) (by rw [List.length_drop, hxl]; simp)
  refine ⟨(a, b), ⟨(cs.drop off).take d.sz, cs.drop (off + d.sz), ?_, ha, hb⟩, hg, hg'⟩
  rw [← List.drop_drop, List.take_append_drop]

theorem opens_struct {P : Program} {t : TypeId} {fs : Array Field} {α : Type} {d : Kd α} {g : α → Prop} (ht : P.underlying t = some (.struct fs)) (hc : P.cellsOf t = d.sz) (h : Chain P fs.toList 0 d g) : Opens P t d g := by
  intro H enc w base spare held fuel cs x hx
  obtain ⟨xs, n, _, _, hl, hxl, hy⟩ := DataW.trod_struct ht hx
  have := h H enc w base spare held n cs xs (by omega) (fun i f hf => hy i f (by simpa using hf)) (by simpa using hxl)
  simpa using this

/-! ### sections and certificates -/
structure Sec where
  entry : Int
  exit : Int
  held : List Int
  le : Int
  lx : Int
  live : List Int

def kMask : Kd (List Int) := Kd.slice 35 (Kd.int .u32)
def kSec : Kd Sec := Kd.iso (Kd.pair (Kd.int .u32) (Kd.pair (Kd.int .u32) (Kd.pair kMask (Kd.pair (Kd.int .u32) (Kd.pair (Kd.int .u32) kMask))))) (fun s : Sec => (s.entry, s.exit, s.held, s.le, s.lx, s.live))

structure Crt where
  dig : List Int
  secs : List Sec
  justs : List S40

def kDig : Kd (List Int) := Kd.arr 32 (Kd.int .u8) (by decide)
def kCrt : Kd Crt := Kd.iso (Kd.pair kDig (Kd.pair (Kd.slice 38 kSec) (Kd.slice 40 k40))) (fun c : Crt => (c.dig, c.secs, c.justs))

def u32 (n : Int) : Prop := 0 ≤ n ∧ n < 4294967296
structure Sec.Good (s : Sec) : Prop where
  entry : u32 s.entry
  exit : u32 s.exit
  held : ∀ x ∈ s.held, u32 x
  le : u32 s.le
  lx : u32 s.lx
  live : ∀ x ∈ s.live, u32 x

theorem wf_u32 {x : Int} (h : (Lit.int .u32 x).wf = true) : u32 x := by
  simp [Lit.wf, IntKind.min, IntKind.max, IntKind.signed, IntKind.bits] at h; unfold u32; omega
theorem wf_u8 {x : Int} (h : (Lit.int .u8 x).wf = true) : 0 ≤ x ∧ x < 256 := by
  simp [Lit.wf, IntKind.min, IntKind.max, IntKind.signed, IntKind.bits] at h; omega
theorem wf_i64 {x : Int} (h : (Lit.int .i64 x).wf = true) : -9223372036854775808 ≤ x ∧ x ≤ 9223372036854775807 := by
  simp [Lit.wf, IntKind.min, IntKind.max, IntKind.signed, IntKind.bits] at h; omega

theorem kSec_open {w : World} {s : Sec} {cs : List Value} (h : kSec.K w s cs) : ∃ A c B c', cs = [.int .u32 s.entry, .int .u32 s.exit, .slice A s.held.length c, .int .u32 s.le, .int .u32 s.lx, .slice B s.live.length c'] ∧
    s.held.length ≤ c ∧ Kd.C (Kd.int .u32) w A s.held.length s.held ∧ s.live.length ≤ c' ∧ Kd.C (Kd.int .u32) w B s.live.length s.live := by
  obtain ⟨_, _, rfl, rfl, _, _, rfl, rfl, _, _, rfl, ⟨A, c, rfl, h1, h2⟩, _, _, rfl, rfl, _, _, rfl, rfl, B, c', rfl, h3, h4⟩ := h
  exact ⟨A, c, B, c', rfl, h1, h2, h3, h4⟩

theorem kCrt_open {w : World} {c : Crt} {cs : List Value} (h : kCrt.K w c cs) : ∃ A a B b, cs = c.dig.map (Value.int .u8) ++ [.slice A c.secs.length a, .slice B c.justs.length b] ∧ c.dig.length = 32 ∧
    c.secs.length ≤ a ∧ Kd.C kSec w A c.secs.length c.secs ∧ c.justs.length ≤ b ∧ Kd.C k40 w B c.justs.length c.justs := by
  obtain ⟨_, _, rfl, h0, _, _, rfl, ⟨A, a, rfl, h1, h2⟩, B, b, rfl, h3, h4⟩ := h
  obtain ⟨h5, rfl⟩ := Kd.arr_cells h0
  exact ⟨A, a, B, b, rfl, h5, h1, h2, h3, h4⟩

theorem opens_mask : Opens Try.prog 36 kMask (fun l => ∀ x ∈ l, (Lit.int .u32 x).wf = true) :=
  opens_slice Try.underlying36 (by kernel_rfl) (opens_int Try.underlying35)

theorem opens_sec : Opens Try.prog 38 kSec (fun s => s.Good) := by
  have h := opens_struct (P := Try.prog) (t := 38) Try.underlying38 (by kernel_rfl) (d := Kd.pair (Kd.int .u32) (Kd.pair (Kd.int .u32) (Kd.pair kMask (Kd.pair (Kd.int .u32) (Kd.pair (Kd.int .u32) kMask)))))
    (chain_cons (by kernel_rfl) (by kernel_rfl) (opens_int Try.underlying35) (chain_cons (by kernel_rfl) (by kernel_rfl) (opens_int Try.underlying35) (chain_cons (by kernel_rfl) (by kernel_rfl) opens_mask
      (chain_cons (by kernel_rfl) (by kernel_rfl) (opens_int Try.underlying35) (chain_cons (by kernel_rfl) (by kernel_rfl) (opens_int Try.underlying35) (chain_one (by kernel_rfl) (by kernel_rfl) opens_mask))))))
  have h2 := opens_iso (fun s : Sec => (s.entry, s.exit, s.held, s.le, s.lx, s.live)) (fun x => ⟨x.1, x.2.1, x.2.2.1, x.2.2.2.1, x.2.2.2.2.1, x.2.2.2.2.2⟩) (fun _ => rfl) h
  intro H enc w base spare held fuel cs x hx
  obtain ⟨a, ha, h0, h1, h2, h3, h4, h5⟩ := h2 H enc w base spare held fuel cs x hx
  exact ⟨a, ha, wf_u32 h0, wf_u32 h1, fun y hy => wf_u32 (h2 y hy), wf_u32 h3, wf_u32 h4, fun y hy => wf_u32 (h5 y hy)⟩

theorem opens_just : Opens Try.prog 40 k40 (fun j => (-9223372036854775808 ≤ j.f0 ∧ j.f0 ≤ 9223372036854775807) ∧ (-9223372036854775808 ≤ j.f1 ∧ j.f1 ≤ 9223372036854775807)) := by
  have h := opens_struct (P := Try.prog) (t := 40) Try.underlying40 (by kernel_rfl) (d := Kd.pair (Kd.int .i64) (Kd.int .i64))
    (chain_cons (by kernel_rfl) (by kernel_rfl) (opens_int Try.underlying3) (chain_one (by kernel_rfl) (by kernel_rfl) (opens_int Try.underlying3)))
  have h2 := opens_iso (fun s : S40 => (s.f0, s.f1)) (fun x => ⟨x.1, x.2⟩) (fun _ => rfl) h
  intro H enc w base spare held fuel cs x hx
  obtain ⟨a, ha, h0, h1⟩ := h2 H enc w base spare held fuel cs x hx
  exact ⟨a, ha, wf_i64 h0, wf_i64 h1⟩

structure Crt.Good (c : Crt) : Prop where
  dig : ∀ x ∈ c.dig, 0 ≤ x ∧ x < 256
  secs : ∀ s ∈ c.secs, s.Good
  justs : ∀ j ∈ c.justs, (-9223372036854775808 ≤ j.f0 ∧ j.f0 ≤ 9223372036854775807) ∧ (-9223372036854775808 ≤ j.f1 ∧ j.f1 ≤ 9223372036854775807)

theorem opens_crt : Opens Try.prog 26 kCrt (fun c => c.Good) := by
  have h := opens_struct (P := Try.prog) (t := 26) Try.underlying26 (by kernel_rfl) (d := Kd.pair kDig (Kd.pair (Kd.slice 38 kSec) (Kd.slice 40 k40)))
    (chain_cons (by kernel_rfl) (by kernel_rfl) (opens_array (by decide) Try.underlying22 (by kernel_rfl) (by kernel_rfl) (opens_int Try.underlying5))
      (chain_cons (by kernel_rfl) (by kernel_rfl) (opens_slice Try.underlying23 (by kernel_rfl) opens_sec) (chain_one (by kernel_rfl) (by kernel_rfl) (opens_slice Try.underlying24 (by kernel_rfl) opens_just))))
  have h2 := opens_iso (fun c : Crt => (c.dig, c.secs, c.justs)) (fun x => ⟨x.1, x.2.1, x.2.2⟩) (fun _ => rfl) h
  intro H enc w base spare held fuel cs x hx
  obtain ⟨a, ha, h0, h1, h2⟩ := h2 H enc w base spare held fuel cs x hx
  exact ⟨a, ha, fun y hy => wf_u8 (h0 y hy), h1, h2⟩
end Go.Proofs.Ytbemdnjcnmponaa.Data
