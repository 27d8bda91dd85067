/- Abstract execution, part A: values without addresses, the state, what an operation does; and how they stand for the machine's. -/
import Derived.Orders
import Derived.Laws.Sem
import Derived.Laws.Append
import Derived.Laws.AppendOwn
import Derived.Laws.CopyRow
import Derived.Laws.Cells
import Derived.Laws.Entries
import Derived.Below
import Derived.RowKit3
import Derived.Laws.BytesString
set_option linter.unusedVariables false
set_option linter.unusedSimpArgs false
namespace Go.Proofs.YtaacfmakfkaddaaDoor.Ax
section
open Go

abbrev Path := List Nat

/-- Whether a slice may grow: not known; exactly full; the owner of its row. -/
inductive Tk where
  | no
  | ex
  | own (p : Path) (s : Nat)

inductive V where
  | bool (b : Bool)
  | int (k : IntKind) (n : Int)
  | str (s : ByteArray)
  | agg (cs : List V)
  | tup (vs : List V)
  | nils
  | sl (els : List (List V)) (tk : Tk)
  | ms (id : Path) (off len cap : Nat)
  | gs (id : Path) (len s : Nat)
  | ptr (id : Path) (off : Nat)
  | cptr (cs : List V) (off : Nat)
  | nilp
  | fn (f : FuncId) (caps : List V)
  | nilf
  | ifc (t : TypeId) (v : V)
  | nilif
  | mapv (id : Path)
  | nilm
  | yl (l : Nat)
  | junk

def ofLeaf : Value → V
  | .bool b => .bool b
  | .int k n => .int k n
  | .string s => .str s
  | .pointer none => .nilp
  | .slice none 0 0 => .nils
  | .nilFunc => .nilf
  | .nilIface => .nilif
  | .map none => .nilm
  | _ => .junk
def ofVal : Value → V
  | .agg cs => .agg (cs.toList.map ofLeaf)
  | .tuple vs => .tup (vs.toList.map ofLeaf)
  | v => ofLeaf v

def V.cells : V → List V
  | .agg cs => cs
  | v => [v]
def V.isJunk : V → Bool
  | .junk => true
  | _ => false
/-- What is handed on: no slice may grow. -/
def V.er : V → V
  | .sl els _ => .sl els .no
  | .nils => .sl [] .no
  | v => v
def V.erase : V → V
  | .agg cs => .agg (cs.map V.er)
  | .tup vs => .tup (vs.map fun v => match v with | .agg cs => .agg (cs.map V.er) | v => v.er)
  | v => v.er

/-- What is fixed for good; where boxes and growing rows lie. -/
structure Ghost where
  fx : Nat → Nat → Option Value
  loc : Path → Option Nat
  tl : Path → Option (Nat × Nat × Nat × Nat)
  gw : Path → Option (Nat × Nat) := fun _ => none

structure Ghost.le (G H : Ghost) : Prop where
  fx : ∀ b o v, G.fx b o = some v → H.fx b o = some v
  loc : ∀ p b, G.loc p = some b → H.loc p = some b
  tl : ∀ p x, G.tl p = some x → H.tl p = some x
  gw : ∀ p b, G.loc p = some b → H.gw p = G.gw p
theorem Ghost.le.refl (G : Ghost) : G.le G := ⟨fun _ _ _ h => h, fun _ _ h => h, fun _ _ h => h, fun _ _ _ => rfl⟩
theorem Ghost.le.trans {G H I : Ghost} (a : G.le H) (b : H.le I) : G.le I :=
  ⟨fun _ _ _ h => b.fx _ _ _ (a.fx _ _ _ h), fun _ _ h => b.loc _ _ (a.loc _ _ h), fun _ _ h => b.tl _ _ (a.tl _ _ h), fun p c h => (b.gw p c (a.loc p c h)).trans (a.gw p c h)⟩

inductive Rep (G : Ghost) : Value → V → Prop
  | bool (b : Bool) : Rep G (.bool b) (.bool b)
  | int (k : IntKind) (n : Int) : Rep G (.int k n) (.int k n)
  | str (s : ByteArray) : Rep G (.string s) (.str s)
  | agg (arr : Array Value) (cs : List V) (hl : arr.size = cs.length) (h : ∀ (i : Nat) v c, arr[i]? = some v → cs[i]? = some c → Rep G v c) : Rep G (.agg arr) (.agg cs)
  | tup (arr : Array Value) (cs : List V) (hl : arr.size = cs.length) (h : ∀ (i : Nat) v c, arr[i]? = some v → cs[i]? = some c → Rep G v c) : Rep G (.tuple arr) (.tup cs)
  | nils : Rep G (.slice none 0 0) .nils
  | sl0 (A : Option Addr) (c : Nat) : Rep G (.slice A 0 c) (.sl [] .no)
  | sl (b o c s : Nat) (els : List (List V)) (tk : Tk) (vs : Nat → Nat → Value) (hs : ∀ el ∈ els, el.length = s) (hc : els.length ≤ c) (hm : c ≤ 9223372036854775807)
      (hfx : ∀ (i j : Nat) el x, els[i]? = some el → el[j]? = some x → G.fx b (o + i * s + j) = some (vs i j))
      (hrep : ∀ (i j : Nat) el x, els[i]? = some el → el[j]? = some x → Rep G (vs i j) x)
      (hex : tk = .ex → c = els.length)
      (htk : ∀ p s', tk = .own p s' → o = 0 ∧ s' = s ∧ G.tl p = some (b, c, s, els.length)) :
      Rep G (.slice (some ⟨b, o, none⟩) els.length c) (.sl els tk)
  | ms (id : Path) (off len cap b : Nat) (h : G.loc id = some b) : Rep G (.slice (some ⟨b, off, none⟩) len cap) (.ms id off len cap)
  | gs (id : Path) (len s c b : Nat) (h : G.loc id = some b) (hg : G.gw id = some (c, s)) (hc : len ≤ c) (hm : c ≤ 9223372036854775807) : Rep G (.slice (some ⟨b, 0, none⟩) len c) (.gs id len s)
  | ptr (id : Path) (off b : Nat) (h : G.loc id = some b) : Rep G (.pointer (some ⟨b, off, none⟩)) (.ptr id off)
  | cptr (b o : Nat) (cs : List V) (off : Nat) (vs : Nat → Value) (hfx : ∀ (j : Nat) x, cs[j]? = some x → G.fx b (o + j) = some (vs j)) (hrep : ∀ (j : Nat) x, cs[j]? = some x → Rep G (vs j) x) :
      Rep G (.pointer (some ⟨b, o + off, none⟩)) (.cptr cs off)
  | nilp : Rep G (.pointer none) .nilp
  | fn (f : FuncId) (arr : Array Value) (cs : List V) (hl : arr.size = cs.length) (h : ∀ (i : Nat) v c, arr[i]? = some v → cs[i]? = some c → Rep G v c) : Rep G (.func (.func f) #[] arr) (.fn f cs)
  | nilf : Rep G .nilFunc .nilf
  | ifc (t : TypeId) (v : Value) (x : V) (h : Rep G v x) : Rep G (.iface t v) (.ifc t x)
  | nilif : Rep G .nilIface .nilif
  | mapv (id : Path) (b : Nat) (h : G.loc id = some b) : Rep G (.map (some b)) (.mapv id)
  | nilm : Rep G (.map none) .nilm
  | yl (l : Nat) : Rep G (.func (.yield l) #[] #[]) (.yl l)
  | junk (v : Value) : Rep G v .junk

theorem Rep.mono {G H : Ghost} (hle : G.le H) {v : Value} {x : V} (h : Rep G v x) : Rep H v x := by
  induction h with
  | bool b => exact .bool b
  | int k n => exact .int k n
  | str s => exact .str s
  | agg arr cs hl _ ih => exact .agg arr cs hl ih
  | tup arr cs hl _ ih => exact .tup arr cs hl ih
  | nils => exact .nils
  | sl0 A c => exact .sl0 A c
  | sl b o c s els tk vs hs hc hm hfx _ hex htk ih =>
    exact .sl b o c s els tk vs hs hc hm (fun i j el x h1 h2 => hle.fx _ _ _ (hfx i j el x h1 h2)) ih hex (fun p s' hp => ⟨(htk p s' hp).1, (htk p s' hp).2.1, hle.tl _ _ (htk p s' hp).2.2⟩)
  | ms id off len cap b h => exact .ms id off len cap b (hle.loc _ _ h)
  | gs id len s c b h hg hc hm => exact .gs id len s c b (hle.loc _ _ h) ((hle.gw _ _ h).trans hg) hc hm
  | ptr id off b h => exact .ptr id off b (hle.loc _ _ h)
  | cptr b o cs off vs hfx _ ih => exact .cptr b o cs off vs (fun j x h => hle.fx _ _ _ (hfx j x h)) ih
  | nilp => exact .nilp
  | fn f arr cs hl _ ih => exact .fn f arr cs hl ih
  | nilf => exact .nilf
  | ifc t v x _ ih => exact .ifc t v x ih
  | nilif => exact .nilif
  | mapv id b h => exact .mapv id b (hle.loc _ _ h)
  | nilm => exact .nilm
  | yl l => exact .yl l
  | junk v => exact .junk v

def RepL (G : Ghost) (arr : List Value) (cs : List V) : Prop := arr.length = cs.length ∧ ∀ (i : Nat) v c, arr[i]? = some v → cs[i]? = some c → Rep G v c
theorem RepL.mono {G H : Ghost} (hle : G.le H) {a : List Value} {c : List V} (h : RepL G a c) : RepL H a c := ⟨h.1, fun i v x hv hx => (h.2 i v x hv hx).mono hle⟩
theorem RepL.nil (G : Ghost) : RepL G [] [] := ⟨rfl, fun i v c h => by simp at h⟩
theorem RepL.cons {G : Ghost} {v : Value} {x : V} {a : List Value} {c : List V} (h : Rep G v x) (t : RepL G a c) : RepL G (v :: a) (x :: c) :=
  ⟨by simp [t.1], fun i u y hu hy => by cases i with | zero => simp at hu hy; subst hu; subst hy; exact h | succ i => simp at hu hy; exact t.2 i u y hu hy⟩
theorem RepL.append {G : Ghost} {a a' : List Value} {c c' : List V} (h : RepL G a c) (h' : RepL G a' c') : RepL G (a ++ a') (c ++ c') := by
  refine ⟨by simp [h.1, h'.1], fun i v x hv hx => ?_⟩
  rw [List.getElem?_append] at hv hx
  rw [h.1] at hv
  split at hv
  · rename_i hi; rw [if_pos hi] at hx; exact h.2 i v x hv hx
  · rename_i hi; rw [if_neg hi] at hx; exact h'.2 _ v x hv hx
theorem RepL.take {G : Ghost} {a : List Value} {c : List V} (h : RepL G a c) (n : Nat) : RepL G (a.take n) (c.take n) := by
  refine ⟨by simp [h.1], fun i v x hv hx => ?_⟩
  rw [List.getElem?_take] at hv hx
  split at hv
  · rename_i hi; rw [if_pos hi] at hx; exact h.2 i v x hv hx
  · cases hv
theorem RepL.drop {G : Ghost} {a : List Value} {c : List V} (h : RepL G a c) (n : Nat) : RepL G (a.drop n) (c.drop n) := by
  refine ⟨by simp [h.1], fun i v x hv hx => ?_⟩
  rw [List.getElem?_drop] at hv hx
  exact h.2 _ v x hv hx
theorem RepL.get {G : Ghost} {a : List Value} {c : List V} (h : RepL G a c) {i : Nat} {x : V} (hx : c[i]? = some x) : ∃ v, a[i]? = some v ∧ Rep G v x := by
  have hi : i < a.length := by rw [h.1]; exact (List.getElem?_eq_some_iff.1 hx).1
  exact ⟨a[i], by simp [hi], h.2 i _ x (by simp [hi]) hx⟩
theorem RepL.get' {G : Ghost} {a : List Value} {c : List V} (h : RepL G a c) {i : Nat} {v : Value} (hv : a[i]? = some v) : ∃ x, c[i]? = some x ∧ Rep G v x := by
  have hi : i < c.length := by rw [← h.1]; exact (List.getElem?_eq_some_iff.1 hv).1
  exact ⟨c[i], by simp [hi], h.2 i v _ hv (by simp [hi])⟩

theorem rep_agg {G : Ghost} {arr : Array Value} {cs : List V} (h : RepL G arr.toList cs) : Rep G (.agg arr) (.agg cs) :=
  .agg arr cs (by simpa using h.1) (fun i v c hv hc => h.2 i v c (by simpa using hv) hc)
theorem rep_tup {G : Ghost} {arr : Array Value} {cs : List V} (h : RepL G arr.toList cs) : Rep G (.tuple arr) (.tup cs) :=
  .tup arr cs (by simpa using h.1) (fun i v c hv hc => h.2 i v c (by simpa using hv) hc)
theorem rep_fn {G : Ghost} {f : FuncId} {arr : Array Value} {cs : List V} (h : RepL G arr.toList cs) : Rep G (.func (.func f) #[] arr) (.fn f cs) :=
  .fn f arr cs (by simpa using h.1) (fun i v c hv hc => h.2 i v c (by simpa using hv) hc)
theorem rep_agg_inv {G : Ghost} {v : Value} {cs : List V} (h : Rep G v (.agg cs)) : ∃ arr : Array Value, v = .agg arr ∧ RepL G arr.toList cs := by
  cases h with | agg arr _ hl h => exact ⟨arr, rfl, by simpa using hl, fun i v c hv hc => h i v c (by simpa using hv) hc⟩
theorem rep_tup_inv {G : Ghost} {v : Value} {cs : List V} (h : Rep G v (.tup cs)) : ∃ arr : Array Value, v = .tuple arr ∧ RepL G arr.toList cs := by
  cases h with | tup arr _ hl h => exact ⟨arr, rfl, by simpa using hl, fun i v c hv hc => h i v c (by simpa using hv) hc⟩
theorem rep_fn_inv {G : Ghost} {v : Value} {f : FuncId} {cs : List V} (h : Rep G v (.fn f cs)) : ∃ arr : Array Value, v = .func (.func f) #[] arr ∧ RepL G arr.toList cs := by
  cases h with | fn _ arr _ hl h => exact ⟨arr, rfl, by simpa using hl, fun i v c hv hc => h i v c (by simpa using hv) hc⟩

/-- A value's cells. -/
theorem rep_cells {G : Ghost} {v : Value} {x : V} (h : Rep G v x) (hj : x.isJunk = false) : RepL G v.cells.toList x.cells := by
  cases h with
  | agg arr cs hl h => exact ⟨by simpa [Value.cells, V.cells] using hl, fun i v c hv hc => h i v c (by simpa [Value.cells] using hv) (by simpa [V.cells] using hc)⟩
  | junk v => simp [V.isJunk] at hj
  | bool b => exact .cons (.bool b) (.nil G)
  | int k n => exact .cons (.int k n) (.nil G)
  | str s => exact .cons (.str s) (.nil G)
  | tup arr cs hl h => exact .cons (.tup arr cs hl h) (.nil G)
  | nils => exact .cons .nils (.nil G)
  | sl0 A c => exact .cons (.sl0 A c) (.nil G)
  | sl b o c s els tk vs hs hc hm hfx hrep hex htk => exact .cons (.sl b o c s els tk vs hs hc hm hfx hrep hex htk) (.nil G)
  | ms id off len cap b h => exact .cons (.ms id off len cap b h) (.nil G)
  | gs id len s c b h hg hc hm => exact .cons (.gs id len s c b h hg hc hm) (.nil G)
  | ptr id off b h => exact .cons (.ptr id off b h) (.nil G)
  | cptr b o cs off vs hfx hrep => exact .cons (.cptr b o cs off vs hfx hrep) (.nil G)
  | nilp => exact .cons .nilp (.nil G)
  | fn f arr cs hl h => exact .cons (.fn f arr cs hl h) (.nil G)
  | nilf => exact .cons .nilf (.nil G)
  | ifc t v x h => exact .cons (.ifc t v x h) (.nil G)
  | nilif => exact .cons .nilif (.nil G)
  | mapv id b h => exact .cons (.mapv id b h) (.nil G)
  | nilm => exact .cons .nilm (.nil G)
  | yl l => exact .cons (.yl l) (.nil G)

theorem rep_ofLeaf (G : Ghost) (v : Value) : Rep G v (ofLeaf v) := by
  unfold ofLeaf
  split <;> first | exact .junk _ | constructor
theorem repL_ofLeaf (G : Ghost) (l : List Value) : RepL G l (l.map ofLeaf) :=
  ⟨by simp, fun i v c hv hc => by rw [List.getElem?_map, hv] at hc; simp at hc; subst hc; exact rep_ofLeaf G v⟩
theorem rep_ofVal (G : Ghost) (v : Value) : Rep G v (ofVal v) := by
  unfold ofVal
  split
  · exact rep_agg (repL_ofLeaf G _)
  · exact rep_tup (repL_ofLeaf G _)
  · exact rep_ofLeaf G _
theorem rep_er {G : Ghost} {v : Value} {x : V} (h : Rep G v x) : Rep G v x.er := by
  cases h with
  | nils => exact .sl0 _ _
  | sl0 A c => exact .sl0 A c
  | sl b o c s els tk vs hs hc hm hfx hrep hex htk => exact .sl b o c s els .no vs hs hc hm hfx hrep (by simp) (by simp)
  | _ => first | (exact h) | (constructor <;> assumption)
theorem repL_er {G : Ghost} {a : List Value} {c : List V} (h : RepL G a c) : RepL G a (c.map V.er) :=
  ⟨by simp [h.1], fun i v x hv hx => by
    rw [List.getElem?_map] at hx
    obtain ⟨y, hy, rfl⟩ := Option.map_eq_some_iff.1 hx
    exact rep_er (h.2 i v y hv hy)⟩
theorem rep_erase {G : Ghost} {v : Value} {x : V} (h : Rep G v x) : Rep G v x.erase := by
  cases h with
  | agg arr cs hl h =>
    exact rep_agg (repL_er ⟨by simpa using hl, fun i v c hv hc => h i v c (by simpa using hv) hc⟩)
  | tup arr cs hl h =>
    refine rep_tup ⟨by simpa using hl, fun i v x hv hx => ?_⟩
    rw [List.getElem?_map] at hx
    obtain ⟨y, hy, rfl⟩ := Option.map_eq_some_iff.1 hx
    have hr := h i v y (by simpa using hv) hy
    split
    · obtain ⟨ar, rfl, hl⟩ := rep_agg_inv hr
      exact rep_agg (repL_er hl)
    · exact rep_er hr
  | nils => exact rep_er .nils
  | sl0 A c => exact .sl0 A c
  | sl b o c s els tk vs hs hc hm hfx hrep hex htk => exact .sl b o c s els .no vs hs hc hm hfx hrep (by simp) (by simp)
  | _ => first | (exact h) | (constructor <;> assumption)

/-- All records of a row have so many cells. -/
def lenL (s : Nat) (els : List (List V)) : Prop := ∀ el ∈ els, el.length = s
@[simp] theorem lenL_nil (s : Nat) : lenL s [] = True := eq_true fun _ h => by cases h
@[simp] theorem lenL_cons (s : Nat) (el : List V) (l : List (List V)) : lenL s (el :: l) = (el.length = s ∧ lenL s l) := by simp [lenL]
@[simp] theorem lenL_append (s : Nat) (l m : List (List V)) : lenL s (l ++ m) = (lenL s l ∧ lenL s m) := by
  apply propext
  exact ⟨fun h => ⟨fun el he => h el (by simp [he]), fun el he => h el (by simp [he])⟩, fun h el he => (List.mem_append.1 he).elim (h.1 el) (h.2 el)⟩
end
section
open Go

inductive Box where
  | cells (cs : List V)
  | mp (es : List (V × V))
abbrev Mem := Path → Option Box
abbrev Toks := Path → Bool

def upd {α : Type} (f : Path → α) (p : Path) (v : α) : Path → α := fun q => if q = p then v else f q
theorem upd_same {α : Type} (f : Path → α) (p : Path) (v : α) : upd f p v p = v := by simp [upd]
theorem upd_ne {α : Type} (f : Path → α) {p q : Path} (v : α) (h : q ≠ p) : upd f p v q = f q := by simp [upd, h]

/-- Blocks that may be written. -/
def Wr (G : Ghost) (M : Mem) (K : Toks) (b : Nat) : Prop := (∃ id, M id ≠ none ∧ G.loc id = some b) ∨ (∃ t x, K t = true ∧ G.tl t = some (b, x))

/-- A box's block: its first cells; how large one is that may grow. -/
def BoxAt (G : Ghost) (id : Path) (b : Nat) (arr : Array Value) (cs : List V) : Prop := RepL G (arr.toList.take cs.length) cs ∧ (∀ o, G.fx b o = none) ∧ ∀ c s, G.gw id = some (c, s) → arr.size = c * s
theorem BoxAt.mono {G H : Ghost} {id : Path} {b : Nat} {arr : Array Value} {cs : List V} (h : BoxAt G id b arr cs) (hle : G.le H) (hl : G.loc id = some b) (hf : ∀ o, H.fx b o = G.fx b o) : BoxAt H id b arr cs :=
  ⟨h.1.mono hle, fun o => (hf o).trans (h.2.1 o), fun c s hg => h.2.2 c s (by rw [← hle.gw id b hl]; exact hg)⟩
theorem BoxAt.rep {G : Ghost} {id : Path} {b : Nat} {arr : Array Value} {cs : List V} (h : BoxAt G id b arr cs) {i : Nat} {x : V} (hx : cs[i]? = some x) : ∃ v, arr[i]? = some v ∧ Rep G v x := by
  obtain ⟨v, hv, hr⟩ := h.1.get hx
  rw [List.getElem?_take] at hv
  split at hv
  · exact ⟨v, by simpa using hv, hr⟩
  · cases hv
theorem BoxAt.size {G : Ghost} {id : Path} {b : Nat} {arr : Array Value} {cs : List V} (h : BoxAt G id b arr cs) : cs.length ≤ arr.size := by
  have := h.1.1
  simp only [List.length_take, Array.length_toList] at this
  omega
/-- Package-level tables: their numbers. -/
def gtab : Nat → List Int := fun g => if g = 0 then [0, 1, 56, 2, 57, 49, 28, 3, 61, 58, 42, 50, 38, 29, 17, 4, 62, 47, 59, 36, 45, 43, 51, 22, 53, 39, 33, 30, 24, 18, 12, 5, 63, 55, 48, 27, 60, 41, 37, 16, 46, 35, 44, 21, 52, 32, 23, 11, 54, 26, 40, 15, 34, 20, 31, 10, 25, 14, 19, 9, 13, 8, 7, 6] else []
def tbl (b o : Nat) : Option Value := ((gtab b)[o]?).map (Value.int .u8)
/-- What a package-level variable's address stands for. -/
def gval (g : Nat) : V := if gtab g = [] then .junk else .cptr ((gtab g).map (V.int .u8)) 0
theorem rep_gval {G : Ghost} (h : ∀ b o v, tbl b o = some v → G.fx b o = some v) (g : Nat) : Rep G (.pointer (some ⟨g, 0, none⟩)) (gval g) := by
  unfold gval
  split
  · exact .junk _
  · have key := Rep.cptr (G := G) g 0 ((gtab g).map (V.int .u8)) 0 (fun j => ((gtab g)[j]?.map (Value.int .u8)).getD undef) (fun j x hx => ?_) (fun j x hx => ?_)
    · simpa using key
    all_goals
      rw [List.getElem?_map] at hx
      obtain ⟨n, hn, rfl⟩ := Option.map_eq_some_iff.1 hx
    · rw [Nat.zero_add]
      exact h g j _ (by unfold tbl; rw [hn]; rfl)
    · rw [hn]; exact .int _ _
structure Sim (G : Ghost) (M : Mem) (K : Toks) (w : World) : Prop where
  fx : ∀ b o v, G.fx b o = some v → w.cell? ⟨b, o, none⟩ = some v
  box : ∀ id cs, M id = some (.cells cs) → ∃ b arr T, G.loc id = some b ∧ w.heap[b]? = some (.cells arr T (0, 0)) ∧ BoxAt G id b arr cs
  mp : ∀ id es, M id = some (.mp es) → False
  inj : ∀ id id' b, M id ≠ none → M id' ≠ none → G.loc id = some b → G.loc id' = some b → id = id'
  tok : ∀ t, K t = true → ∃ g cap s n arr T, G.tl t = some (g, cap, s, n) ∧ w.heap[g]? = some (.cells arr T (0, 0)) ∧ arr.size = cap * s ∧ n ≤ cap ∧ (∀ o, n * s ≤ o → G.fx g o = none) ∧ (∀ id, M id ≠ none → G.loc id ≠ some g)
  tinj : ∀ t t' g x x', K t = true → K t' = true → G.tl t = some (g, x) → G.tl t' = some (g, x') → t = t'
  tb : ∀ b o v, tbl b o = some v → G.fx b o = some v

structure Upd (G : Ghost) (M : Mem) (K : Toks) (w : World) (G' : Ghost) (M' : Mem) (K' : Toks) (w' : World) : Prop where
  os : w'.os = w.os
  tape : w'.tape = w.tape
  output : w'.output = w.output
  size : w.heap.size ≤ w'.heap.size
  keep : ∀ b, b < w.heap.size → ¬ Wr G M K b → w'.heap[b]? = w.heap[b]?
  wr : ∀ b, b < w.heap.size → Wr G' M' K' b → Wr G M K b
  fxs : ∀ b o, b < w.heap.size → ¬ Wr G M K b → G'.fx b o = G.fx b o
theorem Upd.refl (G : Ghost) (M : Mem) (K : Toks) (w : World) : Upd G M K w G M K w := ⟨rfl, rfl, rfl, Nat.le_refl _, fun _ _ _ => rfl, fun _ _ h => h, fun _ _ _ _ => rfl⟩
theorem Upd.trans {G G1 G2 : Ghost} {M M1 M2 : Mem} {K K1 K2 : Toks} {w w1 w2 : World} (a : Upd G M K w G1 M1 K1 w1) (b : Upd G1 M1 K1 w1 G2 M2 K2 w2) : Upd G M K w G2 M2 K2 w2 :=
  ⟨b.os.trans a.os, b.tape.trans a.tape, b.output.trans a.output, Nat.le_trans a.size b.size,
    fun k hk hn => (b.keep k (Nat.lt_of_lt_of_le hk a.size) (fun h => hn (a.wr k hk h))).trans (a.keep k hk hn),
    fun k hk h => a.wr k hk (b.wr k (Nat.lt_of_lt_of_le hk a.size) h),
    fun k o hk hn => (b.fxs k o (Nat.lt_of_lt_of_le hk a.size) (fun h => hn (a.wr k hk h))).trans (a.fxs k o hk hn)⟩

/-- From one state to another, by what runs in the frame p. -/
structure Tr (p : Path) (G : Ghost) (M : Mem) (K : Toks) (w : World) (G' : Ghost) (M' : Mem) (K' : Toks) (w' : World) : Prop where
  le : G.le G'
  fr : ∀ id, ¬ (p <:+ id) → G'.loc id = G.loc id ∧ G'.tl id = G.tl id
  up : Upd G M K w G' M' K' w'
theorem Tr.refl (p : Path) (G : Ghost) (M : Mem) (K : Toks) (w : World) : Tr p G M K w G M K w := ⟨.refl G, fun _ _ => ⟨rfl, rfl⟩, .refl _ _ _ _⟩
theorem Tr.trans {p : Path} {G G1 G2 : Ghost} {M M1 M2 : Mem} {K K1 K2 : Toks} {w w1 w2 : World} (a : Tr p G M K w G1 M1 K1 w1) (b : Tr p G1 M1 K1 w1 G2 M2 K2 w2) : Tr p G M K w G2 M2 K2 w2 :=
  ⟨a.le.trans b.le, fun id h => ⟨(b.fr id h).1.trans (a.fr id h).1, (b.fr id h).2.trans (a.fr id h).2⟩, a.up.trans b.up⟩
theorem Tr.mono {p q : Path} {G G' : Ghost} {M M' : Mem} {K K' : Toks} {w w' : World} (hp : p <:+ q) (a : Tr q G M K w G' M' K' w') : Tr p G M K w G' M' K' w' :=
  ⟨a.le, fun id h => a.fr id (fun hq => h (hp.trans hq)), a.up⟩

/-! ### Steps of the world -/
theorem lt_of_heap {w : World} {b : Nat} {o : Obj} (h : w.heap[b]? = some o) : b < w.heap.size := (Array.getElem?_eq_some_iff.1 h).1
theorem cell_lt {w : World} {b o : Nat} {v : Value} (h : w.cell? ⟨b, o, none⟩ = some v) : b < w.heap.size := by
  unfold World.cell? at h
  simp only at h
  cases hb : w.heap[b]? with
  | none => simp [hb] at h
  | some x => exact lt_of_heap hb
theorem cell_of_heap {w : World} {b o : Nat} {arr : Array Value} {T : TypeId} {m : Nat × Nat} (h : w.heap[b]? = some (.cells arr T m)) : w.cell? ⟨b, o, none⟩ = arr[o]? := by
  simp [World.cell?, h]
theorem cell_same {w w' : World} {b o : Nat} (h : w'.heap[b]? = w.heap[b]?) : w'.cell? ⟨b, o, none⟩ = w.cell? ⟨b, o, none⟩ := by
  simp [World.cell?, h]
theorem Sim.fx_lt {G : Ghost} {M : Mem} {K : Toks} {w : World} (h : Sim G M K w) {b o : Nat} {v : Value} (hv : G.fx b o = some v) : b < w.heap.size := cell_lt (h.fx b o v hv)
theorem Sim.fx_none {G : Ghost} {M : Mem} {K : Toks} {w : World} (h : Sim G M K w) {b : Nat} (hb : w.heap.size ≤ b) (o : Nat) : G.fx b o = none := by
  cases hv : G.fx b o with
  | none => rfl
  | some v => have := h.fx_lt hv; omega
theorem Sim.box_lt {G : Ghost} {M : Mem} {K : Toks} {w : World} (h : Sim G M K w) {id : Path} (hm : M id ≠ none) : ∃ b, G.loc id = some b ∧ b < w.heap.size := by
  cases hm' : M id with
  | none => exact absurd hm' hm
  | some x =>
    cases x with
    | cells cs => obtain ⟨b, arr, T, hl, hh, _⟩ := h.box id cs hm'; exact ⟨b, hl, lt_of_heap hh⟩
    | mp es => exact (h.mp id es hm').elim
theorem Sim.wr_lt {G : Ghost} {M : Mem} {K : Toks} {w : World} (h : Sim G M K w) {b : Nat} (hb : Wr G M K b) : b < w.heap.size := by
  rcases hb with ⟨id, hm, hl⟩ | ⟨t, x, hk, ht⟩
  · obtain ⟨b', hl', hlt⟩ := h.box_lt hm; rw [hl] at hl'; cases hl'; exact hlt
  · obtain ⟨g, cap, s, n, arr, T, ht', hh, _⟩ := h.tok t hk; rw [ht] at ht'; cases ht'; exact lt_of_heap hh

/-- Old blocks stay: the state stands. -/
theorem Sim.ext {G : Ghost} {M : Mem} {K : Toks} {w w' : World} (h : Sim G M K w) (hw : ∀ b, b < w.heap.size → w'.heap[b]? = w.heap[b]?) : Sim G M K w' where
  fx b o v hv := (cell_same (hw b (h.fx_lt hv))).trans (h.fx b o v hv)
  box id cs hm := by
    obtain ⟨b, arr, T, hl, hh, hr⟩ := h.box id cs hm
    exact ⟨b, arr, T, hl, (hw b (lt_of_heap hh)).trans hh, hr⟩
  mp := h.mp
  inj := h.inj
  tok t hk := by
    obtain ⟨g, cap, s, n, arr, T, ht, hh, hx⟩ := h.tok t hk
    exact ⟨g, cap, s, n, arr, T, ht, (hw g (lt_of_heap hh)).trans hh, hx⟩
  tinj := h.tinj
  tb := h.tb
theorem heap_drew (w : World) : w.drew.heap = w.heap := rfl
theorem Sim.drew {G : Ghost} {M : Mem} {K : Toks} {w : World} (h : Sim G M K w) : Sim G M K w.drew := h.ext fun _ _ => rfl
theorem Upd.drew (G : Ghost) (M : Mem) (K : Toks) (w : World) : Upd G M K w G M K w.drew := ⟨rfl, rfl, rfl, Nat.le_refl _, fun _ _ _ => rfl, fun _ _ h => h, fun _ _ _ _ => rfl⟩
theorem Tr.drew (p : Path) (G : Ghost) (M : Mem) (K : Toks) (w : World) : Tr p G M K w G M K w.drew := ⟨.refl _, fun _ _ => ⟨rfl, rfl⟩, .drew _ _ _ _⟩
theorem alloc_old (w : World) (o : Obj) {b : Nat} (h : b < w.heap.size) : (w.alloc o).heap[b]? = w.heap[b]? := by
  show (w.heap.push o)[b]? = _
  rw [Array.getElem?_push, if_neg (by omega)]
theorem alloc_new (w : World) (o : Obj) : (w.alloc o).heap[w.heap.size]? = some o := by
  show (w.heap.push o)[w.heap.size]? = _
  simp
theorem alloc_size (w : World) (o : Obj) : (w.alloc o).heap.size = w.heap.size + 1 := by
  show (w.heap.push o).size = _
  simp

/-- A new block whose first cells are fixed. -/
def Ghost.fix (G : Ghost) (b : Nat) (vs : List Value) : Ghost := { G with fx := fun c o => if c = b then vs[o]? else G.fx c o }
theorem Ghost.fix_le {G : Ghost} {M : Mem} {K : Toks} {w : World} (h : Sim G M K w) (vs : List Value) : G.le (G.fix w.heap.size vs) :=
  ⟨fun b o v hv => by have := h.fx_lt hv; simp only [Ghost.fix]; rw [if_neg (by omega)]; exact hv, fun _ _ h => h, fun _ _ h => h, fun _ _ _ => rfl⟩
theorem Sim.alloc_fix {G : Ghost} {M : Mem} {K : Toks} {w : World} (h : Sim G M K w) (arr : Array Value) (T : TypeId) (vs : List Value) (hv : ∀ (i : Nat) v, vs[i]? = some v → arr[i]? = some v) :
    Sim (G.fix w.heap.size vs) M K (w.alloc (.cells arr T)) := by
  have he := h.ext (w' := w.alloc (.cells arr T)) fun b hb => alloc_old w _ hb
  have hle := Ghost.fix_le h vs
  refine ⟨fun b o v hv' => ?_, fun id cs hm => ?_, h.mp, h.inj, fun t hk => ?_, h.tinj, fun b o v hv => hle.fx _ _ _ (h.tb b o v hv)⟩
  · simp only [Ghost.fix] at hv'
    split at hv'
    · rename_i hb; subst hb
      rw [cell_of_heap (alloc_new w _)]
      exact hv _ _ hv'
    · exact he.fx b o v hv'
  · obtain ⟨b, arr', T', hl, hh, hr⟩ := h.box id cs hm
    have hlt := lt_of_heap hh
    exact ⟨b, arr', T', hl, (alloc_old w _ hlt).trans hh, hr.mono hle hl fun o => by simp only [Ghost.fix]; rw [if_neg (by omega)]⟩
  · obtain ⟨g, cap, s, n, arr', T', ht, hh, ha, hn, hx, hb⟩ := h.tok t hk
    have hlt := lt_of_heap hh
    exact ⟨g, cap, s, n, arr', T', ht, (alloc_old w _ hlt).trans hh, ha, hn, fun o ho => by simp only [Ghost.fix]; rw [if_neg (by omega)]; exact hx o ho, hb⟩
theorem Tr.alloc_fix {G : Ghost} {M : Mem} {K : Toks} {w : World} (h : Sim G M K w) (p : Path) (arr : Array Value) (T : TypeId) (vs : List Value) :
    Tr p G M K w (G.fix w.heap.size vs) M K (w.alloc (.cells arr T)) :=
  ⟨Ghost.fix_le h vs, fun _ _ => ⟨rfl, rfl⟩, rfl, rfl, rfl, by rw [alloc_size]; omega, fun b hb _ => alloc_old w _ hb, fun b hb hw => hw, fun b o hb _ => by simp only [Ghost.fix]; rw [if_neg (by omega)]⟩

/-- A new box. -/
def Ghost.addGs (G : Ghost) (id : Path) (b : Nat) (g : Option (Nat × Nat)) : Ghost := { G with loc := fun q => if q = id then some b else G.loc q, gw := fun q => if q = id then g else G.gw q }
abbrev Ghost.addLoc (G : Ghost) (id : Path) (b : Nat) : Ghost := G.addGs id b none
theorem Ghost.addGs_le {G : Ghost} {id : Path} (hf : G.loc id = none) (b : Nat) (g : Option (Nat × Nat)) : G.le (G.addGs id b g) :=
  ⟨fun _ _ _ h => h, fun q c h => by simp only [Ghost.addGs]; rw [if_neg (fun e => by subst e; rw [hf] at h; cases h)]; exact h, fun _ _ h => h, fun q c h => by simp only [Ghost.addGs]; rw [if_neg (fun e => by subst e; rw [hf] at h; cases h)]⟩
theorem Sim.alloc_gs {G : Ghost} {M : Mem} {K : Toks} {w : World} (h : Sim G M K w) {id : Path} (hf : G.loc id = none) (arr : Array Value) (T : TypeId) (cs : List V) (hr : RepL G (arr.toList.take cs.length) cs) (g : Option (Nat × Nat)) (hg : ∀ c s, g = some (c, s) → arr.size = c * s) :
    Sim (G.addGs id w.heap.size g) (upd M id (some (.cells cs))) K (w.alloc (.cells arr T)) := by
  have hle := Ghost.addGs_le hf w.heap.size g
  have hlt : ∀ q b, M q ≠ none → G.loc q = some b → b < w.heap.size := fun q b hm hl => by obtain ⟨b', hl', hb⟩ := h.box_lt hm; rw [hl] at hl'; cases hl'; exact hb
  have hne : ∀ q, M q ≠ none → q ≠ id := fun q hm e => by subst e; obtain ⟨b', hl', hb⟩ := h.box_lt hm; rw [hf] at hl'; cases hl'
  have key : ∀ q b, upd M id (some (.cells cs)) q ≠ none → (G.addGs id w.heap.size g).loc q = some b → (q = id ∧ b = w.heap.size) ∨ (q ≠ id ∧ M q ≠ none ∧ G.loc q = some b) := fun q b hm hl => by
    by_cases e : q = id
    · subst e; simp [Ghost.addGs] at hl; exact .inl ⟨rfl, hl.symm⟩
    · rw [upd_ne _ _ e] at hm; simp [Ghost.addGs, e] at hl; exact .inr ⟨e, hm, hl⟩
  refine ⟨fun b o v hv => (cell_same (alloc_old w _ (h.fx_lt hv))).trans (h.fx b o v hv), fun q cs' hm => ?_, fun q es hm => ?_, fun q q' b hm hm' hl hl' => ?_, fun t hk => ?_, h.tinj, h.tb⟩
  · by_cases e : q = id
    · subst e; rw [upd_same] at hm; cases hm
      exact ⟨w.heap.size, arr, T, by simp [Ghost.addGs], alloc_new w _, hr.mono hle, fun o => h.fx_none (Nat.le_refl _) o, fun c s hgw => hg c s (by simpa [Ghost.addGs] using hgw)⟩
    · rw [upd_ne _ _ e] at hm
      obtain ⟨b, arr', T', hl, hh, hr'⟩ := h.box q cs' hm
      exact ⟨b, arr', T', by simp [Ghost.addGs, e, hl], (alloc_old w _ (lt_of_heap hh)).trans hh, hr'.mono hle hl fun _ => rfl⟩
  · by_cases e : q = id
    · subst e; rw [upd_same] at hm; cases hm
    · rw [upd_ne _ _ e] at hm; exact h.mp q es hm
  · rcases key q b hm hl with ⟨e, hb⟩ | ⟨e, hm1, hl1⟩ <;> rcases key q' b hm' hl' with ⟨e', hb'⟩ | ⟨e', hm2, hl2⟩
    · rw [e, e']
    · have := hlt q' b hm2 hl2; omega
    · have := hlt q b hm1 hl1; omega
    · exact h.inj q q' b hm1 hm2 hl1 hl2
  · obtain ⟨g, cap, s, n, arr', T', ht, hh, ha, hn, hx, hb⟩ := h.tok t hk
    refine ⟨g, cap, s, n, arr', T', ht, (alloc_old w _ (lt_of_heap hh)).trans hh, ha, hn, hx, fun q hm hl => ?_⟩
    rcases key q g hm hl with ⟨e, hb'⟩ | ⟨e, hm1, hl1⟩
    · have := lt_of_heap hh; omega
    · exact hb q hm1 hl1
theorem Tr.alloc_gs {G : Ghost} {M : Mem} {K : Toks} {w : World} (h : Sim G M K w) {p id : Path} (hp : p <:+ id) (hf : G.loc id = none) (arr : Array Value) (T : TypeId) (cs : List V) (g : Option (Nat × Nat)) :
    Tr p G M K w (G.addGs id w.heap.size g) (upd M id (some (.cells cs))) K (w.alloc (.cells arr T)) := by
  refine ⟨Ghost.addGs_le hf _ _, fun q hq => ⟨by simp only [Ghost.addGs]; rw [if_neg (show ¬ q = _ from fun e => hq (by rw [e]; exact hp))], rfl⟩, rfl, rfl, rfl, by rw [alloc_size]; omega, fun b hb _ => alloc_old w _ hb, fun b hb hw => ?_, fun _ _ _ _ => rfl⟩
  rcases hw with ⟨q, hm, hl⟩ | ⟨t, x, hk, ht⟩
  · by_cases e : q = id
    · subst e; simp [Ghost.addGs] at hl; omega
    · rw [upd_ne _ _ e] at hm; simp [Ghost.addGs, e] at hl; exact .inl ⟨q, hm, hl⟩
  · exact .inr ⟨t, x, hk, ht⟩
theorem take_len {α : Type} (l : List α) : l.take l.length = l := List.take_of_length_le (Nat.le_refl _)
theorem Sim.alloc_box {G : Ghost} {M : Mem} {K : Toks} {w : World} (h : Sim G M K w) {id : Path} (hf : G.loc id = none) (arr : Array Value) (T : TypeId) (cs : List V) (hr : RepL G arr.toList cs) :
    Sim (G.addLoc id w.heap.size) (upd M id (some (.cells cs))) K (w.alloc (.cells arr T)) :=
  h.alloc_gs hf arr T cs (by rw [← hr.1, take_len]; exact hr) none (by simp)
theorem Tr.alloc_box {G : Ghost} {M : Mem} {K : Toks} {w : World} (h : Sim G M K w) {p id : Path} (hp : p <:+ id) (hf : G.loc id = none) (arr : Array Value) (T : TypeId) (cs : List V) :
    Tr p G M K w (G.addLoc id w.heap.size) (upd M id (some (.cells cs))) K (w.alloc (.cells arr T)) := Tr.alloc_gs h hp hf arr T cs none

/-- A box forgotten. -/
theorem Sim.forget {G : Ghost} {M M' : Mem} {K K' : Toks} {w : World} (h : Sim G M K w) (hM : ∀ id, M' id ≠ none → M' id = M id) (hK : ∀ t, K' t = true → K t = true) : Sim G M' K' w where
  fx := h.fx
  box id cs hm := h.box id cs (by rw [← hM id (by rw [hm]; simp)]; exact hm)
  mp id es hm := h.mp id es (by rw [← hM id (by rw [hm]; simp)]; exact hm)
  inj id id' b hm hm' := h.inj id id' b (by rw [← hM id hm]; exact hm) (by rw [← hM id' hm']; exact hm')
  tok t hk := by
    obtain ⟨g, cap, s, n, arr, T, ht, hh, ha, hn, hx, hb⟩ := h.tok t (hK t hk)
    exact ⟨g, cap, s, n, arr, T, ht, hh, ha, hn, hx, fun id hm => hb id (by rw [← hM id hm]; exact hm)⟩
  tinj t t' g x x' hk hk' := h.tinj t t' g x x' (hK t hk) (hK t' hk')
  tb := h.tb
theorem Wr.forget {G : Ghost} {M M' : Mem} {K K' : Toks} (hM : ∀ id, M' id ≠ none → M' id = M id) (hK : ∀ t, K' t = true → K t = true) {b : Nat} (h : Wr G M' K' b) : Wr G M K b := by
  rcases h with ⟨id, hm, hl⟩ | ⟨t, x, hk, ht⟩
  · exact .inl ⟨id, by rw [← hM id hm]; exact hm, hl⟩
  · exact .inr ⟨t, x, hK t hk, ht⟩
theorem Tr.forget (p : Path) {G : Ghost} {M M' : Mem} {K K' : Toks} (w : World) (hM : ∀ id, M' id ≠ none → M' id = M id) (hK : ∀ t, K' t = true → K t = true) : Tr p G M K w G M' K' w :=
  ⟨.refl _, fun _ _ => ⟨rfl, rfl⟩, rfl, rfl, rfl, Nat.le_refl _, fun _ _ _ => rfl, fun b _ hb => hb.forget hM hK, fun _ _ _ _ => rfl⟩

/-! ### A store into a box -/
def splice (cs : List V) (off : Nat) (xs : List V) : List V := cs.take off ++ xs ++ cs.drop (off + xs.length)
theorem heap_setRow_same (w : World) (g : Nat) (cur cs : Array Value) (T : TypeId) (m : Nat × Nat) (hg : w.heap[g]? = some (.cells cur T m)) : (w.setRow g cs).heap[g]? = some (.cells cs T m) := by
  simp [World.setRow, Array.getElem?_modify, hg]
theorem heap_setRow_other (w : World) (g b : Nat) (cs : Array Value) (h : b ≠ g) : (w.setRow g cs).heap[b]? = w.heap[b]? := by
  simp [World.setRow, Array.getElem?_modify]
  intro e; exact absurd e.symm h
theorem size_setRow (w : World) (g : Nat) (cs : Array Value) : (w.setRow g cs).heap.size = w.heap.size := by simp [World.setRow]
theorem Sim.store {G : Ghost} {M : Mem} {K : Toks} {w : World} (h : Sim G M K w) {id : Path} {cs : List V} (hm : M id = some (.cells cs)) {b : Nat} {arr : Array Value} {T : TypeId} (hl : G.loc id = some b) (hh : w.heap[b]? = some (.cells arr T (0, 0)))
    (arr' : Array Value) (cs' : List V) (hr : RepL G (arr'.toList.take cs'.length) cs') (hsz : arr'.size = arr.size) :
    Sim G (upd M id (some (.cells cs'))) K (w.setRow b arr') := by
  have hmn : M id ≠ none := by rw [hm]; simp
  have hkey : ∀ q, upd M id (some (.cells cs')) q ≠ none → M q ≠ none := fun q hq => by
    by_cases e : q = id
    · subst e; exact hmn
    · rw [upd_ne _ _ e] at hq; exact hq
  obtain ⟨b0, arr0, T0, hl0, hh0, hr0, hf0, hg0⟩ := h.box id cs hm
  rw [hl] at hl0; cases hl0
  rw [hh] at hh0; cases hh0
  refine ⟨fun c o v hv => ?_, fun q cs2 hq => ?_, fun q es hq => ?_, fun q q' c hq hq' => h.inj q q' c (hkey q hq) (hkey q' hq'), fun t hk => ?_, h.tinj, h.tb⟩
  · have hne : c ≠ b := fun e => by subst e; rw [hf0 o] at hv; cases hv
    rw [cell_same (heap_setRow_other w b c arr' hne)]
    exact h.fx c o v hv
  · by_cases e : q = id
    · subst e; rw [upd_same] at hq; cases hq
      exact ⟨b, arr', T, hl, heap_setRow_same w b arr arr' T _ hh, hr, hf0, fun c s hg => by rw [hsz]; exact hg0 c s hg⟩
    · rw [upd_ne _ _ e] at hq
      obtain ⟨c, arr2, T2, hl2, hh2, hr2⟩ := h.box q cs2 hq
      have hne : c ≠ b := fun ec => by subst ec; exact e (h.inj q id c (by rw [hq]; simp) hmn hl2 hl)
      exact ⟨c, arr2, T2, hl2, (heap_setRow_other w b c arr' hne).trans hh2, hr2⟩
  · by_cases e : q = id
    · subst e; rw [upd_same] at hq; cases hq
    · rw [upd_ne _ _ e] at hq; exact h.mp q es hq
  · obtain ⟨g, cap, s, n, arr2, T2, ht, hh2, ha, hn, hx, hb⟩ := h.tok t hk
    have hne : g ≠ b := fun eg => by subst eg; exact hb id hmn hl
    exact ⟨g, cap, s, n, arr2, T2, ht, (heap_setRow_other w b g arr' hne).trans hh2, ha, hn, hx, fun q hq => hb q (hkey q hq)⟩
theorem Tr.store {G : Ghost} {M : Mem} {K : Toks} {w : World} (p : Path) {id : Path} {cs : List V} (hm : M id = some (.cells cs)) {b : Nat} (hl : G.loc id = some b)
    (arr' : Array Value) (cs' : List V) : Tr p G M K w G (upd M id (some (.cells cs'))) K (w.setRow b arr') := by
  refine ⟨.refl _, fun _ _ => ⟨rfl, rfl⟩, rfl, rfl, rfl, by rw [size_setRow]; exact Nat.le_refl _, fun c hc hn => heap_setRow_other w b c arr' (fun e => hn (.inl ⟨id, by rw [hm]; simp, e ▸ hl⟩)), fun c hc hw => ?_, fun _ _ _ _ => rfl⟩
  rcases hw with ⟨q, hq, hl'⟩ | ⟨t, x, hk, ht⟩
  · by_cases e : q = id
    · subst e; exact .inl ⟨q, by rw [hm]; simp, hl'⟩
    · rw [upd_ne _ _ e] at hq; exact .inl ⟨q, hq, hl'⟩
  · exact .inr ⟨t, x, hk, ht⟩

/-! ### Growing rows -/
/-- A row in a new block: its first cells fixed, the rest free. -/
def Ghost.addTok (G : Ghost) (t : Path) (x : Nat × Nat × Nat × Nat) : Ghost := { G with tl := fun q => if q = t then some x else G.tl q }
theorem Ghost.addTok_le {G : Ghost} {t : Path} (hf : G.tl t = none) (x : Nat × Nat × Nat × Nat) : G.le (G.addTok t x) :=
  ⟨fun _ _ _ h => h, fun _ _ h => h, fun q c h => by simp only [Ghost.addTok]; rw [if_neg (fun e => by subst e; rw [hf] at h; cases h)]; exact h, fun _ _ _ => rfl⟩
theorem Sim.alloc_row {G : Ghost} {M : Mem} {K K0 : Toks} {w : World} (h : Sim G M K w) (hK : ∀ t, K0 t = true → K t = true) {t : Path} (hf : G.tl t = none) (arr : Array Value) (T : TypeId) (vs : List Value) (hv : ∀ (i : Nat) v, vs[i]? = some v → arr[i]? = some v)
    (cap s n : Nat) (ha : arr.size = cap * s) (hn : n ≤ cap) (hvl : vs.length ≤ n * s) :
    Sim ((G.fix w.heap.size vs).addTok t (w.heap.size, cap, s, n)) M (upd K0 t true) (w.alloc (.cells arr T)) := by
  have h1 := h.alloc_fix arr T vs hv
  have hle := Ghost.addTok_le (G := G.fix w.heap.size vs) (t := t) hf (w.heap.size, cap, s, n)
  have hkt : ∀ q, K q = true → q ≠ t := fun q hk e => by subst e; obtain ⟨g, cap, s, n, arr2, T2, ht, _⟩ := h.tok q hk; rw [hf] at ht; cases ht
  have hlt : ∀ q g x, K q = true → G.tl q = some (g, x) → g < w.heap.size := fun q g x hk ht => h.wr_lt (.inr ⟨q, x, hk, ht⟩)
  refine ⟨h1.fx, fun id cs hm => ?_, h1.mp, h1.inj, fun q hk => ?_, fun q q' g x x' hk hk' ht ht' => ?_, h1.tb⟩
  · obtain ⟨b, arr2, T2, hl, hh, hr⟩ := h1.box id cs hm
    exact ⟨b, arr2, T2, hl, hh, hr.mono hle hl fun _ => rfl⟩
  · by_cases e : q = t
    · subst e
      refine ⟨w.heap.size, cap, s, n, arr, T, by simp [Ghost.addTok], alloc_new w _, ha, hn, fun o ho => ?_, fun id hm hl => ?_⟩
      · simp only [Ghost.addTok, Ghost.fix, if_true]; exact List.getElem?_eq_none (by omega)
      · obtain ⟨b, hl', hb⟩ := h.box_lt hm
        have hl2 : G.loc id = some w.heap.size := hl
        rw [hl2] at hl'; cases hl'; omega
    · rw [upd_ne _ _ e] at hk
      obtain ⟨g, cap', s', n', arr2, T2, ht, hh, ha', hn', hx, hb⟩ := h1.tok q (hK q hk)
      exact ⟨g, cap', s', n', arr2, T2, by simp [Ghost.addTok, e]; exact ht, hh, ha', hn', hx, hb⟩
  · by_cases e : q = t <;> by_cases e' : q' = t
    · rw [e, e']
    · subst e; rw [upd_ne _ _ e'] at hk'
      simp [Ghost.addTok] at ht; simp [Ghost.addTok, e'] at ht'
      have := hlt q' g x' (hK _ hk') ht'; omega
    · subst e'; rw [upd_ne _ _ e] at hk
      simp [Ghost.addTok] at ht'; simp [Ghost.addTok, e] at ht
      have := hlt q g x (hK _ hk) ht; omega
    · rw [upd_ne _ _ e] at hk; rw [upd_ne _ _ e'] at hk'
      simp [Ghost.addTok, e] at ht; simp [Ghost.addTok, e'] at ht'
      exact h.tinj q q' g x x' (hK _ hk) (hK _ hk') ht ht'
theorem Tr.alloc_row {G : Ghost} {M : Mem} {K K0 : Toks} {w : World} (h : Sim G M K w) (hK : ∀ t, K0 t = true → K t = true) {p t : Path} (hp : p <:+ t) (hf : G.tl t = none) (arr : Array Value) (T : TypeId) (vs : List Value) (cap s n : Nat) :
    Tr p G M K w ((G.fix w.heap.size vs).addTok t (w.heap.size, cap, s, n)) M (upd K0 t true) (w.alloc (.cells arr T)) := by
  refine ⟨(Ghost.fix_le h vs).trans (Ghost.addTok_le (by exact hf) _), fun q hq => ⟨rfl, by simp only [Ghost.addTok]; rw [if_neg (show ¬ q = _ from fun e => hq (by rw [e]; exact hp))]; rfl⟩, rfl, rfl, rfl, by rw [alloc_size]; omega, fun b hb _ => alloc_old w _ hb, fun b hb hw => ?_, fun b o hb _ => by simp only [Ghost.addTok, Ghost.fix]; rw [if_neg (by omega)]⟩
  rcases hw with ⟨q, hm, hl⟩ | ⟨q, x, hk, ht⟩
  · exact .inl ⟨q, hm, hl⟩
  · by_cases e : q = t
    · subst e; simp [Ghost.addTok] at ht; omega
    · rw [upd_ne _ _ e] at hk; simp [Ghost.addTok, e] at ht; exact .inr ⟨q, x, hK q hk, ht⟩

/-- A row that is written behind its end. -/
def Ghost.grow (G : Ghost) (g o : Nat) (vs : List Value) : Ghost := { G with fx := fun c q => if c = g ∧ o ≤ q ∧ q < o + vs.length then vs[q - o]? else G.fx c q }
theorem Sim.grow_row {G : Ghost} {M : Mem} {K : Toks} {w : World} (h : Sim G M K w) {t t' : Path} (hk : K t = true) {g cap s n : Nat} (ht : G.tl t = some (g, cap, s, n)) (hf : G.tl t' = none)
    {arr : Array Value} {T : TypeId} (hh : w.heap[g]? = some (.cells arr T (0, 0))) (vs : List Value) (m : Nat) (hm : vs.length = m * s) (hfit : n + m ≤ cap) :
    G.le ((G.grow g (n * s) vs).addTok t' (g, cap, s, n + m)) ∧
    Sim ((G.grow g (n * s) vs).addTok t' (g, cap, s, n + m)) M (upd (upd K t false) t' true) (w.setRow g (arr.toList.take (n * s) ++ vs ++ arr.toList.drop (n * s + vs.length)).toArray) := by
  obtain ⟨g0, cap0, s0, n0, arr0, T0, ht0, hh0, ha, hn, hx, hb⟩ := h.tok t hk
  rw [ht] at ht0; cases ht0
  rw [hh] at hh0; cases hh0
  have htt : t ≠ t' := fun e => by subst e; rw [hf] at ht; cases ht
  have hle : G.le ((G.grow g (n * s) vs).addTok t' (g, cap, s, n + m)) := by
    refine ⟨fun b o v hv => ?_, fun _ _ h => h, fun q x hq => by simp only [Ghost.addTok]; rw [if_neg (fun e => by subst e; rw [hf] at hq; cases hq)]; exact hq, fun _ _ _ => rfl⟩
    simp only [Ghost.addTok, Ghost.grow]
    rw [if_neg (fun ⟨e, h1, h2⟩ => by subst e; rw [hx o h1] at hv; cases hv)]
    exact hv
  have hlen : (n + m) * s ≤ cap * s := Nat.mul_le_mul_right _ hfit
  have hnm : (n + m) * s = n * s + vs.length := by rw [Nat.add_mul, hm]
  have hkt : ∀ q, K q = true → q ≠ t' := fun q hk e => by subst e; obtain ⟨g, cap, s, n, arr2, T2, ht, _⟩ := h.tok q hk; rw [hf] at ht; cases ht
  have hsize : (arr.toList.take (n * s) ++ vs ++ arr.toList.drop (n * s + vs.length)).toArray.size = arr.size := by
    simp only [List.size_toArray, List.length_append, List.length_take, List.length_drop, Array.length_toList]; omega
  refine ⟨hle, ⟨fun b o v hv => ?_, fun id cs hi => ?_, h.mp, h.inj, fun q hq => ?_, fun q q' g' x x' hq hq' hx1 hx2 => ?_, fun b o v hv => hle.fx _ _ _ (h.tb b o v hv)⟩⟩
  · by_cases e : b = g
    · subst e
      rw [cell_of_heap (heap_setRow_same w b arr _ T _ hh)]
      simp only [Ghost.addTok, Ghost.grow, true_and] at hv
      simp only [List.getElem?_toArray]
      split at hv
      · rename_i hr
        rw [List.append_assoc, List.getElem?_append_right (by simp; omega), List.getElem?_append_left (by simp; omega)]
        rw [← hv]; congr 1; simp; omega
      · rename_i hr
        have hc := h.fx b o v hv
        rw [cell_of_heap hh] at hc
        have ho : o < n * s := by
          rcases Nat.lt_or_ge o (n * s) with h1 | h1
          · exact h1
          · rw [hx o h1] at hv; cases hv
        rw [List.append_assoc, List.getElem?_append_left (by simp; omega), List.getElem?_take, if_pos ho]
        simpa using hc
    · rw [cell_same (heap_setRow_other w g b _ e)]
      refine h.fx b o v ?_
      simp only [Ghost.addTok, Ghost.grow] at hv
      rwa [if_neg (fun ⟨e', _⟩ => e e')] at hv
  · obtain ⟨b, arr2, T2, hl, hh2, hr⟩ := h.box id cs hi
    have hne : b ≠ g := fun e => by subst e; exact hb id (by rw [hi]; simp) hl
    refine ⟨b, arr2, T2, hl, (heap_setRow_other w g b _ hne).trans hh2, hr.mono hle hl fun o => ?_⟩
    simp only [Ghost.addTok, Ghost.grow]
    rw [if_neg (fun ⟨e', _⟩ => hne e')]
  · by_cases e : q = t'
    · subst e
      refine ⟨g, cap, s, n + m, _, T, by simp [Ghost.addTok], heap_setRow_same w g arr _ T _ hh, by rw [hsize]; exact ha, hfit, fun o ho => ?_, hb⟩
      simp only [Ghost.addTok, Ghost.grow]
      rw [if_neg (fun ⟨_, h1, h2⟩ => by omega)]
      exact hx o (by omega)
    · rw [upd_ne _ _ e] at hq
      by_cases e2 : q = t
      · subst e2; rw [upd_same] at hq; cases hq
      · rw [upd_ne _ _ e2] at hq
        obtain ⟨g', cap', s', n', arr2, T2, ht2, hh2, ha', hn', hx', hb'⟩ := h.tok q hq
        have hne : g' ≠ g := fun eg => by subst eg; exact e2 (h.tinj q t g' _ _ hq hk ht2 ht)
        refine ⟨g', cap', s', n', arr2, T2, by simp [Ghost.addTok, e]; exact ht2, (heap_setRow_other w g g' _ hne).trans hh2, ha', hn', fun o ho => ?_, hb'⟩
        simp only [Ghost.addTok, Ghost.grow]
        rw [if_neg (fun ⟨e', _⟩ => hne e')]
        exact hx' o ho
  · have main : ∀ q x, upd (upd K t false) t' true q = true → ((G.grow g (n * s) vs).addTok t' (g, cap, s, n + m)).tl q = some (g', x) → (q = t' ∧ g' = g) ∨ (q ≠ t' ∧ q ≠ t ∧ K q = true ∧ G.tl q = some (g', x)) := fun q x hq hx => by
      by_cases e : q = t'
      · subst e; simp [Ghost.addTok] at hx; exact .inl ⟨rfl, hx.1.symm⟩
      · rw [upd_ne _ _ e] at hq; simp [Ghost.addTok, e] at hx
        by_cases e2 : q = t
        · subst e2; rw [upd_same] at hq; cases hq
        · rw [upd_ne _ _ e2] at hq; exact .inr ⟨e, e2, hq, hx⟩
    rcases main q x hq hx1 with ⟨e, eg⟩ | ⟨e, e2, hk1, ht1⟩ <;> rcases main q' x' hq' hx2 with ⟨e', eg'⟩ | ⟨e', e2', hk2, ht2⟩
    · rw [e, e']
    · subst eg; exact absurd (h.tinj q' t g' _ _ hk2 hk ht2 ht) e2'
    · subst eg'; exact absurd (h.tinj q t g' _ _ hk1 hk ht1 ht) e2
    · exact h.tinj q q' g' x x' hk1 hk2 ht1 ht2
theorem Tr.grow_row {G : Ghost} {M : Mem} {K : Toks} {w : World} {p t t' : Path} (hp : p <:+ t') (hk : K t = true) {g cap s n : Nat} (ht : G.tl t = some (g, cap, s, n)) (vs : List Value) (m : Nat)
    (hle : G.le ((G.grow g (n * s) vs).addTok t' (g, cap, s, n + m))) (arr' : Array Value) :
    Tr p G M K w ((G.grow g (n * s) vs).addTok t' (g, cap, s, n + m)) M (upd (upd K t false) t' true) (w.setRow g arr') := by
  refine ⟨hle, fun q hq => ⟨rfl, by simp only [Ghost.addTok]; rw [if_neg (show ¬ q = _ from fun e => hq (by rw [e]; exact hp))]; rfl⟩, rfl, rfl, rfl, by rw [size_setRow]; exact Nat.le_refl _,
    fun c hc hn => heap_setRow_other w g c arr' (fun e => hn (.inr ⟨t, _, hk, e ▸ ht⟩)), fun c hc hw => ?_, fun c o hc hn => by
      simp only [Ghost.addTok, Ghost.grow]
      rw [if_neg (fun ⟨e, _⟩ => hn (.inr ⟨t, _, hk, e ▸ ht⟩))]⟩
  rcases hw with ⟨q, hq, hl'⟩ | ⟨q, x, hq, hx⟩
  · exact .inl ⟨q, hq, hl'⟩
  · by_cases e : q = t'
    · subst e; simp [Ghost.addTok] at hx; obtain ⟨rfl, _⟩ := hx; exact .inr ⟨t, _, hk, ht⟩
    · rw [upd_ne _ _ e] at hq; simp [Ghost.addTok, e] at hx
      by_cases e2 : q = t
      · subst e2; exact .inr ⟨q, _, hk, hx⟩
      · rw [upd_ne _ _ e2] at hq; exact .inr ⟨q, x, hq, hx⟩
end
section
open Go

structure R where
  pre : Prop
  v : V
def R.bad : R := ⟨False, .junk⟩

def aggT (P : Program) (t : TypeId) : Option Bool := match P.underlying t with
  | some (.struct _) | some (.array _ _) => some true
  | some _ => some false
  | none => none
def cut (P : Program) (t : TypeId) (cs : List V) (off : Nat) : R := match aggT P t with
  | some true => ⟨off + P.cellsOf t ≤ cs.length, .agg ((cs.drop off).take (P.cellsOf t))⟩
  | some false => ⟨off < cs.length, cs.getD off .junk⟩
  | none => .bad
def zval (P : Program) (t : TypeId) : Option V := ((P.info? t).bind (·.zero)).map ofVal

def rPick : V → V → V → R
  | .bool t, a, b => ⟨True, if t then a else b⟩
  | _, _, _ => .bad
def rLoad (P : Program) (M : Mem) (t : TypeId) : V → R
  | .ptr id off => match M id with
    | some (.cells cs) => cut P t cs off
    | _ => .bad
  | .cptr cs off => cut P t cs off
  | _ => .bad
def rField (P : Program) (s : TypeId) (f : Nat) (x : V) : R := match P.underlying s with
  | some (.struct fs) => match fs[f]? with
    | some fd => match x with
      | .ptr id off => ⟨0 < P.cellsOf fd.type, .ptr id (off + fd.offset)⟩
      | .cptr cs off => ⟨0 < P.cellsOf fd.type, .cptr cs (off + fd.offset)⟩
      | _ => .bad
    | none => .bad
  | _ => .bad
def rPart (P : Program) (s : TypeId) (f : Nat) (x : V) : R := match P.underlying s with
  | some (.struct fs) => match fs[f]? with
    | some fd => match x with
      | .agg cs => cut P fd.type cs fd.offset
      | _ => .bad
    | none => .bad
  | _ => .bad
def rIxAddr (P : Program) (t : TypeId) (x i : V) : R := match P.underlying t, i with
  | some (.slice e), .int _ n => match x with
    | .sl els _ => ⟨0 ≤ n ∧ n < els.length ∧ 0 < P.cellsOf e ∧ (els[n.toNat]?.getD []).length = P.cellsOf e, .cptr (els[n.toNat]?.getD []) 0⟩
    | .ms id off len _ => ⟨0 ≤ n ∧ n < len ∧ 0 < P.cellsOf e, .ptr id (off + n.toNat * P.cellsOf e)⟩
    | .gs id len s => ⟨0 ≤ n ∧ n < len ∧ 0 < P.cellsOf e, .ptr id (n.toNat * P.cellsOf e)⟩
    | _ => .bad
  | some (.array len e), .int _ n => match x with
    | .ptr id off => ⟨0 ≤ n ∧ n < len ∧ 0 < P.cellsOf e, .ptr id (off + n.toNat * P.cellsOf e)⟩
    | .cptr cs off => ⟨0 ≤ n ∧ n < len ∧ 0 < P.cellsOf e, .cptr cs (off + n.toNat * P.cellsOf e)⟩
    | _ => .bad
  | _, _ => .bad
def byteAt (s : ByteArray) (i : Int) : Option UInt8 := if 0 ≤ i then s[i.toNat]? else none
def rIx (P : Program) (t : TypeId) (x i : V) : R := match P.underlying t, i with
  | some .string, .int _ n => match x with
    | .str s => ⟨(byteAt s n).isSome = true, .int .u8 ((byteAt s n).getD 0).toNat⟩
    | _ => .bad
  | some (.array len e), .int _ n => match x with
    | .agg cs => ⟨0 ≤ n ∧ n < len ∧ 0 < P.cellsOf e ∧ (cut P e cs (n.toNat * P.cellsOf e)).pre, (cut P e cs (n.toNat * P.cellsOf e)).v⟩
    | _ => .bad
  | _, _ => .bad
def loOf : Option V → Option Int
  | none => some 0
  | some (.int _ n) => some n
  | _ => none
def hiOf (len : Nat) : Option V → Option Int
  | none => some len
  | some (.int _ n) => some n
  | _ => none
def rSlice (P : Program) (t : TypeId) (x : V) (lo hi : Option V) : R := match P.underlying t with
  | some (.slice e) => match x with
    | .sl els _ => match loOf lo, hiOf els.length hi with
      | some l, some h => ⟨0 ≤ l ∧ l ≤ h ∧ h ≤ els.length ∧ 0 < P.cellsOf e ∧ lenL (P.cellsOf e) els, .sl ((els.take h.toNat).drop l.toNat) .no⟩
      | _, _ => .bad
    | .nils => match loOf lo, hiOf 0 hi with
      | some l, some h => ⟨0 ≤ l ∧ l ≤ h ∧ h ≤ 0 ∧ 0 < P.cellsOf e, .nils⟩
      | _, _ => .bad
    | .ms id off len cap => match loOf lo, hiOf len hi with
      | some l, some h => ⟨0 ≤ l ∧ l ≤ h ∧ h ≤ cap ∧ l < cap ∧ 0 < P.cellsOf e, .ms id (off + l.toNat * P.cellsOf e) (h.toNat - l.toNat) (cap - l.toNat)⟩
      | _, _ => .bad
    | _ => .bad
  | some (.array n e) => match x with
    | .ptr id off => match loOf lo, hiOf n hi with
      | some l, some h => ⟨0 ≤ l ∧ l ≤ h ∧ h ≤ n ∧ l < n ∧ 0 < P.cellsOf e, .ms id (off + l.toNat * P.cellsOf e) (h.toNat - l.toNat) (n - l.toNat)⟩
      | _, _ => .bad
    | _ => .bad
  | some .string => match x with
    | .str s => match loOf lo, hiOf s.size hi with
      | some l, some h => ⟨0 ≤ l ∧ l ≤ h ∧ h ≤ s.size, .str (s.extract l.toNat h.toNat)⟩
      | _, _ => .bad
    | _ => .bad
  | _ => .bad
def intsOf : List V → Option (List Int)
  | [] => some []
  | .int .i64 n :: r => (intsOf r).map (n :: ·)
  | _ => none
def rBin (P : Program) (eq : TypeId → Bool) (op : BinOp) (t : TypeId) : V → V → R
  | .int k a, .int k' b => match op with
    | .shl => ⟨0 ≤ b, .int k (k.wrap (a * 2 ^ (min b.toNat k.bits)))⟩
    | .shr => ⟨0 ≤ b, .int k (a.fdiv (2 ^ (min b.toNat k.bits)))⟩
    | .add => ⟨k = k', .int k (k.wrap (a + b))⟩
    | .sub => ⟨k = k', .int k (k.wrap (a - b))⟩
    | .mul => ⟨k = k', .int k (k.wrap (a * b))⟩
    | .quo => ⟨k = k' ∧ b ≠ 0, .int k (k.wrap (a.tdiv b))⟩
    | .rem => ⟨k = k' ∧ b ≠ 0, .int k (a.tmod b)⟩
    | .and | .or | .xor | .andNot => ⟨k = k', .int k (bits op k a b)⟩
    | .eql => ⟨k = k', .bool (decide (a = b))⟩
    | .neq => ⟨k = k', .bool (!decide (a = b))⟩
    | .lss => ⟨k = k', .bool (decide (a < b))⟩
    | .leq => ⟨k = k', .bool (decide (a ≤ b))⟩
    | .gtr => ⟨k = k', .bool (decide (b < a))⟩
    | .geq => ⟨k = k', .bool (decide (b ≤ a))⟩
  | .bool a, .bool b => match op with
    | .eql => ⟨P.underlying t = some .bool, .bool (a == b)⟩
    | .neq => ⟨P.underlying t = some .bool, .bool (!(a == b))⟩
    | _ => .bad
  | .str a, .str b => match op with
    | .eql => ⟨True, .bool (a.toList == b.toList)⟩
    | .neq => ⟨True, .bool (!(a.toList == b.toList))⟩
    | _ => .bad
  | .agg cs, .agg ds => match op, eq t, intsOf cs, intsOf ds with
    | .eql, true, some xs, some ys => ⟨xs.length = P.cellsOf t ∧ ys.length = P.cellsOf t, .bool (decide (xs = ys))⟩
    | .neq, true, some xs, some ys => ⟨xs.length = P.cellsOf t ∧ ys.length = P.cellsOf t, .bool (!decide (xs = ys))⟩
    | _, _, _, _ => .bad
  | _, _ => .bad
def rUn (op : UnOp) : V → R
  | .bool b => match op with
    | .not => ⟨True, .bool (!b)⟩
    | _ => .bad
  | .int k n => match op with
    | .neg => ⟨True, .int k (k.wrap (0 - n))⟩
    | .xor => ⟨True, .int k (bits .xor k (if k.signed then -1 else k.max) n)⟩
    | _ => .bad
  | _ => .bad
def byteV : List V → UInt8
  | [.int .u8 n] => UInt8.ofNat n.toNat
  | _ => 0
def isByteV : List V → Bool
  | [.int .u8 _] => true
  | _ => false
def rConv (P : Program) (src dst : TypeId) (x : V) : R := match P.underlying src, P.underlying dst, x with
  | some _, some (.int k), .int _ n => ⟨True, .int k (k.wrap n)⟩
  | some _, some .string, .str s => ⟨True, .str s⟩
  | some (.slice e), some .string, .sl els _ => ⟨P.underlying e = some (.int .u8) ∧ P.cellsOf e = 1 ∧ ∀ el ∈ els, isByteV el = true, .str ⟨(els.map byteV).toArray⟩⟩
  | some (.slice e), some .string, .nils => ⟨P.underlying e = some (.int .u8), .str ⟨#[]⟩⟩
  | _, _, _ => .bad
def rExtract (i : Nat) : V → R
  | .tup vs => ⟨i < vs.length, vs.getD i .junk⟩
  | _ => .bad
def rNil : V → R
  | .ptr id off => ⟨True, .ptr id off⟩
  | .cptr cs off => ⟨True, .cptr cs off⟩
  | .fn f cs => ⟨True, .fn f cs⟩
  | _ => .bad
def rIface (P : Program) (t : TypeId) (x : V) : R := match P.underlying t with
  | some (.interface _) => .bad
  | none => .bad
  | some _ => ⟨True, .ifc t x⟩
def rAssert (P : Program) (asserted : TypeId) (commaOk : Bool) (x : V) : R := match P.underlying asserted, x with
  | some (.interface _), _ => .bad
  | some _, .ifc t v => match commaOk with
    | true => if t = asserted then ⟨True, .tup [v, .bool true]⟩ else match zval P asserted with
      | some z => ⟨True, .tup [z, .bool false]⟩
      | none => .bad
    | false => if t = asserted then ⟨True, v⟩ else .bad
  | some _, .nilif => match commaOk, zval P asserted with
    | true, some z => ⟨True, .tup [z, .bool false]⟩
    | _, _ => .bad
  | _, _ => .bad
def fillV (place : Nat → Option (Nat × Nat)) : List V → List (Nat × V) → Option (List V)
  | cs, [] => some cs
  | cs, (i, v) :: rest => match place i with
    | none => none
    | some (off, size) => if v.isJunk = false ∧ v.cells.length = size ∧ off + size ≤ cs.length then fillV place (splice cs off v.cells) rest else none
def rBuild (P : Program) (t : TypeId) (parts : List (Nat × V)) : R := match P.underlying t, zval P t with
  | some (.struct fs), some z => match fillV (fun i => fs[i]?.map fun f => (f.offset, P.cellsOf f.type)) z.cells parts with
    | some cs => ⟨fs.toList.all (fun f => (P.info? f.type).isSome) = true ∧ z.isJunk = false, .agg cs⟩
    | none => .bad
  | some (.array _ e), some z => match fillV (fun i => some (i * P.cellsOf e, P.cellsOf e)) z.cells parts with
    | some cs => ⟨0 < P.cellsOf e ∧ z.isJunk = false, .agg cs⟩
    | none => .bad
  | _, _ => .bad
def rBuiltin (P : Program) (b : Builtin) (ts : Array TypeId) (args : List V) : R := match b, ts[0]?, args with
  | .len, some t, [x] => match P.underlying t, x with
    | some (.slice _), .sl els _ => ⟨True, .int .i64 els.length⟩
    | some (.slice _), .nils => ⟨True, .int .i64 0⟩
    | some (.slice _), .ms _ _ len _ => ⟨True, .int .i64 len⟩
    | some (.slice _), .gs _ len _ => ⟨True, .int .i64 len⟩
    | some .string, .str s => ⟨True, .int .i64 s.size⟩
    | some (.array n _), _ => ⟨True, .int .i64 n⟩
    | _, _ => .bad
  | .max, _, [.int k x, .int k' y] => ⟨k = k', .int k (if y > x then y else x)⟩
  | .min, _, [.int k x, .int k' y] => ⟨k = k', .int k (if y < x then y else x)⟩
  | _, _, _ => .bad

/-! ### They are what the machine comes to -/
def SV (P : Program) (G : Ghost) (w : World) (s : Sem Value) (r : R) : Prop := r.pre → ∃ v, s.run P w = .ok v w ∧ Rep G v r.v
theorem SV.bad (P : Program) (G : Ghost) (w : World) (s : Sem Value) : SV P G w s .bad := fun h => h.elim

theorem info_some {P : Program} {t : TypeId} {d : TypeDesc} (h : P.underlying t = some d) : ∃ i, P.info? t = some i := by
  unfold Program.underlying at h
  cases hi : P.info? t with
  | none => simp [hi] at h
  | some i => exact ⟨i, rfl⟩
theorem info_of_cells {P : Program} {t : TypeId} (h : 0 < P.cellsOf t) : ∃ i, P.info? t = some i ∧ i.size = P.cellsOf t := by
  unfold Program.cellsOf at *
  cases hi : P.info? t with
  | none => simp [hi] at h
  | some i => exact ⟨i, rfl, by simp⟩
theorem run_sizeOf {P : Program} {t : TypeId} {i : TypeInfo} (h : P.info? t = some i) (w : World) : (sizeOf t).run P w = .ok (P.cellsOf t) w := by
  simp [sizeOf, typeInfo, h, Program.cellsOf]
theorem run_isAgg {P : Program} {t : TypeId} {b : Bool} (h : aggT P t = some b) (w : World) : (isAgg t).run P w = .ok b w := by
  unfold aggT at h
  split at h
  · rename_i hu; cases h; simp [isAgg, run_underlying hu]
  · rename_i hu; cases h; simp [isAgg, run_underlying hu]
  · rename_i d h1 h2 hu
    cases h
    simp only [isAgg, Sem.run_bind, run_underlying hu, Result.andThen_ok]
    rfl
  · cases h
theorem agg_info {P : Program} {t : TypeId} {b : Bool} (h : aggT P t = some b) : ∃ i, P.info? t = some i := by
  unfold aggT at h
  split at h
  · rename_i hu; exact info_some hu
  · rename_i hu; exact info_some hu
  · rename_i hu; exact info_some hu
  · cases h

/-- A load of what reads as cells. -/
theorem sv_cut {P : Program} {G : Ghost} {w : World} {t : TypeId} {b o : Nat} {arr : List Value} {cs : List V} (hr : RepL G arr cs) (off : Nat) (hc : ∀ (j : Nat) v, arr[j]? = some v → w.cell? ⟨b, o + j, none⟩ = some v) :
    SV P G w (loadVar t ⟨b, o + off, none⟩) (cut P t cs off) := by
  intro hp
  unfold cut at hp ⊢
  split at hp
  · rename_i ha
    simp only [ha]
    simp only at hp
    obtain ⟨i, hi⟩ := agg_info ha
    have hl : ((arr.drop off).take (P.cellsOf t)).length = P.cellsOf t := by
      have := hr.1; simp; omega
    have := run_loadCells_list (P := P) w ⟨b, o + off, none⟩ ((arr.drop off).take (P.cellsOf t)) (fun j v hv => by
      rw [List.getElem?_take] at hv
      split at hv
      · rw [List.getElem?_drop] at hv
        rw [Addr.add_lit, Nat.add_assoc]
        exact hc _ _ hv
      · cases hv)
    rw [hl] at this
    refine ⟨.agg ((arr.drop off).take (P.cellsOf t)).toArray, ?_, rep_agg (by simpa using (hr.drop off).take _)⟩
    simp [loadVar, run_isAgg ha, run_sizeOf hi, this]
  · rename_i ha
    simp only [ha]
    simp only at hp
    obtain ⟨v, hv, hrep⟩ := hr.get (i := off) (x := cs.getD off .junk) (by simp [List.getD, hp])
    refine ⟨v, ?_, hrep⟩
    have := hc off v hv
    simp [loadVar, run_isAgg ha, this]
  · exact hp.elim

theorem sv_pick {P : Program} {G : Ghost} {w : World} {c a b : Value} {c' a' b' : V} (hc : Rep G c c') (ha : Rep G a a') (hb : Rep G b b') :
    SV P G w (do pure (if ← asBool c then a else b)) (rPick c' a' b') := by
  cases hc <;> first | exact fun h => h.elim | skip
  rename_i t
  intro _
  refine ⟨if t then a else b, by simp [asBool], ?_⟩
  cases t <;> simpa [rPick]

theorem sv_load {P : Program} {G : Ghost} {M : Mem} {K : Toks} {w : World} (hs : Sim G M K w) (t : TypeId) {x : Value} {x' : V} (hx : Rep G x x') : SV P G w (Instr.loadAt t x) (rLoad P M t x') := by
  cases hx with
  | ptr id off b hl =>
    simp only [rLoad]
    split
    · rename_i cs hm
      obtain ⟨b', arr, T, hl', hh, hr, _⟩ := hs.box id cs hm
      rw [hl] at hl'; cases hl'
      have := sv_cut (P := P) (t := t) (w := w) (o := 0) (b := b) hr off (fun j v hv => by
        rw [Nat.zero_add, cell_of_heap hh]
        rw [List.getElem?_take] at hv
        split at hv
        · simpa using hv
        · cases hv)
      intro hp
      obtain ⟨v, hv, hrep⟩ := this hp
      exact ⟨v, by simpa [Instr.loadAt, Instr.sureAddr] using hv, hrep⟩
    · exact fun h => h.elim
  | cptr b o cs off vs hfx hrep =>
    have hr : RepL G ((List.range cs.length).map vs) cs := ⟨by simp, fun i v c hv hc => by
      rw [List.getElem?_map] at hv
      obtain ⟨j, hj, rfl⟩ := Option.map_eq_some_iff.1 hv
      have := (List.getElem?_eq_some_iff.1 hj).2
      simp at this; subst this
      exact hrep _ _ hc⟩
    have := sv_cut (P := P) (t := t) (w := w) (o := o) (b := b) hr off (fun j v hv => by
      rw [List.getElem?_map] at hv
      obtain ⟨i, hi, rfl⟩ := Option.map_eq_some_iff.1 hv
      obtain ⟨hlt, hi'⟩ := List.getElem?_eq_some_iff.1 hi
      simp at hi' hlt; subst hi'
      exact hs.fx _ _ _ (hfx j cs[j] (by simp [hlt])))
    intro hp
    obtain ⟨v, hv, hrep⟩ := this hp
    exact ⟨v, by simpa [Instr.loadAt, Instr.sureAddr] using hv, hrep⟩
  | _ => exact fun h => h.elim

theorem sv_field {P : Program} {G : Ghost} {w : World} (s : TypeId) (f : Nat) {x : Value} {x' : V} (hx : Rep G x x') : SV P G w (Instr.fieldAt s x f) (rField P s f x') := by
  unfold rField
  split
  · rename_i fs hu
    split
    · rename_i fd hf
      cases hx with
      | ptr id off b hl =>
        intro hp
        obtain ⟨i, hi, hsz⟩ := info_of_cells hp
        have hp' : P.cellsOf fd.type ≠ 0 := by simp only at hp; omega
        exact ⟨_, by simp [Instr.fieldAt, run_underlying hu, hf, Instr.sureAddr, fieldPlace, run_sizeOf hi, hp']; rfl, by rw [Addr.add_lit]; exact .ptr id _ b hl⟩
      | cptr b o cs off vs hfx hrep =>
        intro hp
        obtain ⟨i, hi, hsz⟩ := info_of_cells hp
        have hp' : P.cellsOf fd.type ≠ 0 := by simp only at hp; omega
        exact ⟨_, by simp [Instr.fieldAt, run_underlying hu, hf, Instr.sureAddr, fieldPlace, run_sizeOf hi, hp']; rfl, by rw [Addr.add_lit, Nat.add_assoc]; exact .cptr b o cs _ vs hfx hrep⟩
      | _ => exact fun h => h.elim
    · exact fun h => h.elim
  · exact fun h => h.elim

theorem sv_partOf {P : Program} {G : Ghost} {w : World} {t : TypeId} {arr : Array Value} {cs : List V} (hr : RepL G arr.toList cs) (off : Nat) : SV P G w (part t arr off) (cut P t cs off) := by
  intro hp
  unfold cut at hp ⊢
  split at hp
  · rename_i ha
    simp only [ha]
    obtain ⟨i, hi⟩ := agg_info ha
    refine ⟨.agg (arr.extract off (off + P.cellsOf t)), by simp [part, run_isAgg ha, run_sizeOf hi], rep_agg ?_⟩
    have := (hr.drop off).take (P.cellsOf t)
    simpa [Array.toList_extract, List.extract] using this
  · rename_i ha
    simp only [ha]
    simp only at hp
    obtain ⟨v, hv, hrep⟩ := hr.get (i := off) (x := cs.getD off .junk) (by simp [List.getD, hp])
    refine ⟨v, ?_, hrep⟩
    have hv' : arr[off]? = some v := by simpa using hv
    simp [part, run_isAgg ha, hv']
  · exact hp.elim
theorem sv_part {P : Program} {G : Ghost} {w : World} (s : TypeId) (f : Nat) {x : Value} {x' : V} (hx : Rep G x x') : SV P G w (Instr.field s x f) (rPart P s f x') := by
  unfold rPart
  split
  · rename_i fs hu
    split
    · rename_i fd hf
      cases hx with
      | agg arr cs hl h =>
        have := sv_partOf (P := P) (w := w) (t := fd.type) (arr := arr) (cs := cs) ⟨by simpa using hl, fun i v c hv hc => h i v c (by simpa using hv) hc⟩ fd.offset
        intro hp
        obtain ⟨v, hv, hr⟩ := this hp
        exact ⟨v, by simpa [Instr.field, run_underlying hu, hf, asAgg] using hv, hr⟩
      | _ => exact fun h => h.elim
    · exact fun h => h.elim
  · exact fun h => h.elim

theorem rep_int_inv {G : Ghost} {v : Value} {k : IntKind} {n : Int} (h : Rep G v (.int k n)) : v = .int k n := by cases h; rfl
theorem sv_ixAddr {P : Program} {G : Ghost} {w : World} (t : TypeId) {x i : Value} {x' i' : V} (hx : Rep G x x') (hi : Rep G i i') : SV P G w (Instr.indexAt t x i) (rIxAddr P t x' i') := by
  unfold rIxAddr
  split
  · rename_i e k n hu
    obtain rfl := rep_int_inv hi
    cases hx with
    | sl b o c s els tk vs hs hc hm hfx hrep hex htk =>
      rintro ⟨h0, h1, h2, h3⟩
      obtain ⟨inf, hi, hsz⟩ := info_of_cells h2
      have hlt : n.toNat < els.length := by omega
      have hg : els[n.toNat]? = some els[n.toNat] := by simp [hlt]
      have hse : s = P.cellsOf e := by rw [← hs els[n.toNat] (by simp), ← h3, hg]; rfl
      subst hse
      refine ⟨.pointer (some ⟨b, o + n.toNat * P.cellsOf e, none⟩), ?_, ?_⟩
      · simp [Instr.indexAt, asIntOf, run_underlying hu, h0, h1, run_sizeOf hi, Addr.add_lit]
      · simp only [hg, Option.getD_some]
        exact .cptr b (o + n.toNat * P.cellsOf e) els[n.toNat] 0 (vs n.toNat) (fun j x hj => hfx _ _ _ _ hg hj) (fun j x hj => hrep _ _ _ _ hg hj)
    | sl0 A c => rintro ⟨h0, h1, _⟩; simp at h1; omega
    | ms id off len cap b hl =>
      rintro ⟨h0, h1, h2⟩
      obtain ⟨inf, hi, hsz⟩ := info_of_cells h2
      exact ⟨_, by simp [Instr.indexAt, asIntOf, run_underlying hu, h0, h1, run_sizeOf hi, Addr.add_lit], .ptr id _ b hl⟩
    | gs id len s c b hl hg hcc hm =>
      rintro ⟨h0, h1, h2⟩
      obtain ⟨inf, hi, hsz⟩ := info_of_cells h2
      exact ⟨_, by simp [Instr.indexAt, asIntOf, run_underlying hu, h0, h1, run_sizeOf hi, Addr.add_lit], .ptr id _ b hl⟩
    | _ => exact fun h => h.elim
  · rename_i len e k n hu
    obtain rfl := rep_int_inv hi
    cases hx with
    | ptr id off b hl =>
      rintro ⟨h0, h1, h2⟩
      obtain ⟨inf, hi, hsz⟩ := info_of_cells h2
      exact ⟨_, by simp [Instr.indexAt, asIntOf, run_underlying hu, h0, h1, run_sizeOf hi, Addr.add_lit, Instr.sureAddr], .ptr id _ b hl⟩
    | cptr b o cs off vs hfx hrep =>
      rintro ⟨h0, h1, h2⟩
      obtain ⟨inf, hi, hsz⟩ := info_of_cells h2
      exact ⟨_, by simp [Instr.indexAt, asIntOf, run_underlying hu, h0, h1, run_sizeOf hi, Addr.add_lit, Instr.sureAddr]; rfl, by rw [Nat.add_assoc]; exact .cptr b o cs _ vs hfx hrep⟩
    | _ => exact fun h => h.elim
  · exact fun h => h.elim
theorem sv_ix {P : Program} {G : Ghost} {w : World} (t : TypeId) {x i : Value} {x' i' : V} (hx : Rep G x x') (hi : Rep G i i') : SV P G w (Instr.index t x i) (rIx P t x' i') := by
  unfold rIx
  split
  · rename_i k n hu
    obtain rfl := rep_int_inv hi
    cases hx with
    | str s =>
      intro hp
      obtain ⟨b, hb⟩ := Option.isSome_iff_exists.1 hp
      refine ⟨.int .u8 b.toNat, ?_, by simp only [hb, Option.getD_some]; exact .int _ _⟩
      unfold byteAt at hb
      simp [Instr.index, asIntOf, run_underlying hu, hb]
    | _ => exact fun h => h.elim
  · rename_i len e k n hu
    obtain rfl := rep_int_inv hi
    cases hx with
    | agg arr cs hl h =>
      rintro ⟨h0, h1, h2, h3⟩
      obtain ⟨inf, hi, hsz⟩ := info_of_cells h2
      obtain ⟨v, hv, hr⟩ := sv_partOf (P := P) (w := w) (t := e) (arr := arr) (cs := cs) ⟨by simpa using hl, fun i v c hv hc => h i v c (by simpa using hv) hc⟩ _ h3
      exact ⟨v, by simpa [Instr.index, asIntOf, run_underlying hu, h0, h1, run_sizeOf hi] using hv, hr⟩
    | _ => exact fun h => h.elim
  · exact fun h => h.elim

theorem run_bound (P : Program) (w : World) (k : IntKind) (i : Int) (y : Nat) (c : BoundsCode) (h0 : 0 ≤ i) (h1 : i ≤ y) : (Instr.sliceBound (.int k i) y c).run P w = .ok i.toNat w := by
  simp [Instr.sliceBound, asIntOf, h0, h1]
def ivO : Option Value → Option V → Prop
  | none, none => True
  | some v, some x => ∀ k n, x = .int k n → v = .int k n
  | _, _ => False
theorem run_bounds {P : Program} {w : World} (isS : Bool) (len cap : Nat) {lo hi : Option Value} {lo' hi' : Option V} (hl : ivO lo lo') (hh : ivO hi hi') {l h : Int} (el : loOf lo' = some l) (eh : hiOf len hi' = some h)
    (h0 : 0 ≤ l) (h1 : l ≤ h) (h2 : h ≤ cap) : (Instr.sliceBounds isS len cap lo hi none).run P w = .ok (l.toNat, h.toNat, cap) w := by
  have hhn : ((h.toNat : Nat) : Int) = h := Int.toNat_of_nonneg (by omega)
  have hL : (lo = none ∧ l = 0) ∨ ∃ k, lo = some (.int k l) := by
    cases lo with
    | none => cases lo' with
      | none => simp [loOf] at el; exact .inl ⟨rfl, el.symm⟩
      | some x => exact hl.elim
    | some v => cases lo' with
      | none => exact hl.elim
      | some x => cases x <;> simp [loOf] at el; rename_i k n; subst el; exact .inr ⟨k, by rw [hl k n rfl]⟩
  have hH : (hi = none ∧ h = len) ∨ ∃ k, hi = some (.int k h) := by
    cases hi with
    | none => cases hi' with
      | none => simp [hiOf] at eh; exact .inl ⟨rfl, eh.symm⟩
      | some x => exact hh.elim
    | some v => cases hi' with
      | none => exact hh.elim
      | some x => cases x <;> simp [hiOf] at eh; rename_i k n; subst eh; exact .inr ⟨k, by rw [hh k n rfl]⟩
  have hb1 : ∀ k, (Instr.sliceBound (.int k h) cap (if isS then .sliceAcap else .sliceAlen)).run P w = .ok h.toNat w := fun k => run_bound P w k h cap _ (by omega) h2
  have hb2 : ∀ k, (Instr.sliceBound (.int k l) h.toNat .sliceB).run P w = .ok l.toNat w := fun k => run_bound P w k l h.toNat _ h0 (by omega)
  clear hl hh el eh
  rcases hH with ⟨rfl, rfl⟩ | ⟨k, rfl⟩ <;> rcases hL with ⟨rfl, rfl⟩ | ⟨k', rfl⟩
  · simp [Instr.sliceBounds]
  · simp only [Int.toNat_natCast] at hb2
    simp [Instr.sliceBounds, hb2]
  · simp [Instr.sliceBounds, hb1]
  · simp [Instr.sliceBounds, hb1, hb2]
theorem sv_slice {P : Program} {G : Ghost} {w : World} (t : TypeId) {x : Value} {x' : V} {lo hi : Option Value} {lo' hi' : Option V} (hx : Rep G x x') (hl : ivO lo lo') (hh : ivO hi hi') :
    SV P G w (Instr.sliceAt t x lo hi none) (rSlice P t x' lo' hi') := by
  unfold rSlice
  split
  · rename_i e hu
    cases hx with
    | sl b o c s els tk vs hs hc hm hfx hrep hex htk =>
      simp only
      split
      · rename_i l h el eh
        rintro ⟨h0, h1, h2, h3, h4⟩
        obtain ⟨inf, hi, hsz⟩ := info_of_cells h3
        have hb := run_bounds (P := P) (w := w) true els.length c hl hh el eh h0 h1 (by omega)
        refine ⟨.slice (if c = l.toNat then some ⟨b, o, none⟩ else some ⟨b, o + l.toNat * P.cellsOf e, none⟩) (h.toNat - l.toNat) (c - l.toNat), ?_, ?_⟩
        · simp only [Instr.sliceAt, Sem.run_bind, run_underlying hu, Result.andThen_ok, Instr.slice, hb, run_sizeOf hi, Sem.run_pure, Option.map_some, Addr.add_lit]
        · have hlen : ((els.take h.toNat).drop l.toNat).length = h.toNat - l.toNat := by simp; omega
          by_cases hcl : c = l.toNat
          · have : (els.take h.toNat).drop l.toNat = [] := List.eq_nil_of_length_eq_zero (by rw [hlen]; omega)
            rw [this, if_pos hcl]
            have e0 : h.toNat - l.toNat = 0 := by omega
            rw [e0]
            exact .sl0 _ _
          · rw [if_neg hcl, ← hlen]
            have get : ∀ (i : Nat) el, ((els.take h.toNat).drop l.toNat)[i]? = some el → els[l.toNat + i]? = some el := fun i el hi => by
              rw [List.getElem?_drop, List.getElem?_take] at hi
              split at hi
              · exact hi
              · cases hi
            by_cases hne : els = []
            · subst hne
              simp only [List.take_nil, List.drop_nil, List.length_nil]
              exact .sl0 _ _
            obtain ⟨e0, he0⟩ := List.exists_mem_of_ne_nil els hne
            have hse : s = P.cellsOf e := by rw [← hs e0 he0, h4 e0 he0]
            subst hse
            refine .sl b (o + l.toNat * P.cellsOf e) _ (P.cellsOf e) _ .no (fun i j => vs (l.toNat + i) j) (fun el hel => ?_) (by rw [hlen]; omega) (by omega) (fun i j el x h1 h2 => ?_) (fun i j el x h1 h2 => ?_) (by simp) (by simp)
            · exact hs el (List.mem_of_mem_take (List.mem_of_mem_drop hel))
            · have := hfx _ _ _ _ (get i el h1) h2
              rw [Nat.add_assoc o, ← Nat.add_mul]
              exact this
            · exact hrep _ _ _ _ (get i el h1) h2
      · exact fun h => h.elim
    | sl0 A c =>
      simp only
      split
      · rename_i l h el eh
        rintro ⟨h0, h1, h2, h3, h4⟩
        obtain ⟨inf, hi, hsz⟩ := info_of_cells h3
        simp only [List.length_nil] at h2 eh
        have hb := run_bounds (P := P) (w := w) true 0 c hl hh el eh h0 h1 (by omega)
        refine ⟨.slice (if c = l.toNat then A else A.map fun a => a.add (l.toNat * P.cellsOf e)) (h.toNat - l.toNat) (c - l.toNat), ?_, ?_⟩
        · simp only [Instr.sliceAt, Sem.run_bind, run_underlying hu, Result.andThen_ok, Instr.slice, hb, run_sizeOf hi, Sem.run_pure]
        · have e0 : h.toNat - l.toNat = 0 := by omega
          rw [e0]
          simp only [List.take_nil, List.drop_nil]
          exact .sl0 _ _
      · exact fun h => h.elim
    | nils =>
      simp only
      split
      · rename_i l h el eh
        rintro ⟨h0, h1, h2, h3⟩
        obtain ⟨inf, hi, hsz⟩ := info_of_cells h3
        have hb := run_bounds (P := P) (w := w) true 0 0 hl hh el eh h0 h1 (by omega)
        have e1 : l.toNat = 0 := by omega
        have e2 : h.toNat = 0 := by omega
        refine ⟨.slice none 0 0, ?_, .nils⟩
        simp [Instr.sliceAt, run_underlying hu, Instr.slice, hb, run_sizeOf hi, e1, e2]
      · exact fun h => h.elim
    | ms id off len cap b hl2 =>
      simp only
      split
      · rename_i l h el eh
        rintro ⟨h0, h1, h2, h3, h4⟩
        obtain ⟨inf, hi, hsz⟩ := info_of_cells h4
        have hb := run_bounds (P := P) (w := w) true len cap hl hh el eh h0 h1 h2
        have hne : ¬ cap = l.toNat := by omega
        exact ⟨_, by simp [Instr.sliceAt, run_underlying hu, Instr.slice, hb, run_sizeOf hi, hne, Addr.add_lit], .ms id _ _ _ b hl2⟩
      · exact fun h => h.elim
    | _ => exact fun h => h.elim
  · rename_i n e hu
    cases hx with
    | ptr id off b hl2 =>
      simp only
      split
      · rename_i l h el eh
        rintro ⟨h0, h1, h2, h3, h4⟩
        obtain ⟨inf, hi, hsz⟩ := info_of_cells h4
        have hb := run_bounds (P := P) (w := w) false n n hl hh el eh h0 h1 h2
        have hne : ¬ n = l.toNat := by omega
        exact ⟨_, by simp [Instr.sliceAt, run_underlying hu, Instr.sureAddr, hb, run_sizeOf hi, hne, Addr.add_lit], .ms id _ _ _ b hl2⟩
      · exact fun h => h.elim
    | _ => exact fun h => h.elim
  · rename_i hu
    cases hx with
    | str s =>
      simp only
      split
      · rename_i l h el eh
        rintro ⟨h0, h1, h2⟩
        have hb := run_bounds (P := P) (w := w) false s.size s.size hl hh el eh h0 h1 h2
        exact ⟨_, by simp [Instr.sliceAt, run_underlying hu, Instr.slice, hb], .str _⟩
      · exact fun h => h.elim
    | _ => exact fun h => h.elim
  · exact fun h => h.elim
end
end Go.Proofs.YtaacfmakfkaddaaDoor.Ax
