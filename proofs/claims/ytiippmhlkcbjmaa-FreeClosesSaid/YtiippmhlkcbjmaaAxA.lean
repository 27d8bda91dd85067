/- Abstract execution, part A: values without addresses, the state, what an operation does; and how they stand for the machine's. -/
import Derived.Orders
import Derived.Laws.Sem
import Derived.Laws.Append
import Derived.Laws.AppendOwn
import Derived.Laws.CopyRow
import Derived.Laws.Cells
import Derived.Laws.Entries
import Derived.Below
import Derived.RowKit3
set_option linter.unusedVariables false
set_option linter.unusedSimpArgs false
namespace Go.Proofs.Ytiippmhlkcbjmaa.Ax
open Go

abbrev Path := List Nat

/-- Whether a slice may grow: not known; exactly full; the owner of its row. -/
inductive Tk where
  | no
  | ex
  | own (p : Path) (s : Nat)

inductive V where
  | bool (b : Bool)
  | int (k : IntKind) (n : Int)
  | str (s : ByteArray)
  | agg (cs : List V)
  | tup (vs : List V)
  | nils
  | sl (els : List (List V)) (tk : Tk)
  | ms (id : Path) (off len cap : Nat)
  | ptr (id : Path) (off : Nat)
  | cptr (cs : List V) (off : Nat)
  | nilp
  | fn (f : FuncId) (caps : List V)
  | nilf
  | ifc (t : TypeId) (v : V)
  | nilif
  | mapv (id : Path)
  | nilm
  | yl (l : Nat)
  | junk

def ofLeaf : Value → V
  | .bool b => .bool b
  | .int k n => .int k n
  | .string s => .str s
  | .pointer none => .nilp
  | .slice none 0 0 => .nils
  | .nilFunc => .nilf
  | .nilIface => .nilif
  | .map none => .nilm
  | _ => .junk
def ofVal : Value → V
  | .agg cs => .agg (cs.toList.map ofLeaf)
  | .tuple vs => .tup (vs.toList.map ofLeaf)
  | v => ofLeaf v

def V.cells : V → List V
  | .agg cs => cs
  | v => [v]
def V.isJunk : V → Bool
  | .junk => true
  | _ => false
/-- What is handed on: no slice may grow. -/
def V.er : V → V
  | .sl els _ => .sl els .no
  | .nils => .sl [] .no
  | v => v
def V.erase : V → V
  | .agg cs => .agg (cs.map V.er)
  | .tup vs => .tup (vs.map fun v => match v with | .agg cs => .agg (cs.map V.er) | v => v.er)
  | v => v.er

/-- What is fixed for good; where boxes and growing rows lie. -/
structure Ghost where
  fx : Nat → Nat → Option Value
  loc : Path → Option Nat
  tl : Path → Option (Nat × Nat × Nat × Nat)

structure Ghost.le (G H : Ghost) : Prop where
  fx : ∀ b o v, G.fx b o = some v → H.fx b o = some v
  loc : ∀ p b, G.loc p = some b → H.loc p = some b
  tl : ∀ p x, G.tl p = some x → H.tl p = some x
theorem Ghost.le.refl (G : Ghost) : G.le G := ⟨fun _ _ _ h => h, fun _ _ h => h, fun _ _ h => h⟩
theorem Ghost.le.trans {G H I : Ghost} (a : G.le H) (b : H.le I) : G.le I :=
  ⟨fun _ _ _ h => b.fx _ _ _ (a.fx _ _ _ h), fun _ _ h => b.loc _ _ (a.loc _ _ h), fun _ _ h => b.tl _ _ (a.tl _ _ h)⟩

inductive Rep (G : Ghost) : Value → V → Prop
  | bool (b : Bool) : Rep G (.bool b) (.bool b)
  | int (k : IntKind) (n : Int) : Rep G (.int k n) (.int k n)
  | str (s : ByteArray) : Rep G (.string s) (.str s)
  | agg (arr : Array Value) (cs : List V) (hl : arr.size = cs.length) (h : ∀ (i : Nat) v c, arr[i]? = some v → cs[i]? = some c → Rep G v c) : Rep G (.agg arr) (.agg cs)
  | tup (arr : Array Value) (cs : List V) (hl : arr.size = cs.length) (h : ∀ (i : Nat) v c, arr[i]? = some v → cs[i]? = some c → Rep G v c) : Rep G (.tuple arr) (.tup cs)
  | nils : Rep G (.slice none 0 0) .nils
  | sl0 (A : Option Addr) (c : Nat) : Rep G (.slice A 0 c) (.sl [] .no)
  | sl (b o c s : Nat) (els : List (List V)) (tk : Tk) (vs : Nat → Nat → Value) (hs : ∀ el ∈ els, el.length = s) (hc : els.length ≤ c) (hm : c ≤ 9223372036854775807)
      (hfx : ∀ (i j : Nat) el x, els[i]? = some el → el[j]? = some x → G.fx b (o + i * s + j) = some (vs i j))
      (hrep : ∀ (i j : Nat) el x, els[i]? = some el → el[j]? = some x → Rep G (vs i j) x)
      (hex : tk = .ex → c = els.length)
      (htk : ∀ p s', tk = .own p s' → o = 0 ∧ s' = s ∧ G.tl p = some (b, c, s, els.length)) :
      Rep G (.slice (some ⟨b, o, none⟩) els.length c) (.sl els tk)
  | ms (id : Path) (off len cap b : Nat) (h : G.loc id = some b) : Rep G (.slice (some ⟨b, off, none⟩) len cap) (.ms id off len cap)
  | ptr (id : Path) (off b : Nat) (h : G.loc id = some b) : Rep G (.pointer (some ⟨b, off, none⟩)) (.ptr id off)
  | cptr (b o : Nat) (cs : List V) (off : Nat) (vs : Nat → Value) (hfx : ∀ (j : Nat) x, cs[j]? = some x → G.fx b (o + j) = some (vs j)) (hrep : ∀ (j : Nat) x, cs[j]? = some x → Rep G (vs j) x) :
      Rep G (.pointer (some ⟨b, o + off, none⟩)) (.cptr cs off)
  | nilp : Rep G (.pointer none) .nilp
  | fn (f : FuncId) (arr : Array Value) (cs : List V) (hl : arr.size = cs.length) (h : ∀ (i : Nat) v c, arr[i]? = some v → cs[i]? = some c → Rep G v c) : Rep G (.func (.func f) #[] arr) (.fn f cs)
  | nilf : Rep G .nilFunc .nilf
  | ifc (t : TypeId) (v : Value) (x : V) (h : Rep G v x) : Rep G (.iface t v) (.ifc t x)
  | nilif : Rep G .nilIface .nilif
  | mapv (id : Path) (b : Nat) (h : G.loc id = some b) : Rep G (.map (some b)) (.mapv id)
  | nilm : Rep G (.map none) .nilm
  | yl (l : Nat) : Rep G (.func (.yield l) #[] #[]) (.yl l)
  | junk (v : Value) : Rep G v .junk

theorem Rep.mono {G H : Ghost} (hle : G.le H) {v : Value} {x : V} (h : Rep G v x) : Rep H v x := by
  induction h with
  | bool b => exact .bool b
  | int k n => exact .int k n
  | str s => exact .str s
  | agg arr cs hl _ ih => exact .agg arr cs hl ih
  | tup arr cs hl _ ih => exact .tup arr cs hl ih
  | nils => exact .nils
  | sl0 A c => exact .sl0 A c
  | sl b o c s els tk vs hs hc hm hfx _ hex htk ih =>
    exact .sl b o c s els tk vs hs hc hm (fun i j el x h1 h2 => hle.fx _ _ _ (hfx i j el x h1 h2)) ih hex (fun p s' hp => ⟨(htk p s' hp).1, (htk p s' hp).2.1, hle.tl _ _ (htk p s' hp).2.2⟩)
  | ms id off len cap b h => exact .ms id off len cap b (hle.loc _ _ h)
  | ptr id off b h => exact .ptr id off b (hle.loc _ _ h)
  | cptr b o cs off vs hfx _ ih => exact .cptr b o cs off vs (fun j x h => hle.fx _ _ _ (hfx j x h)) ih
  | nilp => exact .nilp
  | fn f arr cs hl _ ih => exact .fn f arr cs hl ih
  | nilf => exact .nilf
  | ifc t v x _ ih => exact .ifc t v x ih
  | nilif => exact .nilif
  | mapv id b h => exact .mapv id b (hle.loc _ _ h)
  | nilm => exact .nilm
  | yl l => exact .yl l
  | junk v => exact .junk v

def RepL (G : Ghost) (arr : List Value) (cs : List V) : Prop := arr.length = cs.length ∧ ∀ (i : Nat) v c, arr[i]? = some v → cs[i]? = some c → Rep G v c
theorem RepL.mono {G H : Ghost} (hle : G.le H) {a : List Value} {c : List V} (h : RepL G a c) : RepL H a c := ⟨h.1, fun i v x hv hx => (h.2 i v x hv hx).mono hle⟩
theorem RepL.nil (G : Ghost) : RepL G [] [] := ⟨rfl, fun i v c h => by simp at h⟩
theorem RepL.cons {G : Ghost} {v : Value} {x : V} {a : List Value} {c : List V} (h : Rep G v x) (t : RepL G a c) : RepL G (v :: a) (x :: c) :=
  ⟨by simp [t.1], fun i u y hu hy => by cases i with | zero => simp at hu hy; subst hu; subst hy; exact h | succ i => simp at hu hy; exact t.2 i u y hu hy⟩
theorem RepL.append {G : Ghost} {a a' : List Value} {c c' : List V} (h : RepL G a c) (h' : RepL G a' c') : RepL G (a ++ a') (c ++ c') := by
  refine ⟨by simp [h.1, h'.1], fun i v x hv hx => ?_⟩
  rw [List.getElem?_append] at hv hx
  rw [h.1] at hv
  split at hv
  · rename_i hi; rw [if_pos hi] at hx; exact h.2 i v x hv hx
  · rename_i hi; rw [if_neg hi] at hx; exact h'.2 _ v x hv hx
theorem RepL.take {G : Ghost} {a : List Value} {c : List V} (h : RepL G a c) (n : Nat) : RepL G (a.take n) (c.take n) := by
  refine ⟨by simp [h.1], fun i v x hv hx => ?_⟩
  rw [List.getElem?_take] at hv hx
  split at hv
  · rename_i hi; rw [if_pos hi] at hx; exact h.2 i v x hv hx
  · cases hv
theorem RepL.drop {G : Ghost} {a : List Value} {c : List V} (h : RepL G a c) (n : Nat) : RepL G (a.drop n) (c.drop n) := by
  refine ⟨by simp [h.1], fun i v x hv hx => ?_⟩
  rw [List.getElem?_drop] at hv hx
  exact h.2 _ v x hv hx
theorem RepL.get {G : Ghost} {a : List Value} {c : List V} (h : RepL G a c) {i : Nat} {x : V} (hx : c[i]? = some x) : ∃ v, a[i]? = some v ∧ Rep G v x := by
  have hi : i < a.length := by rw [h.1]; exact (List.getElem?_eq_some_iff.1 hx).1
  exact ⟨a[i], by simp [hi], h.2 i _ x (by simp [hi]) hx⟩
theorem RepL.get' {G : Ghost} {a : List Value} {c : List V} (h : RepL G a c) {i : Nat} {v : Value} (hv : a[i]? = some v) : ∃ x, c[i]? = some x ∧ Rep G v x := by
  have hi : i < c.length := by rw [← h.1]; exact (List.getElem?_eq_some_iff.1 hv).1
  exact ⟨c[i], by simp [hi], h.2 i v _ hv (by simp [hi])⟩

theorem rep_agg {G : Ghost} {arr : Array Value} {cs : List V} (h : RepL G arr.toList cs) : Rep G (.agg arr) (.agg cs) :=
  .agg arr cs (by simpa using h.1) (fun i v c hv hc => h.2 i v c (by simpa using hv) hc)
theorem rep_tup {G : Ghost} {arr : Array Value} {cs : List V} (h : RepL G arr.toList cs) : Rep G (.tuple arr) (.tup cs) :=
  .tup arr cs (by simpa using h.1) (fun i v c hv hc => h.2 i v c (by simpa using hv) hc)
theorem rep_fn {G : Ghost} {f : FuncId} {arr : Array Value} {cs : List V} (h : RepL G arr.toList cs) : Rep G (.func (.func f) #[] arr) (.fn f cs) :=
  .fn f arr cs (by simpa using h.1) (fun i v c hv hc => h.2 i v c (by simpa using hv) hc)
theorem rep_agg_inv {G : Ghost} {v : Value} {cs : List V} (h : Rep G v (.agg cs)) : ∃ arr : Array Value, v = .agg arr ∧ RepL G arr.toList cs := by
  cases h with | agg arr _ hl h => exact ⟨arr, rfl, by simpa using hl, fun i v c hv hc => h i v c (by simpa using hv) hc⟩
theorem rep_tup_inv {G : Ghost} {v : Value} {cs : List V} (h : Rep G v (.tup cs)) : ∃ arr : Array Value, v = .tuple arr ∧ RepL G arr.toList cs := by
  cases h with | tup arr _ hl h => exact ⟨arr, rfl, by simpa using hl, fun i v c hv hc => h i v c (by simpa using hv) hc⟩
theorem rep_fn_inv {G : Ghost} {v : Value} {f : FuncId} {cs : List V} (h : Rep G v (.fn f cs)) : ∃ arr : Array Value, v = .func (.func f) #[] arr ∧ RepL G arr.toList cs := by
  cases h with | fn _ arr _ hl h => exact ⟨arr, rfl, by simpa using hl, fun i v c hv hc => h i v c (by simpa using hv) hc⟩

/-- A value's cells. -/
theorem rep_cells {G : Ghost} {v : Value} {x : V} (h : Rep G v x) (hj : x.isJunk = false) : RepL G v.cells.toList x.cells := by
  cases h with
  | agg arr cs hl h => exact ⟨by simpa [Value.cells, V.cells] using hl, fun i v c hv hc => h i v c (by simpa [Value.cells] using hv) (by simpa [V.cells] using hc)⟩
  | junk v => simp [V.isJunk] at hj
  | bool b => exact .cons (.bool b) (.nil G)
  | int k n => exact .cons (.int k n) (.nil G)
  | str s => exact .cons (.str s) (.nil G)
  | tup arr cs hl h => exact .cons (.tup arr cs hl h) (.nil G)
  | nils => exact .cons .nils (.nil G)
  | sl0 A c => exact .cons (.sl0 A c) (.nil G)
  | sl b o c s els tk vs hs hc hm hfx hrep hex htk => exact .cons (.sl b o c s els tk vs hs hc hm hfx hrep hex htk) (.nil G)
  | ms id off len cap b h => exact .cons (.ms id off len cap b h) (.nil G)
  | ptr id off b h => exact .cons (.ptr id off b h) (.nil G)
  | cptr b o cs off vs hfx hrep => exact .cons (.cptr b o cs off vs hfx hrep) (.nil G)
  | nilp => exact .cons .nilp (.nil G)
  | fn f arr cs hl h => exact .cons (.fn f arr cs hl h) (.nil G)
  | nilf => exact .cons .nilf (.nil G)
  | ifc t v x h => exact .cons (.ifc t v x h) (.nil G)
  | nilif => exact .cons .nilif (.nil G)
  | mapv id b h => exact .cons (.mapv id b h) (.nil G)
  | nilm => exact .cons .nilm (.nil G)
  | yl l => exact .cons (.yl l) (.nil G)

theorem rep_ofLeaf (G : Ghost) (v : Value) : Rep G v (ofLeaf v) := by
  unfold ofLeaf
  split <;> first | exact .junk _ | constructor
theorem repL_ofLeaf (G : Ghost) (l : List Value) : RepL G l (l.map ofLeaf) :=
  ⟨by simp, fun i v c hv hc => by rw [List.getElem?_map, hv] at hc; simp at hc; subst hc; exact rep_ofLeaf G v⟩
theorem rep_ofVal (G : Ghost) (v : Value) : Rep G v (ofVal v) := by
  unfold ofVal
  split
  · exact rep_agg (repL_ofLeaf G _)
  · exact rep_tup (repL_ofLeaf G _)
  · exact rep_ofLeaf G _
theorem rep_er {G : Ghost} {v : Value} {x : V} (h : Rep G v x) : Rep G v x.er := by
  cases h with
  | nils => exact .sl0 _ _
  | sl0 A c => exact .sl0 A c
  | sl b o c s els tk vs hs hc hm hfx hrep hex htk => exact .sl b o c s els .no vs hs hc hm hfx hrep (by simp) (by simp)
  | _ => first | (exact h) | (constructor <;> assumption)
theorem repL_er {G : Ghost} {a : List Value} {c : List V} (h : RepL G a c) : RepL G a (c.map V.er) :=
  ⟨by simp [h.1], fun i v x hv hx => by
    rw [List.getElem?_map] at hx
    obtain ⟨y, hy, rfl⟩ := Option.map_eq_some_iff.1 hx
    exact rep_er (h.2 i v y hv hy)⟩
theorem rep_erase {G : Ghost} {v : Value} {x : V} (h : Rep G v x) : Rep G v x.erase := by
  cases h with
  | agg arr cs hl h =>
    exact rep_agg (repL_er ⟨by simpa using hl, fun i v c hv hc => h i v c (by simpa using hv) hc⟩)
  | tup arr cs hl h =>
    refine rep_tup ⟨by simpa using hl, fun i v x hv hx => ?_⟩
    rw [List.getElem?_map] at hx
    obtain ⟨y, hy, rfl⟩ := Option.map_eq_some_iff.1 hx
    have hr := h i v y (by simpa using hv) hy
    split
    · obtain ⟨ar, rfl, hl⟩ := rep_agg_inv hr
      exact rep_agg (repL_er hl)
    · exact rep_er hr
  | nils => exact rep_er .nils
  | sl0 A c => exact .sl0 A c
  | sl b o c s els tk vs hs hc hm hfx hrep hex htk => exact .sl b o c s els .no vs hs hc hm hfx hrep (by simp) (by simp)
  | _ => first | (exact h) | (constructor <;> assumption)

/-- All records of a row have so many cells. -/
def lenL (s : Nat) (els : List (List V)) : Prop := ∀ el ∈ els, el.length = s
@[simp] theorem lenL_nil (s : Nat) : lenL s [] = True := eq_true fun _ h => by cases h
@[simp] theorem lenL_cons (s : Nat) (el : List V) (l : List (List V)) : lenL s (el :: l) = (el.length = s ∧ lenL s l) := by simp [lenL]
@[simp] theorem lenL_append (s : Nat) (l m : List (List V)) : lenL s (l ++ m) = (lenL s l ∧ lenL s m) := by
  apply propext
  exact ⟨fun h => ⟨fun el he => h el (by simp [he]), fun el he => h el (by simp [he])⟩, fun h el he => (List.mem_append.1 he).elim (h.1 el) (h.2 el)⟩
theorem lenL_take {s : Nat} {l : List (List V)} (h : lenL s l) (n : Nat) : lenL s (l.take n) := fun el he => h el (List.mem_of_mem_take he)
end Go.Proofs.Ytiippmhlkcbjmaa.Ax
