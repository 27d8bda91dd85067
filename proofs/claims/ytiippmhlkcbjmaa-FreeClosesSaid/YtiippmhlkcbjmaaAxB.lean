/- Abstract execution, part B: the state, and that it stands for a world; the worlds that steps lead to. -/
import Derived.Test.YtiippmhlkcbjmaaAxA
set_option linter.unusedVariables false
set_option linter.unusedSimpArgs false
namespace Go.Proofs.Ytiippmhlkcbjmaa.Ax
open Go

inductive Box where
  | cells (cs : List V)
  | mp (es : List (V × V))
abbrev Mem := Path → Option Box
abbrev Toks := Path → Bool

def upd {α : Type} (f : Path → α) (p : Path) (v : α) : Path → α := fun q => if q = p then v else f q
theorem upd_same {α : Type} (f : Path → α) (p : Path) (v : α) : upd f p v p = v := by simp [upd]
theorem upd_ne {α : Type} (f : Path → α) {p q : Path} (v : α) (h : q ≠ p) : upd f p v q = f q := by simp [upd, h]

/-- Blocks that may be written. -/
def Wr (G : Ghost) (M : Mem) (K : Toks) (b : Nat) : Prop := (∃ id, M id ≠ none ∧ G.loc id = some b) ∨ (∃ t x, K t = true ∧ G.tl t = some (b, x))

structure Sim (G : Ghost) (M : Mem) (K : Toks) (w : World) : Prop where
  fx : ∀ b o v, G.fx b o = some v → w.cell? ⟨b, o, none⟩ = some v
  box : ∀ id cs, M id = some (.cells cs) → ∃ b arr T, G.loc id = some b ∧ w.heap[b]? = some (.cells arr T (0, 0)) ∧ RepL G arr.toList cs ∧ ∀ o, G.fx b o = none
  mp : ∀ id es, M id = some (.mp es) → False
  inj : ∀ id id' b, M id ≠ none → M id' ≠ none → G.loc id = some b → G.loc id' = some b → id = id'
  tok : ∀ t, K t = true → ∃ g cap s n arr T, G.tl t = some (g, cap, s, n) ∧ w.heap[g]? = some (.cells arr T (0, 0)) ∧ arr.size = cap * s ∧ n ≤ cap ∧ (∀ o, n * s ≤ o → G.fx g o = none) ∧ (∀ id, M id ≠ none → G.loc id ≠ some g)
  tinj : ∀ t t' g x x', K t = true → K t' = true → G.tl t = some (g, x) → G.tl t' = some (g, x') → t = t'

structure Upd (G : Ghost) (M : Mem) (K : Toks) (w : World) (G' : Ghost) (M' : Mem) (K' : Toks) (w' : World) : Prop where
  os : w'.os = w.os
  tape : w'.tape = w.tape
  output : w'.output = w.output
  size : w.heap.size ≤ w'.heap.size
  keep : ∀ b, b < w.heap.size → ¬ Wr G M K b → w'.heap[b]? = w.heap[b]?
  wr : ∀ b, b < w.heap.size → Wr G' M' K' b → Wr G M K b
  fxs : ∀ b o, b < w.heap.size → ¬ Wr G M K b → G'.fx b o = G.fx b o
theorem Upd.refl (G : Ghost) (M : Mem) (K : Toks) (w : World) : Upd G M K w G M K w := ⟨rfl, rfl, rfl, Nat.le_refl _, fun _ _ _ => rfl, fun _ _ h => h, fun _ _ _ _ => rfl⟩
theorem Upd.trans {G G1 G2 : Ghost} {M M1 M2 : Mem} {K K1 K2 : Toks} {w w1 w2 : World} (a : Upd G M K w G1 M1 K1 w1) (b : Upd G1 M1 K1 w1 G2 M2 K2 w2) : Upd G M K w G2 M2 K2 w2 :=
  ⟨b.os.trans a.os, b.tape.trans a.tape, b.output.trans a.output, Nat.le_trans a.size b.size,
    fun k hk hn => (b.keep k (Nat.lt_of_lt_of_le hk a.size) (fun h => hn (a.wr k hk h))).trans (a.keep k hk hn),
    fun k hk h => a.wr k hk (b.wr k (Nat.lt_of_lt_of_le hk a.size) h),
    fun k o hk hn => (b.fxs k o (Nat.lt_of_lt_of_le hk a.size) (fun h => hn (a.wr k hk h))).trans (a.fxs k o hk hn)⟩

/-- From one state to another, by what runs in the frame p. -/
structure Tr (p : Path) (G : Ghost) (M : Mem) (K : Toks) (w : World) (G' : Ghost) (M' : Mem) (K' : Toks) (w' : World) : Prop where
  le : G.le G'
  fr : ∀ id, ¬ (p <:+ id) → G'.loc id = G.loc id ∧ G'.tl id = G.tl id
  up : Upd G M K w G' M' K' w'
theorem Tr.refl (p : Path) (G : Ghost) (M : Mem) (K : Toks) (w : World) : Tr p G M K w G M K w := ⟨.refl G, fun _ _ => ⟨rfl, rfl⟩, .refl _ _ _ _⟩
theorem Tr.trans {p : Path} {G G1 G2 : Ghost} {M M1 M2 : Mem} {K K1 K2 : Toks} {w w1 w2 : World} (a : Tr p G M K w G1 M1 K1 w1) (b : Tr p G1 M1 K1 w1 G2 M2 K2 w2) : Tr p G M K w G2 M2 K2 w2 :=
  ⟨a.le.trans b.le, fun id h => ⟨(b.fr id h).1.trans (a.fr id h).1, (b.fr id h).2.trans (a.fr id h).2⟩, a.up.trans b.up⟩
theorem Tr.mono {p q : Path} {G G' : Ghost} {M M' : Mem} {K K' : Toks} {w w' : World} (hp : p <:+ q) (a : Tr q G M K w G' M' K' w') : Tr p G M K w G' M' K' w' :=
  ⟨a.le, fun id h => a.fr id (fun hq => h (hp.trans hq)), a.up⟩

/-! ### Steps of the world -/
theorem lt_of_heap {w : World} {b : Nat} {o : Obj} (h : w.heap[b]? = some o) : b < w.heap.size := (Array.getElem?_eq_some_iff.1 h).1
theorem cell_lt {w : World} {b o : Nat} {v : Value} (h : w.cell? ⟨b, o, none⟩ = some v) : b < w.heap.size := by
  unfold World.cell? at h
  simp only at h
  cases hb : w.heap[b]? with
  | none => simp [hb] at h
  | some x => exact lt_of_heap hb
theorem cell_of_heap {w : World} {b o : Nat} {arr : Array Value} {T : TypeId} {m : Nat × Nat} (h : w.heap[b]? = some (.cells arr T m)) : w.cell? ⟨b, o, none⟩ = arr[o]? := by
  simp [World.cell?, h]
theorem cell_same {w w' : World} {b o : Nat} (h : w'.heap[b]? = w.heap[b]?) : w'.cell? ⟨b, o, none⟩ = w.cell? ⟨b, o, none⟩ := by
  simp [World.cell?, h]
theorem Sim.fx_lt {G : Ghost} {M : Mem} {K : Toks} {w : World} (h : Sim G M K w) {b o : Nat} {v : Value} (hv : G.fx b o = some v) : b < w.heap.size := cell_lt (h.fx b o v hv)
theorem Sim.fx_none {G : Ghost} {M : Mem} {K : Toks} {w : World} (h : Sim G M K w) {b : Nat} (hb : w.heap.size ≤ b) (o : Nat) : G.fx b o = none := by
  cases hv : G.fx b o with
  | none => rfl
  | some v => have := h.fx_lt hv; omega
theorem Sim.box_lt {G : Ghost} {M : Mem} {K : Toks} {w : World} (h : Sim G M K w) {id : Path} (hm : M id ≠ none) : ∃ b, G.loc id = some b ∧ b < w.heap.size := by
  cases hm' : M id with
  | none => exact absurd hm' hm
  | some x =>
    cases x with
    | cells cs => obtain ⟨b, arr, T, hl, hh, _⟩ := h.box id cs hm'; exact ⟨b, hl, lt_of_heap hh⟩
    | mp es => exact (h.mp id es hm').elim
theorem Sim.wr_lt {G : Ghost} {M : Mem} {K : Toks} {w : World} (h : Sim G M K w) {b : Nat} (hb : Wr G M K b) : b < w.heap.size := by
  rcases hb with ⟨id, hm, hl⟩ | ⟨t, x, hk, ht⟩
  · obtain ⟨b', hl', hlt⟩ := h.box_lt hm; rw [hl] at hl'; cases hl'; exact hlt
  · obtain ⟨g, cap, s, n, arr, T, ht', hh, _⟩ := h.tok t hk; rw [ht] at ht'; cases ht'; exact lt_of_heap hh

/-- Old blocks stay: the state stands. -/
theorem Sim.ext {G : Ghost} {M : Mem} {K : Toks} {w w' : World} (h : Sim G M K w) (hw : ∀ b, b < w.heap.size → w'.heap[b]? = w.heap[b]?) : Sim G M K w' where
  fx b o v hv := (cell_same (hw b (h.fx_lt hv))).trans (h.fx b o v hv)
  box id cs hm := by
    obtain ⟨b, arr, T, hl, hh, hr, hf⟩ := h.box id cs hm
    exact ⟨b, arr, T, hl, (hw b (lt_of_heap hh)).trans hh, hr, hf⟩
  mp := h.mp
  inj := h.inj
  tok t hk := by
    obtain ⟨g, cap, s, n, arr, T, ht, hh, hx⟩ := h.tok t hk
    exact ⟨g, cap, s, n, arr, T, ht, (hw g (lt_of_heap hh)).trans hh, hx⟩
  tinj := h.tinj
theorem heap_drew (w : World) : w.drew.heap = w.heap := rfl
theorem Sim.drew {G : Ghost} {M : Mem} {K : Toks} {w : World} (h : Sim G M K w) : Sim G M K w.drew := h.ext fun _ _ => rfl
theorem Upd.drew (G : Ghost) (M : Mem) (K : Toks) (w : World) : Upd G M K w G M K w.drew := ⟨rfl, rfl, rfl, Nat.le_refl _, fun _ _ _ => rfl, fun _ _ h => h, fun _ _ _ _ => rfl⟩
theorem Tr.drew (p : Path) (G : Ghost) (M : Mem) (K : Toks) (w : World) : Tr p G M K w G M K w.drew := ⟨.refl _, fun _ _ => ⟨rfl, rfl⟩, .drew _ _ _ _⟩
theorem alloc_old (w : World) (o : Obj) {b : Nat} (h : b < w.heap.size) : (w.alloc o).heap[b]? = w.heap[b]? := by
  show (w.heap.push o)[b]? = _
  rw [Array.getElem?_push, if_neg (by omega)]
theorem alloc_new (w : World) (o : Obj) : (w.alloc o).heap[w.heap.size]? = some o := by
  show (w.heap.push o)[w.heap.size]? = _
  simp
theorem alloc_size (w : World) (o : Obj) : (w.alloc o).heap.size = w.heap.size + 1 := by
  show (w.heap.push o).size = _
  simp

/-- A new block whose first cells are fixed. -/
def Ghost.fix (G : Ghost) (b : Nat) (vs : List Value) : Ghost := { G with fx := fun c o => if c = b then vs[o]? else G.fx c o }
theorem Ghost.fix_le {G : Ghost} {M : Mem} {K : Toks} {w : World} (h : Sim G M K w) (vs : List Value) : G.le (G.fix w.heap.size vs) :=
  ⟨fun b o v hv => by have := h.fx_lt hv; simp only [Ghost.fix]; rw [if_neg (by omega)]; exact hv, fun _ _ h => h, fun _ _ h => h⟩
theorem Sim.alloc_fix {G : Ghost} {M : Mem} {K : Toks} {w : World} (h : Sim G M K w) (arr : Array Value) (T : TypeId) (vs : List Value) (hv : ∀ (i : Nat) v, vs[i]? = some v → arr[i]? = some v) :
    Sim (G.fix w.heap.size vs) M K (w.alloc (.cells arr T)) := by
  have he := h.ext (w' := w.alloc (.cells arr T)) fun b hb => alloc_old w _ hb
  have hle := Ghost.fix_le h vs
  refine ⟨fun b o v hv' => ?_, fun id cs hm => ?_, h.mp, h.inj, fun t hk => ?_, h.tinj⟩
  · simp only [Ghost.fix] at hv'
    split at hv'
    · rename_i hb; subst hb
      rw [cell_of_heap (alloc_new w _)]
      exact hv _ _ hv'
    · exact he.fx b o v hv'
  · obtain ⟨b, arr', T', hl, hh, hr, hf⟩ := h.box id cs hm
    have hlt := lt_of_heap hh
    exact ⟨b, arr', T', hl, (alloc_old w _ hlt).trans hh, hr.mono hle, fun o => by simp only [Ghost.fix]; rw [if_neg (by omega)]; exact hf o⟩
  · obtain ⟨g, cap, s, n, arr', T', ht, hh, ha, hn, hx, hb⟩ := h.tok t hk
    have hlt := lt_of_heap hh
    exact ⟨g, cap, s, n, arr', T', ht, (alloc_old w _ hlt).trans hh, ha, hn, fun o ho => by simp only [Ghost.fix]; rw [if_neg (by omega)]; exact hx o ho, hb⟩
theorem Tr.alloc_fix {G : Ghost} {M : Mem} {K : Toks} {w : World} (h : Sim G M K w) (p : Path) (arr : Array Value) (T : TypeId) (vs : List Value) :
    Tr p G M K w (G.fix w.heap.size vs) M K (w.alloc (.cells arr T)) :=
  ⟨Ghost.fix_le h vs, fun _ _ => ⟨rfl, rfl⟩, rfl, rfl, rfl, by rw [alloc_size]; omega, fun b hb _ => alloc_old w _ hb, fun b hb hw => hw, fun b o hb _ => by simp only [Ghost.fix]; rw [if_neg (by omega)]⟩

/-- A new box. -/
def Ghost.addLoc (G : Ghost) (id : Path) (b : Nat) : Ghost := { G with loc := fun q => if q = id then some b else G.loc q }
theorem Ghost.addLoc_le {G : Ghost} {id : Path} (hf : G.loc id = none) (b : Nat) : G.le (G.addLoc id b) :=
  ⟨fun _ _ _ h => h, fun q c h => by simp only [Ghost.addLoc]; rw [if_neg (fun e => by subst e; rw [hf] at h; cases h)]; exact h, fun _ _ h => h⟩
theorem Sim.alloc_box {G : Ghost} {M : Mem} {K : Toks} {w : World} (h : Sim G M K w) {id : Path} (hf : G.loc id = none) (arr : Array Value) (T : TypeId) (cs : List V) (hr : RepL G arr.toList cs) :
    Sim (G.addLoc id w.heap.size) (upd M id (some (.cells cs))) K (w.alloc (.cells arr T)) := by
  have hle := Ghost.addLoc_le hf w.heap.size
  have hlt : ∀ q b, M q ≠ none → G.loc q = some b → b < w.heap.size := fun q b hm hl => by obtain ⟨b', hl', hb⟩ := h.box_lt hm; rw [hl] at hl'; cases hl'; exact hb
  have hne : ∀ q, M q ≠ none → q ≠ id := fun q hm e => by subst e; obtain ⟨b', hl', hb⟩ := h.box_lt hm; rw [hf] at hl'; cases hl'
  have key : ∀ q b, upd M id (some (.cells cs)) q ≠ none → (G.addLoc id w.heap.size).loc q = some b → (q = id ∧ b = w.heap.size) ∨ (q ≠ id ∧ M q ≠ none ∧ G.loc q = some b) := fun q b hm hl => by
    by_cases e : q = id
    · subst e; simp [Ghost.addLoc] at hl; exact .inl ⟨rfl, hl.symm⟩
    · rw [upd_ne _ _ e] at hm; simp [Ghost.addLoc, e] at hl; exact .inr ⟨e, hm, hl⟩
  refine ⟨fun b o v hv => (cell_same (alloc_old w _ (h.fx_lt hv))).trans (h.fx b o v hv), fun q cs' hm => ?_, fun q es hm => ?_, fun q q' b hm hm' hl hl' => ?_, fun t hk => ?_, h.tinj⟩
  · by_cases e : q = id
    · subst e; rw [upd_same] at hm; cases hm
      exact ⟨w.heap.size, arr, T, by simp [Ghost.addLoc], alloc_new w _, hr.mono hle, fun o => h.fx_none (Nat.le_refl _) o⟩
    · rw [upd_ne _ _ e] at hm
      obtain ⟨b, arr', T', hl, hh, hr', hf'⟩ := h.box q cs' hm
      exact ⟨b, arr', T', by simp [Ghost.addLoc, e, hl], (alloc_old w _ (lt_of_heap hh)).trans hh, hr'.mono hle, hf'⟩
  · by_cases e : q = id
    · subst e; rw [upd_same] at hm; cases hm
    · rw [upd_ne _ _ e] at hm; exact h.mp q es hm
  · rcases key q b hm hl with ⟨e, hb⟩ | ⟨e, hm1, hl1⟩ <;> rcases key q' b hm' hl' with ⟨e', hb'⟩ | ⟨e', hm2, hl2⟩
    · rw [e, e']
    · have := hlt q' b hm2 hl2; omega
    · have := hlt q b hm1 hl1; omega
    · exact h.inj q q' b hm1 hm2 hl1 hl2
  · obtain ⟨g, cap, s, n, arr', T', ht, hh, ha, hn, hx, hb⟩ := h.tok t hk
    refine ⟨g, cap, s, n, arr', T', ht, (alloc_old w _ (lt_of_heap hh)).trans hh, ha, hn, hx, fun q hm hl => ?_⟩
    rcases key q g hm hl with ⟨e, hb'⟩ | ⟨e, hm1, hl1⟩
    · have := lt_of_heap hh; omega
    · exact hb q hm1 hl1
theorem Tr.alloc_box {G : Ghost} {M : Mem} {K : Toks} {w : World} (h : Sim G M K w) {p id : Path} (hp : p <:+ id) (hf : G.loc id = none) (arr : Array Value) (T : TypeId) (cs : List V) :
    Tr p G M K w (G.addLoc id w.heap.size) (upd M id (some (.cells cs))) K (w.alloc (.cells arr T)) := by
  refine ⟨Ghost.addLoc_le hf _, fun q hq => ⟨by simp only [Ghost.addLoc]; rw [if_neg (show ¬ q = _ from fun e => hq (by rw [e]; exact hp))], rfl⟩, rfl, rfl, rfl, by rw [alloc_size]; omega, fun b hb _ => alloc_old w _ hb, fun b hb hw => ?_, fun _ _ _ _ => rfl⟩
  rcases hw with ⟨q, hm, hl⟩ | ⟨t, x, hk, ht⟩
  · by_cases e : q = id
    · subst e; simp [Ghost.addLoc] at hl; omega
    · rw [upd_ne _ _ e] at hm; simp [Ghost.addLoc, e] at hl; exact .inl ⟨q, hm, hl⟩
  · exact .inr ⟨t, x, hk, ht⟩

/-- A box forgotten. -/
theorem Sim.forget {G : Ghost} {M M' : Mem} {K K' : Toks} {w : World} (h : Sim G M K w) (hM : ∀ id, M' id ≠ none → M' id = M id) (hK : ∀ t, K' t = true → K t = true) : Sim G M' K' w where
  fx := h.fx
  box id cs hm := h.box id cs (by rw [← hM id (by rw [hm]; simp)]; exact hm)
  mp id es hm := h.mp id es (by rw [← hM id (by rw [hm]; simp)]; exact hm)
  inj id id' b hm hm' := h.inj id id' b (by rw [← hM id hm]; exact hm) (by rw [← hM id' hm']; exact hm')
  tok t hk := by
    obtain ⟨g, cap, s, n, arr, T, ht, hh, ha, hn, hx, hb⟩ := h.tok t (hK t hk)
    exact ⟨g, cap, s, n, arr, T, ht, hh, ha, hn, hx, fun id hm => hb id (by rw [← hM id hm]; exact hm)⟩
  tinj t t' g x x' hk hk' := h.tinj t t' g x x' (hK t hk) (hK t' hk')
theorem Wr.forget {G : Ghost} {M M' : Mem} {K K' : Toks} (hM : ∀ id, M' id ≠ none → M' id = M id) (hK : ∀ t, K' t = true → K t = true) {b : Nat} (h : Wr G M' K' b) : Wr G M K b := by
  rcases h with ⟨id, hm, hl⟩ | ⟨t, x, hk, ht⟩
  · exact .inl ⟨id, by rw [← hM id hm]; exact hm, hl⟩
  · exact .inr ⟨t, x, hK t hk, ht⟩
theorem Tr.forget (p : Path) {G : Ghost} {M M' : Mem} {K K' : Toks} (w : World) (hM : ∀ id, M' id ≠ none → M' id = M id) (hK : ∀ t, K' t = true → K t = true) : Tr p G M K w G M' K' w :=
  ⟨.refl _, fun _ _ => ⟨rfl, rfl⟩, rfl, rfl, rfl, Nat.le_refl _, fun _ _ _ => rfl, fun b _ hb => hb.forget hM hK, fun _ _ _ _ => rfl⟩

/-! ### A store into a box -/
def splice (cs : List V) (off : Nat) (xs : List V) : List V := cs.take off ++ xs ++ cs.drop (off + xs.length)
theorem heap_setRow_same (w : World) (g : Nat) (cur cs : Array Value) (T : TypeId) (m : Nat × Nat) (hg : w.heap[g]? = some (.cells cur T m)) : (w.setRow g cs).heap[g]? = some (.cells cs T m) := by
  simp [World.setRow, Array.getElem?_modify, hg]
theorem heap_setRow_other (w : World) (g b : Nat) (cs : Array Value) (h : b ≠ g) : (w.setRow g cs).heap[b]? = w.heap[b]? := by
  simp [World.setRow, Array.getElem?_modify]
  intro e; exact absurd e.symm h
theorem size_setRow (w : World) (g : Nat) (cs : Array Value) : (w.setRow g cs).heap.size = w.heap.size := by simp [World.setRow]
theorem Sim.store {G : Ghost} {M : Mem} {K : Toks} {w : World} (h : Sim G M K w) {id : Path} {cs : List V} (hm : M id = some (.cells cs)) {b : Nat} {arr : Array Value} {T : TypeId} (hl : G.loc id = some b) (hh : w.heap[b]? = some (.cells arr T (0, 0)))
    (arr' : Array Value) (cs' : List V) (hr : RepL G arr'.toList cs') :
    Sim G (upd M id (some (.cells cs'))) K (w.setRow b arr') := by
  have hmn : M id ≠ none := by rw [hm]; simp
  have hkey : ∀ q, upd M id (some (.cells cs')) q ≠ none → M q ≠ none := fun q hq => by
    by_cases e : q = id
    · subst e; exact hmn
    · rw [upd_ne _ _ e] at hq; exact hq
  obtain ⟨b0, arr0, T0, hl0, hh0, hr0, hf0⟩ := h.box id cs hm
  rw [hl] at hl0; cases hl0
  refine ⟨fun c o v hv => ?_, fun q cs2 hq => ?_, fun q es hq => ?_, fun q q' c hq hq' => h.inj q q' c (hkey q hq) (hkey q' hq'), fun t hk => ?_, h.tinj⟩
  · have hne : c ≠ b := fun e => by subst e; rw [hf0 o] at hv; cases hv
    rw [cell_same (heap_setRow_other w b c arr' hne)]
    exact h.fx c o v hv
  · by_cases e : q = id
    · subst e; rw [upd_same] at hq; cases hq
      exact ⟨b, arr', T, hl, heap_setRow_same w b arr arr' T _ hh, hr, hf0⟩
    · rw [upd_ne _ _ e] at hq
      obtain ⟨c, arr2, T2, hl2, hh2, hr2, hf2⟩ := h.box q cs2 hq
      have hne : c ≠ b := fun ec => by subst ec; exact e (h.inj q id c (by rw [hq]; simp) hmn hl2 hl)
      exact ⟨c, arr2, T2, hl2, (heap_setRow_other w b c arr' hne).trans hh2, hr2, hf2⟩
  · by_cases e : q = id
    · subst e; rw [upd_same] at hq; cases hq
    · rw [upd_ne _ _ e] at hq; exact h.mp q es hq
  · obtain ⟨g, cap, s, n, arr2, T2, ht, hh2, ha, hn, hx, hb⟩ := h.tok t hk
    have hne : g ≠ b := fun eg => by subst eg; exact hb id hmn hl
    exact ⟨g, cap, s, n, arr2, T2, ht, (heap_setRow_other w b g arr' hne).trans hh2, ha, hn, hx, fun q hq => hb q (hkey q hq)⟩
theorem Tr.store {G : Ghost} {M : Mem} {K : Toks} {w : World} (p : Path) {id : Path} {cs : List V} (hm : M id = some (.cells cs)) {b : Nat} (hl : G.loc id = some b)
    (arr' : Array Value) (cs' : List V) : Tr p G M K w G (upd M id (some (.cells cs'))) K (w.setRow b arr') := by
  refine ⟨.refl _, fun _ _ => ⟨rfl, rfl⟩, rfl, rfl, rfl, by rw [size_setRow]; exact Nat.le_refl _, fun c hc hn => heap_setRow_other w b c arr' (fun e => hn (.inl ⟨id, by rw [hm]; simp, e ▸ hl⟩)), fun c hc hw => ?_, fun _ _ _ _ => rfl⟩
  rcases hw with ⟨q, hq, hl'⟩ | ⟨t, x, hk, ht⟩
  · by_cases e : q = id
    · subst e; exact .inl ⟨q, by rw [hm]; simp, hl'⟩
    · rw [upd_ne _ _ e] at hq; exact .inl ⟨q, hq, hl'⟩
  · exact .inr ⟨t, x, hk, ht⟩

/-! ### Growing rows -/
/-- A row in a new block: its first cells fixed, the rest free. -/
def Ghost.addTok (G : Ghost) (t : Path) (x : Nat × Nat × Nat × Nat) : Ghost := { G with tl := fun q => if q = t then some x else G.tl q }
theorem Ghost.addTok_le {G : Ghost} {t : Path} (hf : G.tl t = none) (x : Nat × Nat × Nat × Nat) : G.le (G.addTok t x) :=
  ⟨fun _ _ _ h => h, fun _ _ h => h, fun q c h => by simp only [Ghost.addTok]; rw [if_neg (fun e => by subst e; rw [hf] at h; cases h)]; exact h⟩
theorem Sim.alloc_row {G : Ghost} {M : Mem} {K K0 : Toks} {w : World} (h : Sim G M K w) (hK : ∀ t, K0 t = true → K t = true) {t : Path} (hf : G.tl t = none) (arr : Array Value) (T : TypeId) (vs : List Value) (hv : ∀ (i : Nat) v, vs[i]? = some v → arr[i]? = some v)
    (cap s n : Nat) (ha : arr.size = cap * s) (hn : n ≤ cap) (hvl : vs.length ≤ n * s) :
    Sim ((G.fix w.heap.size vs).addTok t (w.heap.size, cap, s, n)) M (upd K0 t true) (w.alloc (.cells arr T)) := by
  have h1 := h.alloc_fix arr T vs hv
  have hle := Ghost.addTok_le (G := G.fix w.heap.size vs) (t := t) hf (w.heap.size, cap, s, n)
  have hkt : ∀ q, K q = true → q ≠ t := fun q hk e => by subst e; obtain ⟨g, cap, s, n, arr2, T2, ht, _⟩ := h.tok q hk; rw [hf] at ht; cases ht
  have hlt : ∀ q g x, K q = true → G.tl q = some (g, x) → g < w.heap.size := fun q g x hk ht => h.wr_lt (.inr ⟨q, x, hk, ht⟩)
  refine ⟨h1.fx, fun id cs hm => ?_, h1.mp, h1.inj, fun q hk => ?_, fun q q' g x x' hk hk' ht ht' => ?_⟩
  · obtain ⟨b, arr2, T2, hl, hh, hr, hf2⟩ := h1.box id cs hm
    exact ⟨b, arr2, T2, hl, hh, hr.mono hle, hf2⟩
  · by_cases e : q = t
    · subst e
      refine ⟨w.heap.size, cap, s, n, arr, T, by simp [Ghost.addTok], alloc_new w _, ha, hn, fun o ho => ?_, fun id hm hl => ?_⟩
      · simp only [Ghost.addTok, Ghost.fix, if_true]; exact List.getElem?_eq_none (by omega)
      · obtain ⟨b, hl', hb⟩ := h.box_lt hm
        have hl2 : G.loc id = some w.heap.size := hl
        rw [hl2] at hl'; cases hl'; omega
    · rw [upd_ne _ _ e] at hk
      obtain ⟨g, cap', s', n', arr2, T2, ht, hh, ha', hn', hx, hb⟩ := h1.tok q (hK q hk)
      exact ⟨g, cap', s', n', arr2, T2, by simp [Ghost.addTok, e]; exact ht, hh, ha', hn', hx, hb⟩
  · by_cases e : q = t <;> by_cases e' : q' = t
    · rw [e, e']
    · subst e; rw [upd_ne _ _ e'] at hk'
      simp [Ghost.addTok] at ht; simp [Ghost.addTok, e'] at ht'
      have := hlt q' g x' (hK _ hk') ht'; omega
    · subst e'; rw [upd_ne _ _ e] at hk
      simp [Ghost.addTok] at ht'; simp [Ghost.addTok, e] at ht
      have := hlt q g x (hK _ hk) ht; omega
    · rw [upd_ne _ _ e] at hk; rw [upd_ne _ _ e'] at hk'
      simp [Ghost.addTok, e] at ht; simp [Ghost.addTok, e'] at ht'
      exact h.tinj q q' g x x' (hK _ hk) (hK _ hk') ht ht'
theorem Tr.alloc_row {G : Ghost} {M : Mem} {K K0 : Toks} {w : World} (h : Sim G M K w) (hK : ∀ t, K0 t = true → K t = true) {p t : Path} (hp : p <:+ t) (hf : G.tl t = none) (arr : Array Value) (T : TypeId) (vs : List Value) (cap s n : Nat) :
    Tr p G M K w ((G.fix w.heap.size vs).addTok t (w.heap.size, cap, s, n)) M (upd K0 t true) (w.alloc (.cells arr T)) := by
  refine ⟨(Ghost.fix_le h vs).trans (Ghost.addTok_le (by exact hf) _), fun q hq => ⟨rfl, by simp only [Ghost.addTok]; rw [if_neg (show ¬ q = _ from fun e => hq (by rw [e]; exact hp))]; rfl⟩, rfl, rfl, rfl, by rw [alloc_size]; omega, fun b hb _ => alloc_old w _ hb, fun b hb hw => ?_, fun b o hb _ => by simp only [Ghost.addTok, Ghost.fix]; rw [if_neg (by omega)]⟩
  rcases hw with ⟨q, hm, hl⟩ | ⟨q, x, hk, ht⟩
  · exact .inl ⟨q, hm, hl⟩
  · by_cases e : q = t
    · subst e; simp [Ghost.addTok] at ht; omega
    · rw [upd_ne _ _ e] at hk; simp [Ghost.addTok, e] at ht; exact .inr ⟨q, x, hK q hk, ht⟩

/-- A row that is written behind its end. -/
def Ghost.grow (G : Ghost) (g o : Nat) (vs : List Value) : Ghost := { G with fx := fun c q => if c = g ∧ o ≤ q ∧ q < o + vs.length then vs[q - o]? else G.fx c q }
theorem Sim.grow_row {G : Ghost} {M : Mem} {K : Toks} {w : World} (h : Sim G M K w) {t t' : Path} (hk : K t = true) {g cap s n : Nat} (ht : G.tl t = some (g, cap, s, n)) (hf : G.tl t' = none)
    {arr : Array Value} {T : TypeId} (hh : w.heap[g]? = some (.cells arr T (0, 0))) (vs : List Value) (m : Nat) (hm : vs.length = m * s) (hfit : n + m ≤ cap) :
    G.le ((G.grow g (n * s) vs).addTok t' (g, cap, s, n + m)) ∧
    Sim ((G.grow g (n * s) vs).addTok t' (g, cap, s, n + m)) M (upd (upd K t false) t' true) (w.setRow g (arr.toList.take (n * s) ++ vs ++ arr.toList.drop (n * s + vs.length)).toArray) := by
  obtain ⟨g0, cap0, s0, n0, arr0, T0, ht0, hh0, ha, hn, hx, hb⟩ := h.tok t hk
  rw [ht] at ht0; cases ht0
  rw [hh] at hh0; cases hh0
  have htt : t ≠ t' := fun e => by subst e; rw [hf] at ht; cases ht
  have hle : G.le ((G.grow g (n * s) vs).addTok t' (g, cap, s, n + m)) := by
    refine ⟨fun b o v hv => ?_, fun _ _ h => h, fun q x hq => by simp only [Ghost.addTok]; rw [if_neg (fun e => by subst e; rw [hf] at hq; cases hq)]; exact hq⟩
    simp only [Ghost.addTok, Ghost.grow]
    rw [if_neg (fun ⟨e, h1, h2⟩ => by subst e; rw [hx o h1] at hv; cases hv)]
    exact hv
  have hlen : (n + m) * s ≤ cap * s := Nat.mul_le_mul_right _ hfit
  have hnm : (n + m) * s = n * s + vs.length := by rw [Nat.add_mul, hm]
  have hkt : ∀ q, K q = true → q ≠ t' := fun q hk e => by subst e; obtain ⟨g, cap, s, n, arr2, T2, ht, _⟩ := h.tok q hk; rw [hf] at ht; cases ht
  have hsize : (arr.toList.take (n * s) ++ vs ++ arr.toList.drop (n * s + vs.length)).toArray.size = arr.size := by
    simp only [List.size_toArray, List.length_append, List.length_take, List.length_drop, Array.length_toList]; omega
  refine ⟨hle, ⟨fun b o v hv => ?_, fun id cs hi => ?_, h.mp, h.inj, fun q hq => ?_, fun q q' g' x x' hq hq' hx1 hx2 => ?_⟩⟩
  · by_cases e : b = g
    · subst e
      rw [cell_of_heap (heap_setRow_same w b arr _ T _ hh)]
      simp only [Ghost.addTok, Ghost.grow, true_and] at hv
      simp only [List.getElem?_toArray]
      split at hv
      · rename_i hr
        rw [List.append_assoc, List.getElem?_append_right (by simp; omega), List.getElem?_append_left (by simp; omega)]
        rw [← hv]; congr 1; simp; omega
      · rename_i hr
        have hc := h.fx b o v hv
        rw [cell_of_heap hh] at hc
        have ho : o < n * s := by
          rcases Nat.lt_or_ge o (n * s) with h1 | h1
          · exact h1
          · rw [hx o h1] at hv; cases hv
        rw [List.append_assoc, List.getElem?_append_left (by simp; omega), List.getElem?_take, if_pos ho]
        simpa using hc
    · rw [cell_same (heap_setRow_other w g b _ e)]
      refine h.fx b o v ?_
      simp only [Ghost.addTok, Ghost.grow] at hv
      rwa [if_neg (fun ⟨e', _⟩ => e e')] at hv
  · obtain ⟨b, arr2, T2, hl, hh2, hr, hf2⟩ := h.box id cs hi
    have hne : b ≠ g := fun e => by subst e; exact hb id (by rw [hi]; simp) hl
    refine ⟨b, arr2, T2, hl, (heap_setRow_other w g b _ hne).trans hh2, hr.mono hle, fun o => ?_⟩
    simp only [Ghost.addTok, Ghost.grow]
    rw [if_neg (fun ⟨e', _⟩ => hne e')]
    exact hf2 o
  · by_cases e : q = t'
    · subst e
      refine ⟨g, cap, s, n + m, _, T, by simp [Ghost.addTok], heap_setRow_same w g arr _ T _ hh, by rw [hsize]; exact ha, hfit, fun o ho => ?_, hb⟩
      simp only [Ghost.addTok, Ghost.grow]
      rw [if_neg (fun ⟨_, h1, h2⟩ => by omega)]
      exact hx o (by omega)
    · rw [upd_ne _ _ e] at hq
      by_cases e2 : q = t
      · subst e2; rw [upd_same] at hq; cases hq
      · rw [upd_ne _ _ e2] at hq
        obtain ⟨g', cap', s', n', arr2, T2, ht2, hh2, ha', hn', hx', hb'⟩ := h.tok q hq
        have hne : g' ≠ g := fun eg => by subst eg; exact e2 (h.tinj q t g' _ _ hq hk ht2 ht)
        refine ⟨g', cap', s', n', arr2, T2, by simp [Ghost.addTok, e]; exact ht2, (heap_setRow_other w g g' _ hne).trans hh2, ha', hn', fun o ho => ?_, hb'⟩
        simp only [Ghost.addTok, Ghost.grow]
        rw [if_neg (fun ⟨e', _⟩ => hne e')]
        exact hx' o ho
  · have main : ∀ q x, upd (upd K t false) t' true q = true → ((G.grow g (n * s) vs).addTok t' (g, cap, s, n + m)).tl q = some (g', x) → (q = t' ∧ g' = g) ∨ (q ≠ t' ∧ q ≠ t ∧ K q = true ∧ G.tl q = some (g', x)) := fun q x hq hx => by
      by_cases e : q = t'
      · subst e; simp [Ghost.addTok] at hx; exact .inl ⟨rfl, hx.1.symm⟩
      · rw [upd_ne _ _ e] at hq; simp [Ghost.addTok, e] at hx
        by_cases e2 : q = t
        · subst e2; rw [upd_same] at hq; cases hq
        · rw [upd_ne _ _ e2] at hq; exact .inr ⟨e, e2, hq, hx⟩
    rcases main q x hq hx1 with ⟨e, eg⟩ | ⟨e, e2, hk1, ht1⟩ <;> rcases main q' x' hq' hx2 with ⟨e', eg'⟩ | ⟨e', e2', hk2, ht2⟩
    · rw [e, e']
    · subst eg; exact absurd (h.tinj q' t g' _ _ hk2 hk ht2 ht) e2'
    · subst eg'; exact absurd (h.tinj q t g' _ _ hk1 hk ht1 ht) e2
    · exact h.tinj q q' g' x x' hk1 hk2 ht1 ht2
theorem Tr.grow_row {G : Ghost} {M : Mem} {K : Toks} {w : World} {p t t' : Path} (hp : p <:+ t') (hk : K t = true) {g cap s n : Nat} (ht : G.tl t = some (g, cap, s, n)) (vs : List Value) (m : Nat)
    (hle : G.le ((G.grow g (n * s) vs).addTok t' (g, cap, s, n + m))) (arr' : Array Value) :
    Tr p G M K w ((G.grow g (n * s) vs).addTok t' (g, cap, s, n + m)) M (upd (upd K t false) t' true) (w.setRow g arr') := by
  refine ⟨hle, fun q hq => ⟨rfl, by simp only [Ghost.addTok]; rw [if_neg (show ¬ q = _ from fun e => hq (by rw [e]; exact hp))]; rfl⟩, rfl, rfl, rfl, by rw [size_setRow]; exact Nat.le_refl _,
    fun c hc hn => heap_setRow_other w g c arr' (fun e => hn (.inr ⟨t, _, hk, e ▸ ht⟩)), fun c hc hw => ?_, fun c o hc hn => by
      simp only [Ghost.addTok, Ghost.grow]
      rw [if_neg (fun ⟨e, _⟩ => hn (.inr ⟨t, _, hk, e ▸ ht⟩))]⟩
  rcases hw with ⟨q, hq, hl'⟩ | ⟨q, x, hq, hx⟩
  · exact .inl ⟨q, hq, hl'⟩
  · by_cases e : q = t'
    · subst e; simp [Ghost.addTok] at hx; obtain ⟨rfl, _⟩ := hx; exact .inr ⟨t, _, hk, ht⟩
    · rw [upd_ne _ _ e] at hq; simp [Ghost.addTok, e] at hx
      by_cases e2 : q = t
      · subst e2; exact .inr ⟨q, _, hk, hx⟩
      · rw [upd_ne _ _ e2] at hq; exact .inr ⟨q, x, hq, hx⟩

end Go.Proofs.Ytiippmhlkcbjmaa.Ax
