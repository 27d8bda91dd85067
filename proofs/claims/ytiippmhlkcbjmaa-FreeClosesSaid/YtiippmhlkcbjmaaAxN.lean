/- Abstract execution, part N: branches, ends, tables of contracts. -/
import Derived.Test.YtiippmhlkcbjmaaAxM
set_option linter.unusedVariables false
set_option linter.unusedSimpArgs false
namespace Go.Proofs.Ytiippmhlkcbjmaa.Ax
open Go

attribute [simp] frozenA rLoadC goOps stp stpR stpStore stpAppend stpMake stpCall gd rop St.ev ofVal ofLeaf V.isJunk V.cells nx blk rLoad cut rField rPart rIxAddr rIx rSlice loOf hiOf rBin rUn rConv rExtract rNil rIface rAssert rBuild fillV rBuiltin rPick splice elsOf V.one V.er V.erase R.bad outNo intsOf

/-- What comes behind, hidden from simp. -/
structure Cont (K R : St → Prop) : Prop where
  go : ∀ σ, R σ → K σ
structure Cnt (R K : Prop) : Prop where
  go : R → K
def Hold (p : Prop) : Prop := p
/-- Two ways on. -/
def Br (b : Bool) (K1 K2 : Prop) : Prop := (b = true → K1) ∧ (b = false → K2)
@[simp] theorem Br_true (K1 K2 : Prop) : Br true K1 K2 = K1 := by simp [Br]
@[simp] theorem Br_false (K1 K2 : Prop) : Br false K1 K2 = K2 := by simp [Br]
theorem Br.intro {b : Bool} {K1 K2 : Prop} (h1 : b = true → K1) (h2 : b = false → K2) : Br b K1 K2 := ⟨h1, h2⟩
def brV : V → Prop → Prop → Prop
  | .bool b, K1, K2 => Br b K1 K2
  | _, _, _ => False
@[simp] theorem brV_bool (b : Bool) (K1 K2 : Prop) : brV (.bool b) K1 K2 = Br b K1 K2 := rfl

section
variable {P : Program} {E : Env} {ro : Option Nat} {N : Nat} {p : Path} {σ : St} {Q : Post}
theorem T.br {c : Operand} {x y : Code} (h : ∀ K1 K2 : Prop, Cnt (T P ro N p x σ Q) K1 → Cnt (T P ro N p y σ Q) K2 → brV (σ.ev c) K1 K2) : T P ro N p (.cond c x y) σ Q := by
  have := h (T P ro N p x σ Q) (T P ro N p y σ Q) ⟨id⟩ ⟨id⟩
  cases hv : σ.ev c with
  | bool b => rw [hv] at this; exact T.cond hv this.1 this.2
  | _ => rw [hv] at this; exact this.elim
theorem T.sq {x y : Code} (h : ∀ K : St → Prop, Cont K (fun σ' => T P ro N p y σ' Q) → T P ro N p x σ (nx K Q)) : T P ro N p (.seq x y) σ Q := T.seq fun K hK => h K ⟨hK⟩
theorem Rep.len {G : Ghost} {v : Value} {els : List (List V)} {tk : Tk} (h : Rep G v (.sl els tk)) : els.length ≤ 9223372036854775807 := by
  cases h with
  | sl0 => exact Nat.zero_le _
  | sl b o c s els tk vs hs hc hm => omega
/-- What lies in a slot has the length that a slice can have. -/
theorem T.len {c : Code} {t : Nat} {els : List (List V)} {tk : Tk} (h : σ.get t = .sl els tk) (k : els.length ≤ 9223372036854775807 → T P ro N p c σ Q) : T P ro N p c σ Q := fun ds G a w hR =>
  k (by have := hR.eval (.tmp t); rw [St.ev, h] at this; exact this.len) ds G a w hR
theorem T.lenIn {c : Code} {t : Nat} {cs : List V} {els : List (List V)} {tk : Tk} (h : σ.get t = .agg cs) (hm : V.sl els tk ∈ cs) (k : els.length ≤ 9223372036854775807 → T P ro N p c σ Q) : T P ro N p c σ Q := fun ds G a w hR =>
  k (by
    have := hR.eval (.tmp t); rw [St.ev, h] at this
    obtain ⟨arr, _, hl⟩ := rep_agg_inv this
    obtain ⟨i, hi⟩ := List.mem_iff_getElem?.1 hm
    obtain ⟨v, _, hv⟩ := hl.get hi
    exact hv.len) ds G a w hR
theorem fin_pure {fn : Func} {r : V} (h : (resAll P σ fn.results.toList).pre ∧ (resAll P σ fn.results.toList).v.erase = r) : fin P fn (fun x M' K' => x = r ∧ M' = noM ∧ K' = noK) .ret σ :=
  ⟨h.1, noM, noK, fun id hid => absurd rfl hid, fun t ht => (by cases ht), .inr ⟨h.2, rfl, rfl⟩⟩
theorem fin_pure' {fn : Func} {r : V} (h : (resAll P σ fn.results.toList).pre ∧ (resAll P σ fn.results.toList).v.erase = r) : fin P fn (fun x M' K' => x = r ∧ M' = noM ∧ K' = noK) .normal σ :=
  ⟨h.1, noM, noK, fun id hid => absurd rfl hid, fun t ht => (by cases ht), .inr ⟨h.2, rfl, rfl⟩⟩
end
attribute [simp] resAll resOne

/-! ### Tables of contracts -/
abbrev Pf := FuncId → List V → Option V
abbrev Po := FuncId → List V → Option (Nat × List (List V))
abbrev Mf := FuncId → Path → List V → Mem → Toks → Option (V × Mem × Toks)
def addf (pf : Pf) (f : FuncId) (g : List V → Option V) : Pf := fun f' args => if f' = f then g args else pf f' args
def addo (po : Po) (f : FuncId) (g : List V → Option (Nat × List (List V))) : Po := fun f' args => if f' = f then g args else po f' args
def addm (mf : Mf) (f : FuncId) (g : Path → List V → Mem → Toks → Option (V × Mem × Toks)) : Mf := fun f' q args M K => if f' = f then g q args M K else mf f' q args M K
@[simp] theorem addf_apply (pf : Pf) (f : FuncId) (g : List V → Option V) (f' : FuncId) (args : List V) : addf pf f g f' args = if f' = f then g args else pf f' args := rfl
@[simp] theorem addo_apply (po : Po) (f : FuncId) (g : List V → Option (Nat × List (List V))) (f' : FuncId) (args : List V) : addo po f g f' args = if f' = f then g args else po f' args := rfl
@[simp] theorem addm_apply (mf : Mf) (f : FuncId) (g : Path → List V → Mem → Toks → Option (V × Mem × Toks)) (f' : FuncId) (q : Path) (args : List V) (M : Mem) (K : Toks) : addm mf f g f' q args M K = if f' = f then g q args M K else mf f' q args M K := rfl
def pf0 : Pf := fun _ _ => none
def po0 : Po := fun _ _ => none
def mf0 : Mf := fun _ _ _ _ _ => none
@[simp] theorem pf0_apply (f : FuncId) (args : List V) : pf0 f args = none := rfl
def PureOk (P : Program) (f : FuncId) (g : List V → Option V) : Prop := ∀ args r, g args = some r → Callable P f ∧ ∀ q M K, Ctr P f q args M K fun x M' K' => x = r ∧ M' = M ∧ K' = K
def OwnOk (P : Program) (f : FuncId) (g : List V → Option (Nat × List (List V))) : Prop := ∀ args s els, g args = some (s, els) → Callable P f ∧ ∀ q M K, Ctr P f q args M K fun x M' K' => M' = M ∧ ∃ t, x = .sl els (.own t s) ∧ q <:+ t ∧ K' = upd K t true
def MemOk (P : Program) (f : FuncId) (g : Path → List V → Mem → Toks → Option (V × Mem × Toks)) : Prop := ∀ q args M K x M' K', g q args M K = some (x, M', K') → Callable P f ∧ (∀ id, ¬ q <:+ id → M id = none → M' id = none) ∧ Ctr P f q args M K fun y M1 K1 => y = x ∧ M1 = M' ∧ K1 = K'
/-- The table: which functions are which is fixed for the seat. -/
def mkE (eq : TypeId → Bool) (own mem : FuncId → Bool) (pf : Pf) (po : Po) (mf : Mf) : Env := { eq := eq, own := own, mem := mem, pf := pf, po := po, mf := mf }
section
variable {P : Program} {eq : TypeId → Bool} {own mem : FuncId → Bool} {pf : Pf} {po : Po} {mf : Mf}
@[simp] theorem mkE_eq : (mkE eq own mem pf po mf).eq = eq := rfl
@[simp] theorem mkE_cl (n : Nat) : (mkE eq own mem pf po mf).cl n = false := rfl
@[simp] theorem mkE_own : (mkE eq own mem pf po mf).own = own := rfl
@[simp] theorem mkE_mem : (mkE eq own mem pf po mf).mem = mem := rfl
@[simp] theorem mkE_pf : (mkE eq own mem pf po mf).pf = pf := rfl
@[simp] theorem mkE_po : (mkE eq own mem pf po mf).po = po := rfl
@[simp] theorem mkE_mf : (mkE eq own mem pf po mf).mf = mf := rfl
/-- The same, some addresses being frozen. -/
def Env.withCl (E : Env) (c : Nat → Bool) : Env := { E with cl := c }
@[simp] theorem withCl_eq (E : Env) (c : Nat → Bool) : (E.withCl c).eq = E.eq := rfl
@[simp] theorem withCl_own (E : Env) (c : Nat → Bool) : (E.withCl c).own = E.own := rfl
@[simp] theorem withCl_mem (E : Env) (c : Nat → Bool) : (E.withCl c).mem = E.mem := rfl
@[simp] theorem withCl_pf (E : Env) (c : Nat → Bool) : (E.withCl c).pf = E.pf := rfl
@[simp] theorem withCl_po (E : Env) (c : Nat → Bool) : (E.withCl c).po = E.po := rfl
@[simp] theorem withCl_mf (E : Env) (c : Nat → Bool) : (E.withCl c).mf = E.mf := rfl
@[simp] theorem withCl_cl (E : Env) (c : Nat → Bool) : (E.withCl c).cl = c := rfl
theorem EnvOk.withCl {E : Env} (h : EnvOk P E) (c : Nat → Bool) : EnvOk P (E.withCl c) := ⟨h.eq, h.pf, h.po, h.mf⟩
theorem EqOk.none {P : Program} : EqOk P fun _ => false := fun t h => by cases h
theorem EnvOk.nil (he : EqOk P eq) : EnvOk P (mkE eq own mem pf0 po0 mf0) :=
  ⟨he, fun f args r _ _ h => (by cases h), fun f args s els _ h => (by cases h), fun f q args M K x M' K' _ _ h => (by cases h)⟩
theorem EnvOk.addf (h : EnvOk P (mkE eq own mem pf po mf)) {f : FuncId} {g : List V → Option V} (hg : PureOk P f g) : EnvOk P (mkE eq own mem (addf pf f g) po mf) :=
  ⟨h.eq, fun f' args r h1 h2 h3 => by
    simp only [mkE_pf, addf_apply] at h3
    split at h3
    · rename_i e; subst e; exact hg args r h3
    · exact h.pf f' args r h1 h2 h3, h.po, h.mf⟩
theorem EnvOk.addo (h : EnvOk P (mkE eq own mem pf po mf)) {f : FuncId} {g : List V → Option (Nat × List (List V))} (hg : OwnOk P f g) : EnvOk P (mkE eq own mem pf (addo po f g) mf) :=
  ⟨h.eq, h.pf, fun f' args s els h1 h3 => by
    simp only [mkE_po, addo_apply] at h3
    split at h3
    · rename_i e; subst e; exact hg args s els h3
    · exact h.po f' args s els h1 h3, h.mf⟩
theorem EnvOk.addm (h : EnvOk P (mkE eq own mem pf po mf)) {f : FuncId} {g : Path → List V → Mem → Toks → Option (V × Mem × Toks)} (hg : MemOk P f g) : EnvOk P (mkE eq own mem pf po (addm mf f g)) :=
  ⟨h.eq, h.pf, h.po, fun f' q args M K x M' K' h1 h2 h3 => by
    simp only [mkE_mf, addm_apply] at h3
    split at h3
    · rename_i e; subst e; exact hg q args M K x M' K' h3
    · exact h.mf f' q args M K x M' K' h1 h2 h3⟩
/-- A contract for all that is small, out of one for what is small behind it. -/
theorem PureOk.rec {f : FuncId} {g : List V → Option V} (μ : List V → Nat) (h : ∀ n, PureOk P f (fun args => if μ args < n then g args else none) → PureOk P f (fun args => if μ args = n then g args else none)) : PureOk P f g := by
  have all : ∀ n, PureOk P f (fun args => if μ args < n then g args else none) := by
    intro n
    induction n with
    | zero => intro args r hr; simp at hr
    | succ n ih =>
      intro args r hr
      simp only at hr
      split at hr
      · rename_i hlt
        by_cases e : μ args = n
        · exact h n ih args r (by simp only; rw [if_pos e]; exact hr)
        · exact ih args r (by simp only; rw [if_pos (by omega)]; exact hr)
      · cases hr
  intro args r hr
  exact all (μ args + 1) args r (by simp only; rw [if_pos (by omega)]; exact hr)
end

/-! ### Trees -/
inductive Ex where
  | mk (k i : Int) (kids : List Ex)
def Ex.k : Ex → Int | .mk k _ _ => k
def Ex.i : Ex → Int | .mk _ i _ => i
def Ex.kids : Ex → List Ex | .mk _ _ l => l
@[simp] theorem Ex.k_mk (k i : Int) (l : List Ex) : (Ex.mk k i l).k = k := rfl
@[simp] theorem Ex.i_mk (k i : Int) (l : List Ex) : (Ex.mk k i l).i = i := rfl
@[simp] theorem Ex.kids_mk (k i : Int) (l : List Ex) : (Ex.mk k i l).kids = l := rfl
@[simp] theorem Ex.eta (e : Ex) : Ex.mk e.k e.i e.kids = e := by cases e; rfl
mutual
def encC : Ex → List V
  | .mk k i l => [.int .i64 k, .int .i64 i, .sl (encL l) .no]
def encL : List Ex → List (List V)
  | [] => []
  | e :: l => encC e :: encL l
end
def enc (e : Ex) : V := .agg (encC e)
theorem encC_eq (e : Ex) : encC e = [.int .i64 e.k, .int .i64 e.i, .sl (encL e.kids) .no] := by cases e; rw [encC]; rfl
@[simp] theorem enc_eq (e : Ex) : enc e = .agg [.int .i64 e.k, .int .i64 e.i, .sl (encL e.kids) .no] := by rw [enc, encC_eq]
@[simp] theorem encL_nil : encL [] = [] := by rw [encL]
@[simp] theorem encL_cons (e : Ex) (l : List Ex) : encL (e :: l) = [.int .i64 e.k, .int .i64 e.i, .sl (encL e.kids) .no] :: encL l := by rw [encL, encC_eq]
theorem encL_map (l : List Ex) : encL l = l.map encC := by
  induction l with
  | nil => rw [encL]; rfl
  | cons e l ih => rw [encL, ih]; rfl
@[simp] theorem encL_length (l : List Ex) : (encL l).length = l.length := by rw [encL_map]; simp
theorem encL_get (l : List Ex) (n : Nat) : (encL l)[n]? = l[n]?.map encC := by rw [encL_map]; simp
@[simp] theorem encL_getElem (l : List Ex) (n : Nat) (h : n < (encL l).length) : (encL l)[n] = [.int .i64 (l[n]'(by simpa using h)).k, .int .i64 (l[n]'(by simpa using h)).i, .sl (encL (l[n]'(by simpa using h)).kids) .no] := by
  simp only [encL_map, List.getElem_map, encC_eq]
theorem wrap64 {n : Int} (h : -9223372036854775808 ≤ n) (h' : n ≤ 9223372036854775807) : IntKind.i64.wrap n = n := by
  unfold IntKind.wrap
  simp [IntKind.signed, IntKind.bits]
  omega
theorem wrap_succ {j n : Nat} (h : n ≤ 9223372036854775807) (hj : j < n) : IntKind.i64.wrap ((j : Int) + 1) = (j : Int) + 1 := wrap64 (by omega) (by omega)
theorem all_take_succ {α : Type} (l : List α) (f : α → Bool) (j : Nat) (h : j < l.length) : (l.take (j + 1)).all f = ((l.take j).all f && f l[j]) := by
  rw [List.take_add_one, List.all_append]; simp [h]
theorem encL_append (l m : List Ex) : encL (l ++ m) = encL l ++ encL m := by simp [encL_map]
theorem encL_take (l : List Ex) (n : Nat) : (encL l).take n = encL (l.take n) := by simp [encL_map]
theorem encL_drop (l : List Ex) (n : Nat) : (encL l).drop n = encL (l.drop n) := by simp [encL_map]
@[simp] theorem lenL_encL (l : List Ex) : lenL 3 (encL l) = True := eq_true fun el h => by
  rw [encL_map] at h
  obtain ⟨e, _, rfl⟩ := List.mem_map.1 h
  rw [encC_eq]; rfl
@[simp] theorem fitL_encL (l : List Ex) : fitL 3 (encL l) = true := fitL_of fun el h => by
  rw [encL_map] at h
  obtain ⟨e, _, rfl⟩ := List.mem_map.1 h
  rw [encC_eq]
  refine ⟨rfl, fun y hy => ?_⟩
  simp only [List.mem_cons, List.not_mem_nil, or_false] at hy
  rcases hy with rfl | rfl | rfl <;> rfl
@[simp] theorem encL_er (l : List Ex) : (encL l).map (List.map V.er) = encL l := by
  rw [encL_map, List.map_map]
  refine List.map_congr_left fun e _ => ?_
  simp [encC_eq, V.er]
theorem encL_len3 (l : List Ex) : ∀ el ∈ encL l, el.length = 3 := fun el h => by
  rw [encL_map] at h
  obtain ⟨e, _, rfl⟩ := List.mem_map.1 h
  rw [encC_eq]; rfl
mutual
def decC : List V → Option Ex
  | [.int .i64 k, .int .i64 i, .sl els .no] => match decL els with
    | some l => some (.mk k i l)
    | none => none
  | _ => none
def decL : List (List V) → Option (List Ex)
  | [] => some []
  | c :: r => match decC c, decL r with
    | some e, some l => some (e :: l)
    | _, _ => none
end
def dec : V → Option Ex
  | .agg cs => decC cs
  | _ => none
mutual
theorem decC_enc : ∀ e : Ex, decC (encC e) = some e
  | .mk k i l => by rw [encC, decC, decL_enc l]
theorem decL_enc : ∀ l : List Ex, decL (encL l) = some l
  | [] => by rw [encL, decL]
  | e :: l => by rw [encL, decL, decC_enc e, decL_enc l]
end
@[simp] theorem decL_encL (l : List Ex) : decL (encL l) = some l := decL_enc l
@[simp] theorem decL_nil : decL [] = some [] := by rw [decL]
@[simp] theorem decL_cons (c : List V) (r : List (List V)) : decL (c :: r) = match decC c, decL r with | some e, some l => some (e :: l) | _, _ => none := by rw [decL]
@[simp] theorem dec_agg (k i : Int) (els : List (List V)) : dec (.agg [.int .i64 k, .int .i64 i, .sl els .no]) = match decL els with | some l => some (.mk k i l) | none => none := by rw [dec, decC]
@[simp] theorem decC_lit (k i : Int) (els : List (List V)) : decC [.int .i64 k, .int .i64 i, .sl els .no] = match decL els with | some l => some (.mk k i l) | none => none := by rw [decC]
theorem dec_enc (e : Ex) : dec (enc e) = some e := decC_enc e
mutual
theorem decC_inv : ∀ (cs : List V) (e : Ex), decC cs = some e → cs = encC e
  | cs, e, h => by
    unfold decC at h
    split at h
    · rename_i k i els
      split at h
      · rename_i l hl
        cases h
        rw [encC, decL_inv els l hl]
      · cases h
    · cases h
theorem decL_inv : ∀ (els : List (List V)) (l : List Ex), decL els = some l → els = encL l
  | [], l, h => by rw [decL] at h; cases h; rw [encL]
  | c :: r, l, h => by
    rw [decL] at h
    split at h
    · rename_i e l' h1 h2
      cases h
      rw [encL, decC_inv c e h1, decL_inv r l' h2]
    · cases h
end
theorem dec_inv {v : V} {e : Ex} (h : dec v = some e) : v = enc e := by
  unfold dec at h
  split at h
  · rename_i cs; rw [enc, decC_inv cs e h]
  · cases h
end Go.Proofs.Ytiippmhlkcbjmaa.Ax
