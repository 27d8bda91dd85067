/- Abstract execution, part M: for use: a region's operations one by one, spelled for simp. -/
import Derived.Test.YtiippmhlkcbjmaaAxL
set_option linter.unusedVariables false
set_option linter.unusedSimpArgs false
namespace Go.Proofs.Ytiippmhlkcbjmaa.Ax
open Go

@[simp] theorem put_none (σ : St) (N : Nat) (v : V) : σ.put N none v = σ := rfl
@[simp] theorem put_get (σ : St) (N d : Nat) (v : V) (t : Nat) : (σ.put N (some d) v).get t = if t = d then (if d < N then v else σ.get t) else σ.get t := by
  unfold St.put
  by_cases h : d < N <;> by_cases e : t = d <;> simp [h, e]
attribute [simp] put_M put_K put_cnt
def St.boxed (σ : St) (p : Path) (d : Option Nat) (b : Box) : St := { σ with M := upd σ.M (nid σ.cnt p d) (some b), cnt := bump σ.cnt d }
def St.owned (σ : St) (p : Path) (d : Option Nat) (K0 : Toks) : St := { σ with K := upd K0 (nid σ.cnt p d) true, cnt := bump σ.cnt d }
def St.setM (σ : St) (M : Mem) : St := { σ with M := M }
def St.setMK (σ : St) (d : Option Nat) (M : Mem) (K : Toks) : St := { σ with M := M, K := K, cnt := bump σ.cnt d }
@[simp] theorem boxed_get (σ : St) (p : Path) (d : Option Nat) (b : Box) : (σ.boxed p d b).get = σ.get := rfl
@[simp] theorem boxed_M (σ : St) (p : Path) (d : Option Nat) (b : Box) : (σ.boxed p d b).M = upd σ.M (nid σ.cnt p d) (some b) := rfl
@[simp] theorem boxed_K (σ : St) (p : Path) (d : Option Nat) (b : Box) : (σ.boxed p d b).K = σ.K := rfl
@[simp] theorem boxed_cnt (σ : St) (p : Path) (d : Option Nat) (b : Box) : (σ.boxed p d b).cnt = bump σ.cnt d := rfl
@[simp] theorem owned_get (σ : St) (p : Path) (d : Option Nat) (K0 : Toks) : (σ.owned p d K0).get = σ.get := rfl
@[simp] theorem owned_M (σ : St) (p : Path) (d : Option Nat) (K0 : Toks) : (σ.owned p d K0).M = σ.M := rfl
@[simp] theorem owned_K (σ : St) (p : Path) (d : Option Nat) (K0 : Toks) : (σ.owned p d K0).K = upd K0 (nid σ.cnt p d) true := rfl
@[simp] theorem owned_cnt (σ : St) (p : Path) (d : Option Nat) (K0 : Toks) : (σ.owned p d K0).cnt = bump σ.cnt d := rfl
@[simp] theorem setM_get (σ : St) (M : Mem) : (σ.setM M).get = σ.get := rfl
@[simp] theorem setM_M (σ : St) (M : Mem) : (σ.setM M).M = M := rfl
@[simp] theorem setM_K (σ : St) (M : Mem) : (σ.setM M).K = σ.K := rfl
@[simp] theorem setM_cnt (σ : St) (M : Mem) : (σ.setM M).cnt = σ.cnt := rfl
@[simp] theorem setMK_get (σ : St) (d : Option Nat) (M : Mem) (K : Toks) : (σ.setMK d M K).get = σ.get := rfl
@[simp] theorem setMK_M (σ : St) (d : Option Nat) (M : Mem) (K : Toks) : (σ.setMK d M K).M = M := rfl
@[simp] theorem setMK_K (σ : St) (d : Option Nat) (M : Mem) (K : Toks) : (σ.setMK d M K).K = K := rfl
@[simp] theorem setMK_cnt (σ : St) (d : Option Nat) (M : Mem) (K : Toks) : (σ.setMK d M K).cnt = bump σ.cnt d := rfl
@[simp] theorem entry_get (args : List V) (M : Mem) (K : Toks) (t : Nat) : (entry args M K).get t = args.getD t (.tup []) := rfl
@[simp] theorem entry_M (args : List V) (M : Mem) (K : Toks) : (entry args M K).M = M := rfl
@[simp] theorem entry_K (args : List V) (M : Mem) (K : Toks) : (entry args M K).K = K := rfl
@[simp] theorem entry_cnt (args : List V) (M : Mem) (K : Toks) (k : Nat) : (entry args M K).cnt k = 0 := rfl
@[simp] theorem upd_apply {α : Type} (f : Path → α) (p q : Path) (v : α) : upd f p v q = if q = p then v else f q := rfl
@[simp] theorem bump_apply (cnt : Nat → Nat) (d : Option Nat) (k : Nat) : bump cnt d k = if k = key d then cnt k + 1 else cnt k := rfl
@[simp] theorem nid_eq (cnt : Nat → Nat) (p : Path) (d : Nat) : nid cnt p (some d) = cnt (d + 2) :: (d + 2) :: p := rfl
@[simp] theorem nid_none (cnt : Nat → Nat) (p : Path) : nid cnt p none = cnt 1 :: 1 :: p := rfl
@[simp] theorem key_some (d : Nat) : key (some d) = d + 2 := rfl
@[simp] theorem key_none : key none = 1 := rfl
@[simp] theorem noM_apply (id : Path) : noM id = none := rfl
@[simp] theorem noK_apply (id : Path) : noK id = false := rfl

def fitL (s : Nat) (news : List (List V)) : Bool := news.all fun el => el.length == s && el.all V.one
@[simp] theorem fitL_nil (s : Nat) : fitL s [] = true := rfl
@[simp] theorem fitL_cons (s : Nat) (el : List V) (l : List (List V)) : fitL s (el :: l) = (el.length == s && el.all V.one && fitL s l) := rfl
@[simp] theorem fitL_append (s : Nat) (l m : List (List V)) : fitL s (l ++ m) = (fitL s l && fitL s m) := by simp [fitL]
theorem fitL_of {s : Nat} {l : List (List V)} (h : ∀ el ∈ l, el.length = s ∧ ∀ y ∈ el, V.one y = true) : fitL s l = true := by
  unfold fitL
  rw [List.all_eq_true]
  intro el hel
  rw [Bool.and_eq_true, beq_iff_eq, List.all_eq_true]
  exact h el hel
section
variable (P : Program) (E : Env) (N : Nat) (p : Path)
def outNo (σ : St) : Out := ⟨False, σ⟩
def stpStore (t : TypeId) (d : Option Nat) (a x : V) (σ : St) : Out := match a with
  | .ptr id off => match σ.M id with
    | some (.cells cs) => ⟨0 < P.cellsOf t ∧ x.cells.length = P.cellsOf t ∧ x.cells.all V.one = true ∧ off + P.cellsOf t ≤ cs.length, (σ.setM (upd σ.M id (some (.cells (splice cs off x.cells))))).put N d (.tup [])⟩
    | _ => outNo σ
  | _ => outNo σ
def stpAppend (ts : Array TypeId) (d : Option Nat) (s x : V) (σ : St) : Out := match ts.toList with
  | [t, t'] => match P.underlying t, elsOf x with
    | some (.slice e), some news => match zval P e with
      | some z => match news with
        | [] => ⟨t' = t ∧ (elsOf s).isSome = true ∧ 0 < P.cellsOf e, σ.put N d s⟩
        | _ => match s with
          | .nils => ⟨t' = t ∧ 0 < P.cellsOf e ∧ 0 < P.bytesOf e ∧ z.isJunk = false ∧ z.cells.length = P.cellsOf e ∧ fitL (P.cellsOf e) news = true ∧ news.length * P.bytesOf e ≤ 140737488355328,
              (σ.owned p d σ.K).put N d (.sl (news.map (List.map V.er)) (.own (nid σ.cnt p d) (P.cellsOf e)))⟩
          | .sl els .ex => ⟨t' = t ∧ 0 < P.cellsOf e ∧ 0 < P.bytesOf e ∧ z.isJunk = false ∧ z.cells.length = P.cellsOf e ∧ fitL (P.cellsOf e) news = true ∧ lenL (P.cellsOf e) els ∧ (els.length + news.length) * P.bytesOf e ≤ 140737488355328,
              (σ.owned p d σ.K).put N d (.sl (els ++ news.map (List.map V.er)) (.own (nid σ.cnt p d) (P.cellsOf e)))⟩
          | .sl els (.own q s) => ⟨σ.K q = true ∧ s = P.cellsOf e ∧ t' = t ∧ 0 < P.cellsOf e ∧ 0 < P.bytesOf e ∧ z.isJunk = false ∧ z.cells.length = P.cellsOf e ∧ fitL (P.cellsOf e) news = true ∧ lenL (P.cellsOf e) els ∧ (els.length + news.length) * P.bytesOf e ≤ 140737488355328,
              (σ.owned p d (upd σ.K q false)).put N d (.sl (els ++ news.map (List.map V.er)) (.own (nid σ.cnt p d) (P.cellsOf e)))⟩
          | _ => outNo σ
      | none => outNo σ
    | _, _ => outNo σ
  | _ => outNo σ
def stpMake (t : TypeId) (len : Operand) (d : Option Nat) (l c : V) (σ : St) : Out := match P.underlying t with
  | some (.slice e) => match l, c, zval P e with
    | .int _ l, .int _ c, some z => match len with
      | .const (.int _ 0) => ⟨0 ≤ c ∧ c ≤ 140737488355328 ∧ c * P.bytesOf e ≤ 140737488355328 ∧ l = 0 ∧ 0 < P.cellsOf e ∧ z.isJunk = false ∧ z.cells.length = P.cellsOf e, (σ.owned p d σ.K).put N d (.sl [] (.own (nid σ.cnt p d) (P.cellsOf e)))⟩
      | _ => ⟨0 ≤ l ∧ l ≤ c ∧ c ≤ 140737488355328 ∧ c * P.bytesOf e ≤ 140737488355328 ∧ 0 < P.cellsOf e ∧ z.isJunk = false ∧ z.cells.length = P.cellsOf e,
          (σ.boxed p d (.cells (List.replicate c.toNat z.cells).flatten)).put N d (.ms (nid σ.cnt p d) 0 l.toNat c.toNat)⟩
    | _, _, _ => outNo σ
  | _ => outNo σ
def stpCall (f : FuncId) (d : Option Nat) (args : List V) (σ : St) : Out :=
  if E.own f = true then match E.po f (args.map V.erase) with
    | some (s, els) => ⟨True, (σ.owned p d σ.K).put N d (.sl els (.own (nid σ.cnt p d) s))⟩
    | none => outNo σ
  else if E.mem f = true then match E.mf f (nid σ.cnt p d) (args.map V.erase) σ.M σ.K with
    | some (x, M', K') => ⟨True, (σ.setMK d M' K').put N d x⟩
    | none => outNo σ
  else match E.pf f (args.map V.erase) with
    | some r => ⟨True, σ.put N d r⟩
    | none => outNo σ
def stpR (d : Option Nat) (r : R) (σ : St) : Out := ⟨r.pre, σ.put N d r.v⟩
/-- One operation. -/
def stp (o : Oper) (σ : St) : Out := match o.op with
  | .alloc t => match zval P t with
    | some z => ⟨z.isJunk = false, (σ.boxed p o.dst (.cells z.cells)).put N o.dst (.ptr (nid σ.cnt p o.dst) 0)⟩
    | none => outNo σ
  | .box t x => ⟨(σ.ev x).isJunk = false, (σ.boxed p o.dst (.cells (σ.ev x).cells)).put N o.dst (.ptr (nid σ.cnt p o.dst) 0)⟩
  | .buildSlice t len ps => match P.underlying t with
    | some (.slice e) => ⟨ps.toList.map (·.1) = List.range len ∧ 0 < P.cellsOf e ∧ len * P.cellsOf e ≤ 16777216 ∧ (zval P e).any (fun z => !z.isJunk && z.cells.length == P.cellsOf e) = true ∧ ps.toList.all (fun x => !(σ.ev x.2).isJunk && (σ.ev x.2).cells.length == P.cellsOf e) = true,
        σ.put N o.dst (.sl (ps.toList.map fun x => (σ.ev x.2).cells.map V.er) .ex)⟩
    | _ => outNo σ
  | .store t a x => stpStore P N t o.dst (σ.ev a) (σ.ev x) σ
  | .makeSlice t l c => stpMake P N p t l o.dst (σ.ev l) (σ.ev c) σ
  | .call c => match c.callee with
    | .builtin .append => match c.args.toList with
      | [s, x] => stpAppend P N p c.argTypes o.dst (σ.ev s) (σ.ev x) σ
      | _ => outNo σ
    | .builtin b => stpR N o.dst (rBuiltin P b c.argTypes (c.args.toList.map σ.ev)) σ
    | .value f => match σ.ev f with
      | .fn g caps => stpCall E N p g o.dst (c.args.toList.map σ.ev ++ caps) σ
      | _ => outNo σ
    | _ => outNo σ
  | op => stpR N o.dst (rop P E σ.ev σ.M op) σ
/-- A region's operations, one behind the other. -/
def goOps (ops : Array Oper) : List Oper → St → (St → Prop) → Prop
  | [], σ, K => K σ
  | o :: os, σ, K => match gd ops o σ.get with
    | some c => if c = true then (stp P E N p o σ).pre ∧ goOps ops os (stp P E N p o σ).st K else goOps ops os (σ.put N o.dst (.tup [])) K
    | none => False
end

section
variable {P : Program} {E : Env} {N : Nat} {p : Path}
theorem stp_eq (o : Oper) (σ : St) : (stp P E N p o σ).pre → (opStep P E N p o σ).pre ∧ (opStep P E N p o σ).st = (stp P E N p o σ).st := by
  intro h
  unfold opStep
  simp only
  cases ho : o.op with
  | alloc t =>
    simp only [stp, ho] at h ⊢
    simp only [opCore]
    split <;> rename_i e <;> simp only [e] at h ⊢
    · exact ⟨h, rfl⟩
    · exact h.elim
  | box t x => simp only [stp, ho] at h ⊢; exact ⟨h, rfl⟩
  | buildSlice t len ps =>
    simp only [stp, ho] at h ⊢
    simp only [opCore]
    split
    · rename_i e; simp only [e] at h ⊢; exact ⟨h, trivial⟩
    · rename_i hne
      split at h
      · rename_i e; exact absurd e (hne _)
      · exact h.elim
  | store t a x =>
    simp only [stp, ho, stpStore] at h ⊢
    simp only [opCore, coreStore]
    split at h
    · rename_i id off e
      simp only [e]
      split at h
      · rename_i cs hm; simp only [hm]; exact ⟨h, rfl⟩
      · exact h.elim
    · exact h.elim
  | makeSlice t l c =>
    simp only [stp, ho, stpMake] at h ⊢
    simp only [opCore, coreMake]
    split at h
    · rename_i e hu
      simp only [hu]
      split at h
      · rename_i k l' k' c' z e1 e2 e3
        simp only [e1, e2, e3]
        split at h
        · exact ⟨h, rfl⟩
        · rename_i hne
          split
          · rename_i kk; exact absurd rfl (hne kk)
          · exact ⟨h, rfl⟩
      · exact h.elim
    · exact h.elim
  | call c =>
    obtain ⟨callee, args, ts⟩ := c
    cases callee with
    | invoke r m => simp only [stp, ho] at h; exact h.elim
    | builtin b =>
      by_cases hb : b = .append
      · subst hb
        simp only [stp, ho] at h ⊢
        simp only [opCore]
        split at h
        · rename_i s x hargs
          simp only [hargs]
          unfold stpAppend at h ⊢
          unfold coreAppend
          split at h
          · rename_i t t' hts
            simp only [hts]
            split at h
            · rename_i e news hu hels
              simp only [hu, hels]
              split at h
              · rename_i z hz
                simp only [hz]
                cases news with
                | nil => exact ⟨h, rfl⟩
                | cons n ns =>
                  simp only at h ⊢
                  cases hS : σ.ev s with
                  | nils => simp only [hS] at h ⊢; exact ⟨h, rfl⟩
                  | sl els tk => cases tk <;> simp only [hS] at h ⊢ <;> first | exact h.elim | exact ⟨h, rfl⟩
                  | _ => simp only [hS] at h; exact h.elim
              · exact h.elim
            · exact h.elim
          · exact h.elim
        · exact h.elim
      · have e1 : opCore P E p σ.ev σ.M σ.K σ.cnt o.dst (.call ⟨.builtin b, args, ts⟩) = coreR (rBuiltin P b ts (args.toList.map σ.ev)) σ.M σ.K σ.cnt := by cases b <;> first | exact absurd rfl hb | rfl
        have e2 : stp P E N p o σ = stpR N o.dst (rBuiltin P b ts (args.toList.map σ.ev)) σ := by
          unfold stp; simp only [ho]
        rw [e2] at h ⊢
        rw [e1]
        exact ⟨h, rfl⟩
    | value f =>
      simp only [stp, ho] at h ⊢
      simp only [opCore]
      split at h
      · rename_i g caps hf
        simp only [hf]
        unfold stpCall at h ⊢
        unfold coreCall
        by_cases h1 : E.own g = true
        · simp only [if_pos h1] at h ⊢
          split at h
          · rename_i s els e; first | (simp only [e]; done) | (simp only [e]; exact ⟨h, rfl⟩) | (simp only [e]; exact ⟨h, trivial⟩)
          · exact h.elim
        · simp only [if_neg h1] at h ⊢
          by_cases h2 : E.mem g = true
          · simp only [if_pos h2] at h ⊢
            split at h
            · rename_i x M' K' e; first | (simp only [e]; done) | (simp only [e]; exact ⟨h, rfl⟩) | (simp only [e]; exact ⟨h, trivial⟩)
            · exact h.elim
          · simp only [if_neg h2] at h ⊢
            split at h
            · rename_i r e; first | (simp only [e]; done) | (simp only [e]; exact ⟨h, rfl⟩) | (simp only [e]; exact ⟨h, trivial⟩)
            · exact h.elim
      · exact h.elim
  | _ =>
    simp only [stp, ho] at h ⊢
    (first | exact ⟨h, trivial⟩ | exact ⟨h, rfl⟩)
theorem goOps_run (ops : Array Oper) {K : St → Prop} : ∀ (os : List Oper) (σ : St), goOps P E N p ops os σ K → runOps P E N p ops os σ K
  | [], σ, h => h
  | o :: os, σ, h => by
    unfold goOps at h
    cases hg : gd ops o σ.get with
    | none => rw [hg] at h; exact h.elim
    | some c =>
      rw [hg] at h
      simp only at h
      cases c with
      | true =>
        simp only [if_true] at h
        obtain ⟨h1, h2⟩ := h
        obtain ⟨h3, h4⟩ := stp_eq o σ h1
        have e : gStep P E N p ops o σ = opStep P E N p o σ := by
          unfold gStep gCore opStep coreSt; simp only [hg, ev_eq]
        refine ⟨by rw [e]; exact h3, ?_⟩
        rw [e, h4]; exact goOps_run ops os _ h2
      | false =>
        simp only [Bool.false_eq_true, if_false] at h
        have e : gStep P E N p ops o σ = ⟨True, σ.put N o.dst (.tup [])⟩ := by
          unfold gStep gCore coreSt; simp only [hg]
        refine ⟨by rw [e]; trivial, ?_⟩
        rw [e]; exact goOps_run ops os _ h
theorem T.reg (hE : EnvOk P E) {ro : Option Nat} {id : Nat} {ops : Array Oper} (hd : noDefer ops = true) {σ : St} {Q : Post} (h : goOps P E N p ops ops.toList σ (Q .normal)) : T P ro N p (.region id ops false) σ Q := T.region hE hd (goOps_run ops _ σ h)
theorem T.any (hE : EnvOk P E) (hm : P.follows .mixedOrders = true) {ro : Option Nat} {id : Nat} {ops : Array Oper} (hd : noDefer ops = true) (hok : okOrd E ops = true) {σ : St} {Q : Post} (h : goOps P E N p ops ops.toList σ (Q .normal)) : T P ro N p (.region id ops true) σ Q := T.draw hE hm hd hok (goOps_run ops _ σ h)
end
end Go.Proofs.Ytiippmhlkcbjmaa.Ax
