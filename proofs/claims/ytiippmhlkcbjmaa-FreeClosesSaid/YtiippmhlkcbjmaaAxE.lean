/- Abstract execution, part E: the state of a frame, one operation, and that the machine does the same. -/
import Derived.Test.YtiippmhlkcbjmaaAxD
set_option linter.unusedVariables false
set_option linter.unusedSimpArgs false
namespace Go.Proofs.Ytiippmhlkcbjmaa.Ax
open Go

structure St where
  get : Nat → V
  M : Mem
  K : Toks
  cnt : Nat → Nat

def St.put (σ : St) (N : Nat) (d : Option Nat) (v : V) : St := match d with
  | none => σ
  | some d => if d < N then { σ with get := fun t => if t = d then v else σ.get t } else σ
def St.ev (σ : St) : Operand → V
  | .tmp t => σ.get t
  | .const c => ofVal c
  | .global _ => .junk
  | .func f => .fn f []
def key : Option Nat → Nat
  | none => 1
  | some d => d + 2
def nid (cnt : Nat → Nat) (p : Path) (d : Option Nat) : Path := cnt (key d) :: key d :: p
def bump (cnt : Nat → Nat) (d : Option Nat) : Nat → Nat := fun k => if k = key d then cnt k + 1 else cnt k

structure Env where
  eq : TypeId → Bool
  pf : FuncId → List V → Option V
  po : FuncId → List V → Option (Nat × List (List V))
  own : FuncId → Bool
  mf : FuncId → Path → List V → Mem → Toks → Option (V × Mem × Toks)
  mem : FuncId → Bool
  cl : Nat → Bool := fun _ => false
/-- Whether what lies at an address is known to be written no more. -/
def frozenA (E : Env) : Operand → Bool
  | .tmp n => E.cl n
  | _ => false
def rLoadC (P : Program) (t : TypeId) : V → R
  | .cptr cs off => cut P t cs off
  | _ => .bad

/-- What an operation comes to: its value, and the memory. -/
structure Core where
  pre : Prop
  v : V
  M : Mem
  K : Toks
  cnt : Nat → Nat

def V.one : V → Bool
  | .agg _ | .tup _ | .junk => false
  | _ => true
def elsOf : V → Option (List (List V))
  | .nils => some []
  | .sl els _ => some els
  | _ => none

section
variable (P : Program) (E : Env) (p : Path)
def rop (ρ : Operand → V) (M : Mem) : Op → R
  | .move x | .assign x => ⟨True, ρ x⟩
  | .pick c a b => rPick (ρ c) (ρ a) (ρ b)
  | .load t a => if frozenA E a = true then rLoadC P t (ρ a) else rLoad P M t (ρ a)
  | .build t ps => rBuild P t (ps.toList.map fun x => (x.1, ρ x.2))
  | .nilCheck x => rNil (ρ x)
  | .binOp op t x y _ => rBin P E.eq op t (ρ x) (ρ y)
  | .unOp op _ x => rUn op (ρ x)
  | .convert s d x => rConv P s d (ρ x)
  | .makeInterface t x => rIface P t (ρ x)
  | .makeFunc (.func f) first caps => ⟨first = #[], .fn f (caps.toList.map ρ)⟩
  | .slice t x lo hi none => rSlice P t (ρ x) (lo.map ρ) (hi.map ρ)
  | .fieldAddr s x f => rField P s f (ρ x)
  | .field s x f => rPart P s f (ρ x)
  | .indexAddr t x i => rIxAddr P t (ρ x) (ρ i)
  | .index t x i => rIx P t (ρ x) (ρ i)
  | .typeAssert x _ t ok => rAssert P t ok (ρ x)
  | .extract x i => rExtract i (ρ x)
  | .call { callee := .builtin b, args, argTypes } => rBuiltin P b argTypes (args.toList.map ρ)
  | _ => .bad

def coreBad (M : Mem) (K : Toks) (cnt : Nat → Nat) : Core := ⟨False, .junk, M, K, cnt⟩
def coreR (r : R) (M : Mem) (K : Toks) (cnt : Nat → Nat) : Core := ⟨r.pre, r.v, M, K, cnt⟩
def coreNew (pre : Prop) (d : Option Nat) (v : Path → V) (b : Option Box) (ow : Bool) (M : Mem) (K : Toks) (cnt : Nat → Nat) : Core :=
  ⟨pre, v (nid cnt p d), match b with | some b => upd M (nid cnt p d) (some b) | none => M, if ow = true then upd K (nid cnt p d) true else K, bump cnt d⟩
def coreStore (t : TypeId) (a x : V) (M : Mem) (K : Toks) (cnt : Nat → Nat) : Core := match a with
  | .ptr id off => match M id with
    | some (.cells cs) => ⟨0 < P.cellsOf t ∧ x.cells.length = P.cellsOf t ∧ x.cells.all V.one = true ∧ off + P.cellsOf t ≤ cs.length, .tup [], upd M id (some (.cells (splice cs off x.cells))), K, cnt⟩
    | _ => coreBad M K cnt
  | _ => coreBad M K cnt
def coreMake (t : TypeId) (len : Operand) (l c : V) (d : Option Nat) (M : Mem) (K : Toks) (cnt : Nat → Nat) : Core := match P.underlying t with
  | some (.slice e) => match l, c, zval P e with
    | .int _ l, .int _ c, some z => match len with
      | .const (.int _ 0) => coreNew p (0 ≤ c ∧ c ≤ 140737488355328 ∧ c * P.bytesOf e ≤ 140737488355328 ∧ l = 0 ∧ 0 < P.cellsOf e ∧ z.isJunk = false ∧ z.cells.length = P.cellsOf e) d (fun id => .sl [] (.own id (P.cellsOf e))) none true M K cnt
      | _ => coreNew p (0 ≤ l ∧ l ≤ c ∧ c ≤ 140737488355328 ∧ c * P.bytesOf e ≤ 140737488355328 ∧ 0 < P.cellsOf e ∧ z.isJunk = false ∧ z.cells.length = P.cellsOf e) d
          (fun id => .ms id 0 l.toNat c.toNat) (some (.cells (List.replicate c.toNat z.cells).flatten)) false M K cnt
    | _, _, _ => coreBad M K cnt
  | _ => coreBad M K cnt
def coreAppend (ts : Array TypeId) (s x : V) (d : Option Nat) (M : Mem) (K : Toks) (cnt : Nat → Nat) : Core := match ts.toList with
  | [t, t'] => match P.underlying t, elsOf x with
    | some (.slice e), some news => match zval P e with
      | some z => match news with
        | [] => ⟨t' = t ∧ (elsOf s).isSome = true ∧ 0 < P.cellsOf e, s, M, K, cnt⟩
        | _ => match s with
          | .nils => coreNew p (t' = t ∧ 0 < P.cellsOf e ∧ 0 < P.bytesOf e ∧ z.isJunk = false ∧ z.cells.length = P.cellsOf e ∧ news.all (fun el => el.length == P.cellsOf e && el.all V.one) = true ∧ news.length * P.bytesOf e ≤ 140737488355328)
              d (fun id => .sl (news.map (List.map V.er)) (.own id (P.cellsOf e))) none true M K cnt
          | .sl els .ex => coreNew p (t' = t ∧ 0 < P.cellsOf e ∧ 0 < P.bytesOf e ∧ z.isJunk = false ∧ z.cells.length = P.cellsOf e ∧ news.all (fun el => el.length == P.cellsOf e && el.all V.one) = true ∧ (∀ el ∈ els, el.length = P.cellsOf e) ∧ (els.length + news.length) * P.bytesOf e ≤ 140737488355328)
              d (fun id => .sl (els ++ news.map (List.map V.er)) (.own id (P.cellsOf e))) none true M K cnt
          | .sl els (.own q s) => coreNew p (K q = true ∧ s = P.cellsOf e ∧ t' = t ∧ 0 < P.cellsOf e ∧ 0 < P.bytesOf e ∧ z.isJunk = false ∧ z.cells.length = P.cellsOf e ∧ news.all (fun el => el.length == P.cellsOf e && el.all V.one) = true ∧ (∀ el ∈ els, el.length = P.cellsOf e) ∧ (els.length + news.length) * P.bytesOf e ≤ 140737488355328)
              d (fun id => .sl (els ++ news.map (List.map V.er)) (.own id (P.cellsOf e))) none true M (upd K q false) cnt
          | _ => coreBad M K cnt
      | none => coreBad M K cnt
    | _, _ => coreBad M K cnt
  | _ => coreBad M K cnt
def coreCall (f : FuncId) (args : List V) (d : Option Nat) (M : Mem) (K : Toks) (cnt : Nat → Nat) : Core :=
  if E.own f = true then match E.po f (args.map V.erase) with
    | some (s, els) => coreNew p True d (fun id => .sl els (.own id s)) none true M K cnt
    | none => coreBad M K cnt
  else if E.mem f = true then match E.mf f (nid cnt p d) (args.map V.erase) M K with
    | some (x, M', K') => ⟨True, x, M', K', bump cnt d⟩
    | none => coreBad M K cnt
  else match E.pf f (args.map V.erase) with
    | some r => ⟨True, r, M, K, cnt⟩
    | none => coreBad M K cnt
def opCore (ρ : Operand → V) (M : Mem) (K : Toks) (cnt : Nat → Nat) (d : Option Nat) : Op → Core
  | .alloc t => match zval P t with
    | some z => coreNew p (z.isJunk = false) d (fun id => .ptr id 0) (some (.cells z.cells)) false M K cnt
    | none => coreBad M K cnt
  | .box t x => coreNew p ((ρ x).isJunk = false) d (fun id => .ptr id 0) (some (.cells (ρ x).cells)) false M K cnt
  | .buildSlice t len ps => match P.underlying t with
    | some (.slice e) => ⟨ps.toList.map (·.1) = List.range len ∧ 0 < P.cellsOf e ∧ len * P.cellsOf e ≤ 16777216 ∧ (zval P e).any (fun z => !z.isJunk && z.cells.length == P.cellsOf e) = true ∧ ps.toList.all (fun x => !(ρ x.2).isJunk && (ρ x.2).cells.length == P.cellsOf e) = true,
        .sl (ps.toList.map fun x => (ρ x.2).cells.map V.er) .ex, M, K, cnt⟩
    | _ => coreBad M K cnt
  | .store t a x => coreStore P t (ρ a) (ρ x) M K cnt
  | .makeSlice t l c => coreMake P p t l (ρ l) (ρ c) d M K cnt
  | .call c => match c.callee with
    | .builtin .append => match c.args.toList with
      | [s, x] => coreAppend P p c.argTypes (ρ s) (ρ x) d M K cnt
      | _ => coreBad M K cnt
    | .builtin b => coreR (rBuiltin P b c.argTypes (c.args.toList.map ρ)) M K cnt
    | .value f => match ρ f with
      | .fn g caps => coreCall E p g (c.args.toList.map ρ ++ caps) d M K cnt
      | _ => coreBad M K cnt
    | _ => coreBad M K cnt
  | op => coreR (rop P E ρ M op) M K cnt
end

structure Out where
  pre : Prop
  st : St
def opStep (P : Program) (E : Env) (N : Nat) (p : Path) (o : Oper) (σ : St) : Out :=
  let c := opCore P E p σ.ev σ.M σ.K σ.cnt o.dst o.op
  ⟨c.pre, ({ σ with M := c.M, K := c.K, cnt := c.cnt } : St).put N o.dst c.v⟩

/-! ### The state stands for a frame and a world -/
structure Rel (N : Nat) (p : Path) (ds : List Deferred) (G : Ghost) (σ : St) (a : Act) (w : World) : Prop where
  n : a.tmps.size = N
  tm : ∀ (t : Nat) v, a.tmps[t]? = some v → Rep G v (σ.get t)
  rng : ∀ t, N ≤ t → σ.get t = .tup []
  df : a.defers = ds
  sim : Sim G σ.M σ.K w
  fr : ∀ k c id, 0 < k → σ.cnt k ≤ c → (c :: k :: p) <:+ id → G.loc id = none ∧ G.tl id = none
  hid : ∃ h, ∀ c id, h ≤ c → (c :: 0 :: p) <:+ id → G.loc id = none ∧ G.tl id = none

theorem Rel.eval {N : Nat} {p : Path} {ds : List Deferred} {G : Ghost} {σ : St} {a : Act} {w : World} (h : Rel N p ds G σ a w) (x : Operand) : Rep G (a.eval x) (σ.ev x) := by
  cases x with
  | tmp t =>
    show Rep G (a.tmps.getD t undef) (σ.get t)
    by_cases ht : t < a.tmps.size
    · simp only [Array.getD_eq_getD_getElem?]
      rw [show a.tmps[t]? = some a.tmps[t] by simp [ht]]
      exact h.tm t _ (by simp [ht])
    · have ht2 : a.tmps.size ≤ t := Nat.le_of_not_lt ht
      rw [h.rng t (by rw [← h.n]; exact ht2)]
      simp only [Array.getD_eq_getD_getElem?]
      rw [Array.getElem?_eq_none ht2]
      exact rep_tup (.nil G)
  | const c => exact rep_ofVal G c
  | global g => exact .junk _
  | func f => exact rep_fn (.nil G)
theorem Rel.put {N : Nat} {p : Path} {ds : List Deferred} {G : Ghost} {σ : St} {a : Act} {w : World} (h : Rel N p ds G σ a w) {v : Value} {x : V} (hv : Rep G v x) (d : Option Nat) : Rel N p ds G (σ.put N d x) (a.put d v) w := by
  cases d with
  | none => exact h
  | some d =>
    by_cases hd : d < N
    · simp only [St.put, hd, if_true]
      refine ⟨by simp [Act.put, h.n], fun t u hu => ?_, fun t ht => ?_, h.df, h.sim, h.fr, h.hid⟩
      · simp only [Act.put, Array.getElem?_setIfInBounds] at hu
        by_cases e : t = d
        · subst e; simp [h.n, hd] at hu; subst hu; simpa using hv
        · rw [if_neg (fun e' => e e'.symm)] at hu; simp [e]; exact h.tm t u hu
      · have : ¬ t = d := by omega
        simp [this]; exact h.rng t ht
    · simp only [St.put, hd, if_false]
      have : a.put (some d) v = a := by
        simp only [Act.put]
        rw [Array.setIfInBounds_eq_of_size_le (by rw [h.n]; omega)]
      rw [this]; exact h
theorem suffix_eq {α : Type} {a b c : List α} (h1 : a <:+ c) (h2 : b <:+ c) (h : a.length = b.length) : a = b := by
  have := List.suffix_of_suffix_length_le h1 h2 (by omega)
  exact this.eq_of_length h
/-- Behind what has run in a new frame or made a new box. -/
theorem Rel.next {N : Nat} {p : Path} {ds : List Deferred} {G : Ghost} {σ : St} {a : Act} {w : World} (h : Rel N p ds G σ a w) (d : Option Nat) {G' : Ghost} {M' : Mem} {K' : Toks} {w' : World}
    (tr : Tr (nid σ.cnt p d) G σ.M σ.K w G' M' K' w') (hs : Sim G' M' K' w') : Rel N p ds G' { σ with M := M', K := K', cnt := bump σ.cnt d } a w' := by
  refine ⟨h.n, fun t v hv => (h.tm t v hv).mono tr.le, h.rng, h.df, hs, fun k c id hk hc hid => ?_, ?_⟩
  · have hns : ¬ nid σ.cnt p d <:+ id := fun hq => by
      have := suffix_eq hid hq (by simp [nid])
      simp only [nid, List.cons.injEq] at this
      obtain ⟨e1, e2, _⟩ := this
      simp only [bump] at hc
      rw [if_pos e2] at hc
      subst e2; omega
    rw [(tr.fr id hns).1, (tr.fr id hns).2]
    refine h.fr k c id hk ?_ hid
    simp only [bump] at hc
    split at hc <;> omega
  · obtain ⟨b, hb⟩ := h.hid
    refine ⟨b, fun c id hc hid => ?_⟩
    have hns : ¬ nid σ.cnt p d <:+ id := fun hq => by
      have := suffix_eq hid hq (by simp [nid])
      simp only [nid, List.cons.injEq] at this
      obtain ⟨_, e2, _⟩ := this
      cases d <;> simp [key] at e2
    rw [(tr.fr id hns).1, (tr.fr id hns).2]
    exact hb c id hc hid
/-- Behind what has run in a hidden frame. -/
theorem Rel.nexth {N : Nat} {p : Path} {ds : List Deferred} {G : Ghost} {σ : St} {a : Act} {w : World} (h : Rel N p ds G σ a w) {b : Nat} (hb : ∀ c id, b ≤ c → (c :: 0 :: p) <:+ id → G.loc id = none ∧ G.tl id = none) {G' : Ghost} {M' : Mem} {K' : Toks} {w' : World}
    (tr : Tr (b :: 0 :: p) G σ.M σ.K w G' M' K' w') (hs : Sim G' M' K' w') : Rel N p ds G' { σ with M := M', K := K' } a w' := by
  refine ⟨h.n, fun t v hv => (h.tm t v hv).mono tr.le, h.rng, h.df, hs, fun k c id hk hc hid => ?_, b + 1, fun c id hc hid => ?_⟩
  · have hns : ¬ (b :: 0 :: p) <:+ id := fun hq => by
      have := suffix_eq hid hq (by simp)
      simp only [List.cons.injEq] at this
      omega
    rw [(tr.fr id hns).1, (tr.fr id hns).2]
    exact h.fr k c id hk hc hid
  · have hns : ¬ (b :: 0 :: p) <:+ id := fun hq => by
      have := suffix_eq hid hq (by simp)
      simp only [List.cons.injEq] at this
      omega
    rw [(tr.fr id hns).1, (tr.fr id hns).2]
    exact hb c id (by omega) hid
/-- Behind what has made no box. -/
theorem Rel.same {N : Nat} {p : Path} {ds : List Deferred} {G : Ghost} {σ : St} {a : Act} {w : World} (h : Rel N p ds G σ a w) {G' : Ghost} {M' : Mem} {w' : World} (hle : G.le G') (hl : G'.loc = G.loc) (ht : G'.tl = G.tl)
    (hs : Sim G' M' σ.K w') : Rel N p ds G' { σ with M := M' } a w' :=
  ⟨h.n, fun t v hv => (h.tm t v hv).mono hle, h.rng, h.df, hs, fun k c id hk hc hid => by rw [hl, ht]; exact h.fr k c id hk hc hid, by rw [hl, ht]; exact h.hid⟩
theorem Rel.pre_suffix (cnt : Nat → Nat) (p : Path) (d : Option Nat) : p <:+ nid cnt p d := ⟨[cnt (key d), key d], rfl⟩
theorem Rel.hid_suffix (b : Nat) (p : Path) : p <:+ (b :: 0 :: p) := ⟨[b, 0], rfl⟩
theorem Rel.fresh {N : Nat} {p : Path} {ds : List Deferred} {G : Ghost} {σ : St} {a : Act} {w : World} (h : Rel N p ds G σ a w) (d : Option Nat) : ∀ id, nid σ.cnt p d <:+ id → G.loc id = none ∧ G.tl id = none :=
  fun id hid => h.fr (key d) (σ.cnt (key d)) id (by cases d <;> simp [key]) (Nat.le_refl _) hid

/-! ### Contracts -/
def Callable (P : Program) (f : FuncId) : Prop := ∃ fn, P.funcs[f]? = some fn ∧ (fn.name == "runtime.NumGoroutine") = false ∧ fn.body.isNone = false
def Fresh (q : Path) (G : Ghost) : Prop := ∀ id, q <:+ id → G.loc id = none ∧ G.tl id = none
def Ctr (P : Program) (f : FuncId) (q : Path) (args : List V) (M : Mem) (K : Toks) (Q : V → Mem → Toks → Prop) : Prop :=
  ∀ G w argsC, Sim G M K w → Fresh q G → RepL G argsC args → Calls P f argsC.toArray w fun e w' =>
    ∃ G' M' K' v x, e = .returned v ∧ Rep G' v x ∧ Sim G' M' K' w' ∧ Tr q G M K w G' M' K' w' ∧ Q x M' K'
structure EnvOk (P : Program) (E : Env) : Prop where
  eq : EqOk P E.eq
  pf : ∀ f args r, E.own f = false → E.mem f = false → E.pf f args = some r → Callable P f ∧ ∀ q M K, Ctr P f q args M K fun x M' K' => x = r ∧ M' = M ∧ K' = K
  po : ∀ f args s els, E.own f = true → E.po f args = some (s, els) → Callable P f ∧ ∀ q M K, Ctr P f q args M K fun x M' K' => M' = M ∧ ∃ t, x = .sl els (.own t s) ∧ q <:+ t ∧ K' = upd K t true
  mf : ∀ f q args M K x M' K', E.own f = false → E.mem f = true → E.mf f q args M K = some (x, M', K') → Callable P f ∧ (∀ id, ¬ q <:+ id → M id = none → M' id = none) ∧ Ctr P f q args M K fun y M1 K1 => y = x ∧ M1 = M' ∧ K1 = K'

theorem repL_eval {N : Nat} {p : Path} {ds : List Deferred} {G : Ghost} {σ : St} {a : Act} {w : World} (h : Rel N p ds G σ a w) (l : List Operand) : RepL G (l.map a.eval) (l.map σ.ev) :=
  ⟨by simp, fun i v c hv hc => by
    rw [List.getElem?_map] at hv hc
    obtain ⟨x, hx, rfl⟩ := Option.map_eq_some_iff.1 hv
    rw [hx] at hc; simp at hc; subst hc
    exact h.eval x⟩
theorem repL_erase {G : Ghost} {a : List Value} {c : List V} (h : RepL G a c) : RepL G a (c.map V.erase) :=
  ⟨by simp [h.1], fun i v x hv hx => by
    rw [List.getElem?_map] at hx
    obtain ⟨y, hy, rfl⟩ := Option.map_eq_some_iff.1 hx
    exact rep_erase (h.2 i v y hv hy)⟩
theorem run_callFunc {P : Program} {f : FuncId} (h : Callable P f) (args : Array Value) (w : World) : (callFunc f args).run P w = .ok (.enter f args) w := by
  obtain ⟨fn, h1, h2, h3⟩ := h
  simp only [callFunc, Sem.run_bind, run_program, Result.andThen_ok, h1, h2, h3]
  rfl

end Go.Proofs.Ytiippmhlkcbjmaa.Ax
