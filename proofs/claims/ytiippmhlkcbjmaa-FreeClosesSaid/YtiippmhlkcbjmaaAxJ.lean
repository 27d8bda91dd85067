/- Abstract execution, part J: regions in whatever order. -/
import Derived.Test.YtiippmhlkcbjmaaAxI
set_option linter.unusedVariables false
set_option linter.unusedSimpArgs false
namespace Go.Proofs.Ytiippmhlkcbjmaa.Ax
open Go

section
variable {P : Program} {E : Env} {N : Nat} {p : Path} {ds : List Deferred} {G : Ghost} {σ : St} {a : Act} {w : World}

def putG (N : Nat) (get : Nat → V) (d : Option Nat) (v : V) : Nat → V := match d with
  | none => get
  | some d => if d < N then fun t => if t = d then v else get t else get
theorem coreSt_eq (N : Nat) (d : Option Nat) (get : Nat → V) (c : Core) : coreSt N d get c = { get := putG N get d c.v, M := c.M, K := c.K, cnt := c.cnt } := by
  unfold coreSt St.put putG
  cases d with
  | none => rfl
  | some d => simp only; split <;> rfl
theorem putG_other {N : Nat} {get : Nat → V} {d : Option Nat} {v : V} {t : Nat} (h : d ≠ some t) : putG N get d v t = get t := by
  unfold putG
  cases d with
  | none => rfl
  | some d =>
    simp only
    split
    · simp only; rw [if_neg (fun e => h (by rw [e]))]
    · rfl
theorem putG_comm (N : Nat) (get : Nat → V) {d e : Option Nat} (v u : V) (h : ∀ x, d = some x → e ≠ some x) : putG N (putG N get d v) e u = putG N (putG N get e u) d v := by
  cases d with
  | none => rfl
  | some d =>
    cases e with
    | none => rfl
    | some e =>
      have hne : e ≠ d := fun e' => h d rfl (by rw [e'])
      funext t
      simp only [putG]
      by_cases h1 : d < N <;> by_cases h2 : e < N <;> simp only [h1, h2, if_true, if_false]
      by_cases h3 : t = e <;> by_cases h4 : t = d <;> simp [h3, h4]
      · subst h3; subst h4; exact absurd rfl hne
      · subst h3; intro e2; exact absurd e2 hne
      · subst h4; intro e2; exact absurd e2.symm hne

/-! ### What an operation looks at -/
theorem opCore_congr {ρ ρ' : Operand → V} (M : Mem) (K : Toks) (cnt : Nat → Nat) (d : Option Nat) (op : Op) (h : ∀ x ∈ op.operands, ρ x = ρ' x) : opCore P E p ρ M K cnt d op = opCore P E p ρ' M K cnt d op := by
  have pairs : ∀ ps : Array (Nat × Operand), (∀ x ∈ (ps.toList.map (·.2)).toArray, ρ x = ρ' x) → ∀ y ∈ ps.toList, ρ y.2 = ρ' y.2 := fun ps hp y hy => hp _ (by simp; exact ⟨y.1, by simpa using hy⟩)
  cases op with
  | move x => simp only [opCore, rop, h x (by simp [Op.operands])]
  | assign x => simp only [opCore, rop, h x (by simp [Op.operands])]
  | pick c x y => simp only [opCore, rop, h c (by simp [Op.operands]), h x (by simp [Op.operands]), h y (by simp [Op.operands])]
  | alloc t => rfl
  | box t x => simp only [opCore, h x (by simp [Op.operands])]
  | build t ps =>
    have := pairs ps (by simpa [Op.operands] using h)
    simp only [opCore, rop]
    rw [List.map_congr_left (g := fun x => (x.1, ρ' x.2)) fun y hy => by rw [this y hy]]
  | buildSlice t n ps =>
    have := pairs ps (by simpa [Op.operands] using h)
    simp only [opCore]
    rw [List.map_congr_left (g := fun x => (ρ' x.2).cells.map V.er) fun y hy => by rw [this y hy]]
    have e : ∀ e : TypeId, (ps.toList.all fun x => !(ρ x.2).isJunk && (ρ x.2).cells.length == P.cellsOf e) = (ps.toList.all fun x => !(ρ' x.2).isJunk && (ρ' x.2).cells.length == P.cellsOf e) := fun e => by
      rw [Bool.eq_iff_iff, List.all_eq_true, List.all_eq_true]
      exact ⟨fun hh y hy => by rw [← this y hy]; exact hh y hy, fun hh y hy => by rw [this y hy]; exact hh y hy⟩
    simp only [e]
  | load t x => simp only [opCore, rop, h x (by simp [Op.operands])]
  | store t x y => simp only [opCore, h x (by simp [Op.operands]), h y (by simp [Op.operands])]
  | nilCheck x => simp only [opCore, rop, h x (by simp [Op.operands])]
  | binOp op t x y yt => simp only [opCore, rop, h x (by simp [Op.operands]), h y (by simp [Op.operands])]
  | unOp op t x => simp only [opCore, rop, h x (by simp [Op.operands])]
  | convert s d x => simp only [opCore, rop, h x (by simp [Op.operands])]
  | makeInterface t x => simp only [opCore, rop, h x (by simp [Op.operands])]
  | makeFunc fn first caps =>
    cases fn <;> simp only [opCore, rop]
    rw [List.map_congr_left fun y hy => h y (by simp [Op.operands]; exact .inr (by simpa using hy))]
  | makeSlice t x y => simp only [opCore, h x (by simp [Op.operands]), h y (by simp [Op.operands])]
  | slice t x lo hi mx =>
    cases mx with
    | some m => rfl
    | none =>
      simp only [opCore, rop, h x (by simp [Op.operands])]
      cases lo <;> cases hi <;> simp only [Option.map_none, Option.map_some] <;> (try rw [h _ (by simp [Op.operands]; exact .inr (.inl rfl))]) <;> (try rw [h _ (by simp [Op.operands])])
      all_goals (rename_i l r; rw [h r (by simp [Op.operands])])
  | fieldAddr s x f => simp only [opCore, rop, h x (by simp [Op.operands])]
  | field s x f => simp only [opCore, rop, h x (by simp [Op.operands])]
  | indexAddr t x y => simp only [opCore, rop, h x (by simp [Op.operands]), h y (by simp [Op.operands])]
  | index t x y => simp only [opCore, rop, h x (by simp [Op.operands]), h y (by simp [Op.operands])]
  | typeAssert x t u ok => simp only [opCore, rop, h x (by simp [Op.operands])]
  | extract x i => simp only [opCore, rop, h x (by simp [Op.operands])]
  | call c =>
    obtain ⟨callee, args, ts⟩ := c
    have ha : args.toList.map ρ = args.toList.map ρ' := List.map_congr_left fun y hy => h y (by simp [Op.operands, Call.operands]; exact .inr (by simpa using hy))
    cases callee with
    | value f => simp only [opCore, h f (by simp [Op.operands, Call.operands]), ha]
    | invoke r m => rfl
    | builtin b =>
      have hb : ∀ y ∈ args.toList, ρ y = ρ' y := fun y hy => h y (by simp [Op.operands, Call.operands]; simpa using hy)
      simp only [opCore]
      cases b <;> simp only [ha]
      split
      · rename_i s x hs
        rw [hb s (by rw [hs]; simp), hb x (by rw [hs]; simp)]
      · rfl
  | _ => rfl
theorem mem_looks {ops : Array Oper} {o : Oper} {t : Nat} (h : Operand.tmp t ∈ o.op.operands) : t ∈ o.looksAt ops := by
  unfold Oper.looksAt
  exact List.mem_append_left _ (List.mem_filterMap.2 ⟨.tmp t, by simpa using h, rfl⟩)
theorem gd_congr {ops : Array Oper} {o : Oper} {get get' : Nat → V} (h : ∀ t ∈ o.looksAt ops, get t = get' t) : gd ops o get = gd ops o get' := by
  unfold gd
  cases hg : o.guard with
  | none => rfl
  | some jw =>
    obtain ⟨j, want⟩ := jw
    simp only
    cases hd : (ops[j]?).bind (·.dst) with
    | none => rfl
    | some d =>
      have : get d = get' d := h d (by unfold Oper.looksAt; rw [hg]; simp [hd])
      simp only [this]
theorem gCore_congr {ops : Array Oper} {o : Oper} {get get' : Nat → V} (M : Mem) (K : Toks) (cnt : Nat → Nat) (h : ∀ t ∈ o.looksAt ops, get t = get' t) : gCore P E p ops o get M K cnt = gCore P E p ops o get' M K cnt := by
  unfold gCore
  rw [gd_congr h]
  split <;> try rfl
  refine opCore_congr M K cnt o.dst o.op fun x hx => ?_
  cases x with
  | tmp t => exact h t (mem_looks hx)
  | _ => rfl

/-! ### Kinds of operations -/
def cls (E : Env) (o : Oper) : Nat := match o.op with
  | .load _ a => if frozenA E a = true then 0 else 1
  | .alloc _ | .box .. | .makeSlice .. => 2
  | .store .. => 3
  | .call c => match c.callee with
    | .builtin b => if b = .append then 3 else 0
    | .value (.func g) => if E.own g = true then 2 else if E.mem g = true then 3 else 0
    | _ => 3
  | _ => 0
theorem cls0 {ops : Array Oper} {o : Oper} (h : cls E o = 0) (get : Nat → V) : ∃ pr v, ∀ M K cnt, gCore P E p ops o get M K cnt = ⟨pr, v, M, K, cnt⟩ := by
  unfold gCore
  cases gd ops o get with
  | none => exact ⟨False, .junk, fun _ _ _ => rfl⟩
  | some c =>
    cases c with
    | false => exact ⟨True, .tup [], fun _ _ _ => rfl⟩
    | true =>
      simp only
      unfold cls at h
      cases ho : o.op with
      | load t x =>
        rw [ho] at h
        simp only at h
        split at h
        · rename_i hf; exact ⟨(rLoadC P t (evG get x)).pre, (rLoadC P t (evG get x)).v, fun _ _ _ => by simp only [opCore, rop, hf, if_true]; rfl⟩
        · cases h
      | alloc => rw [ho] at h; simp at h
      | box => rw [ho] at h; simp at h
      | makeSlice => rw [ho] at h; simp at h
      | store => rw [ho] at h; simp at h
      | buildSlice t n ps =>
        simp only [opCore]
        split
        · exact ⟨_, _, fun _ _ _ => rfl⟩
        · exact ⟨False, .junk, fun _ _ _ => rfl⟩
      | call c =>
        obtain ⟨callee, args, ts⟩ := c
        rw [ho] at h
        simp only at h
        cases callee with
        | invoke r m => simp at h
        | builtin b =>
          simp only at h
          have hb : b ≠ .append := fun e => by simp [e] at h
          cases b <;> first | exact absurd rfl hb | exact ⟨_, _, fun _ _ _ => rfl⟩
        | value f =>
          cases f with
          | func g =>
            simp only at h
            split at h
            · cases h
            · rename_i h1
              split at h
              · cases h
              · rename_i h2
                simp only [opCore, evG, coreCall, h1, h2, if_false, Bool.false_eq_true]
                split
                · exact ⟨_, _, fun _ _ _ => rfl⟩
                · exact ⟨False, .junk, fun _ _ _ => rfl⟩
          | _ => simp at h
      | makeFunc fn f c => cases fn <;> exact ⟨_, _, fun _ _ _ => rfl⟩
      | slice t x lo hi mx =>
        cases mx with
        | none => exact ⟨(rSlice P t (evG get x) (lo.map (evG get)) (hi.map (evG get))).pre, (rSlice P t (evG get x) (lo.map (evG get)) (hi.map (evG get))).v, fun _ _ _ => rfl⟩
        | some m => exact ⟨False, .junk, fun _ _ _ => rfl⟩
      | _ => exact ⟨(rop P E (evG get) (fun _ => none) o.op).pre, (rop P E (evG get) (fun _ => none) o.op).v, fun M K cnt => by rw [ho]; rfl⟩
theorem cls1 {ops : Array Oper} {o : Oper} (h : cls E o = 1) (get : Nat → V) : (∃ pr v, ∀ M K cnt, gCore P E p ops o get M K cnt = ⟨pr, v, M, K, cnt⟩) ∨ ∃ t x, ∀ M K cnt, gCore P E p ops o get M K cnt = ⟨(rLoad P M t x).pre, (rLoad P M t x).v, M, K, cnt⟩ := by
  unfold gCore
  cases gd ops o get with
  | none => exact .inl ⟨False, .junk, fun _ _ _ => rfl⟩
  | some c =>
    cases c with
    | false => exact .inl ⟨True, .tup [], fun _ _ _ => rfl⟩
    | true =>
      simp only
      unfold cls at h
      cases ho : o.op with
      | load t x =>
        rw [ho] at h
        simp only at h
        split at h
        · cases h
        · rename_i hf; exact .inr ⟨t, evG get x, fun _ _ _ => by simp only [opCore, rop, hf, if_false, Bool.false_eq_true]; rfl⟩
      | call c =>
        obtain ⟨callee, args, ts⟩ := c
        rw [ho] at h
        simp only at h
        cases callee with
        | invoke r m => simp at h
        | builtin b => simp only at h; split at h <;> simp at h
        | value f =>
          cases f with
          | func g => simp only at h; split at h <;> first | (simp at h; done) | (split at h <;> simp at h)
          | _ => simp at h
      | _ => rw [ho] at h; simp at h
theorem cls2 {ops : Array Oper} {o : Oper} (h : cls E o = 2) (get : Nat → V) : (∃ pr v, ∀ M K cnt, gCore P E p ops o get M K cnt = ⟨pr, v, M, K, cnt⟩) ∨ ∃ pr vf b ow, ∀ M K cnt, gCore P E p ops o get M K cnt = coreNew p pr o.dst vf b ow M K cnt := by
  unfold gCore
  cases gd ops o get with
  | none => exact .inl ⟨False, .junk, fun _ _ _ => rfl⟩
  | some c =>
    cases c with
    | false => exact .inl ⟨True, .tup [], fun _ _ _ => rfl⟩
    | true =>
      simp only
      unfold cls at h
      cases ho : o.op with
      | alloc t =>
        simp only [opCore]
        split
        · exact .inr ⟨_, _, _, _, fun _ _ _ => rfl⟩
        · exact .inl ⟨False, .junk, fun _ _ _ => rfl⟩
      | box t x => exact .inr ⟨(evG get x).isJunk = false, fun id => .ptr id 0, some (.cells (evG get x).cells), false, fun _ _ _ => rfl⟩
      | makeSlice t x y =>
        simp only [opCore, coreMake]
        split
        · split
          · split
            · exact .inr ⟨_, _, _, _, fun _ _ _ => rfl⟩
            · exact .inr ⟨_, _, _, _, fun _ _ _ => rfl⟩
          · exact .inl ⟨False, .junk, fun _ _ _ => rfl⟩
        · exact .inl ⟨False, .junk, fun _ _ _ => rfl⟩
      | call c =>
        obtain ⟨callee, args, ts⟩ := c
        rw [ho] at h
        simp only at h
        cases callee with
        | invoke r m => simp at h
        | builtin b => simp only at h; split at h <;> simp at h
        | value f =>
          cases f with
          | func g =>
            simp only at h
            split at h
            · rename_i h1
              simp only [opCore, evG, coreCall, h1, if_true]
              split
              · exact .inr ⟨_, _, _, _, fun _ _ _ => rfl⟩
              · exact .inl ⟨False, .junk, fun _ _ _ => rfl⟩
            · split at h <;> simp at h
          | _ => simp at h
      | load t x => rw [ho] at h; simp only at h; split at h <;> cases h
      | _ => rw [ho] at h; simp at h

/-- No box where the next ones will be. -/
def WF (p : Path) (M : Mem) (cnt : Nat → Nat) : Prop := ∀ k c id, 0 < k → cnt k ≤ c → (c :: k :: p) <:+ id → M id = none
theorem WF.atNid {M : Mem} {cnt : Nat → Nat} (h : WF p M cnt) (d : Option Nat) : M (nid cnt p d) = none := h (key d) _ _ (by cases d <;> simp [key]) (Nat.le_refl _) (List.suffix_refl _)
theorem Rel.wf (h : Rel N p ds G σ a w) : WF p σ.M σ.cnt := fun k c id hk hc hid => by
  cases hm : σ.M id with
  | none => rfl
  | some b => obtain ⟨b', hl, _⟩ := h.sim.box_lt (id := id) (by rw [hm]; simp); rw [(h.fr k c id hk hc hid).1] at hl; cases hl
theorem rLoad_upd {M : Mem} {id : Path} (hn : M id = none) (b : Option Box) {t : TypeId} {x : V} (hp : (rLoad P M t x).pre) : rLoad P (upd M id b) t x = rLoad P M t x := by
  unfold rLoad at hp ⊢
  cases x <;> first | exact hp.elim | rfl | skip
  rename_i q off
  have : q ≠ id := fun e => by subst e; simp only [hn] at hp; exact hp.elim
  simp only [upd_ne _ _ this]
theorem new_M {pr : Prop} {d : Option Nat} {vf : Path → V} {b : Option Box} {ow : Bool} (M : Mem) (K : Toks) (cnt : Nat → Nat) : (coreNew p pr d vf b ow M K cnt).M = M ∨ ∃ bb, (coreNew p pr d vf b ow M K cnt).M = upd M (nid cnt p d) bb := by
  unfold coreNew
  cases b with
  | none => exact .inl rfl
  | some b => exact .inr ⟨some b, rfl⟩
theorem upd_comm {α : Type} (f : Path → α) {q r : Path} (x y : α) (h : q ≠ r) : upd (upd f q x) r y = upd (upd f r y) q x := by
  funext t
  simp only [upd]
  by_cases h1 : t = r <;> by_cases h2 : t = q <;> simp [h1, h2]
  · subst h1; subst h2; exact absurd rfl h
  · subst h1; intro e; exact absurd e.symm h
  · subst h2; intro e; exact absurd e h
theorem key_inj {d e : Option Nat} (h : key d = key e) : d = e := by cases d <;> cases e <;> simp [key] at h <;> simp [h]
theorem nid_bump {cnt : Nat → Nat} {d e : Option Nat} (h : d ≠ e) : nid (bump cnt e) p d = nid cnt p d := by
  unfold nid bump; rw [if_neg (fun h' => h (key_inj h'))]
theorem nid_ne {cnt cnt' : Nat → Nat} {d e : Option Nat} (h : d ≠ e) : nid cnt p d ≠ nid cnt' p e := fun h' => by
  simp only [Ax.nid, List.cons.injEq] at h'; exact h (key_inj h'.2.1)
theorem bump_comm (cnt : Nat → Nat) {d e : Option Nat} (h : d ≠ e) : bump (bump cnt d) e = bump (bump cnt e) d := by
  funext k
  have hk : key d ≠ key e := fun h' => h (key_inj h')
  simp only [bump]
  by_cases h1 : k = key e <;> by_cases h2 : k = key d <;> simp [h1, h2, hk, hk.symm]
theorem new_new {pr pr' : Prop} {d e : Option Nat} {vf vf' : Path → V} {b b' : Option Box} {ow ow' : Bool} (h : d ≠ e) (M : Mem) (K : Toks) (cnt : Nat → Nat) {X Y XY YX : Core}
    (hX : X = coreNew p pr d vf b ow M K cnt) (hY : Y = coreNew p pr' e vf' b' ow' M K cnt) (hXY : XY = coreNew p pr' e vf' b' ow' X.M X.K X.cnt) (hYX : YX = coreNew p pr d vf b ow Y.M Y.K Y.cnt) :
    XY.v = Y.v ∧ YX.v = X.v ∧ XY.M = YX.M ∧ XY.K = YX.K ∧ XY.cnt = YX.cnt := by
  subst hX; subst hY; subst hXY; subst hYX
  have e1 := nid_bump (p := p) (cnt := cnt) h
  have e2 := nid_bump (p := p) (cnt := cnt) (Ne.symm h)
  have hne : Ax.nid cnt p d ≠ Ax.nid cnt p e := nid_ne h
  refine ⟨by simp only [coreNew, e2], by simp only [coreNew, e1], ?_, ?_, bump_comm cnt h⟩
  · simp only [coreNew, e1, e2]
    cases b <;> cases b' <;> simp only
    exact upd_comm M _ _ hne
  · simp only [coreNew, e1, e2]
    cases ow <;> cases ow' <;> simp
    exact upd_comm K _ _ hne

/-! ### Two operations that may change places -/
def compat (E : Env) (ops : Array Oper) (x y : Oper) : Bool :=
  Oper.apart ops x y && (cls E x == 0 || cls E y == 0 || (cls E x == 1 && cls E y == 1) || (cls E x == 1 && cls E y == 2) || (cls E x == 2 && cls E y == 2 && x.dst != y.dst))
def stepC (P : Program) (E : Env) (N : Nat) (p : Path) (ops : Array Oper) (o : Oper) (σ : St) : Core := gCore P E p ops o σ.get σ.M σ.K σ.cnt
theorem gStep_st (ops : Array Oper) (o : Oper) (σ : St) : (gStep P E N p ops o σ).st = { get := putG N σ.get o.dst (stepC P E N p ops o σ).v, M := (stepC P E N p ops o σ).M, K := (stepC P E N p ops o σ).K, cnt := (stepC P E N p ops o σ).cnt } := coreSt_eq _ _ _ _
theorem gStep_pre (ops : Array Oper) (o : Oper) (σ : St) : (gStep P E N p ops o σ).pre = (stepC P E N p ops o σ).pre := rfl
theorem comm {ops : Array Oper} {x y : Oper} (hc : compat E ops x y = true) (hw : WF p σ.M σ.cnt) (h1 : (gStep P E N p ops x σ).pre) (h2 : (gStep P E N p ops y (gStep P E N p ops x σ).st).pre) :
    (gStep P E N p ops y σ).pre ∧ (gStep P E N p ops x (gStep P E N p ops y σ).st).pre ∧ (gStep P E N p ops x (gStep P E N p ops y σ).st).st = (gStep P E N p ops y (gStep P E N p ops x σ).st).st := by
  simp only [compat, Bool.and_eq_true] at hc
  obtain ⟨hap, hcl⟩ := hc
  obtain ⟨a1, a2, a3⟩ := Oper.apart_spec hap
  -- each at the other's state
  have ey : ∀ v M K cnt, gCore P E p ops y (putG N σ.get x.dst v) M K cnt = gCore P E p ops y σ.get M K cnt := fun v M K cnt => gCore_congr M K cnt fun t ht => putG_other fun e => a1 t e ht
  have ex : ∀ v M K cnt, gCore P E p ops x (putG N σ.get y.dst v) M K cnt = gCore P E p ops x σ.get M K cnt := fun v M K cnt => gCore_congr M K cnt fun t ht => putG_other fun e => a3 t e ht
  have hput : ∀ v u, putG N (putG N σ.get y.dst v) x.dst u = putG N (putG N σ.get x.dst u) y.dst v := fun v u => (putG_comm N σ.get u v a2).symm
  simp only [gStep_pre, gStep_st, stepC] at h1 h2 ⊢
  rw [ey] at h2 ⊢
  rw [ex]
  generalize hX : gCore P E p ops x σ.get σ.M σ.K σ.cnt = X at *
  generalize hY : gCore P E p ops y σ.get σ.M σ.K σ.cnt = Y at *
  generalize hXY : gCore P E p ops y σ.get X.M X.K X.cnt = XY at *
  generalize hYX : gCore P E p ops x σ.get Y.M Y.K Y.cnt = YX at *
  suffices hs : Y.pre ∧ YX.pre ∧ YX.v = X.v ∧ XY.v = Y.v ∧ YX.M = XY.M ∧ YX.K = XY.K ∧ YX.cnt = XY.cnt by
    obtain ⟨s1, s2, s3, s4, s5, s6, s7⟩ := hs
    exact ⟨s1, s2, by rw [hput, s3, s4, s5, s6, s7]⟩
  have first : (∃ pr v, ∀ M K cnt, gCore P E p ops x σ.get M K cnt = ⟨pr, v, M, K, cnt⟩) → Y.pre ∧ YX.pre ∧ YX.v = X.v ∧ XY.v = Y.v ∧ YX.M = XY.M ∧ YX.K = XY.K ∧ YX.cnt = XY.cnt := by
    rintro ⟨pr, v, hh⟩
    have e1 : X = ⟨pr, v, σ.M, σ.K, σ.cnt⟩ := by rw [← hX, hh]
    subst e1
    have e2 : XY = Y := by rw [← hXY, ← hY]
    subst e2
    have e3 : YX = ⟨pr, v, XY.M, XY.K, XY.cnt⟩ := by rw [← hYX, hh]
    subst e3
    exact ⟨h2, h1, rfl, rfl, rfl, rfl, rfl⟩
  have second : (∃ pr v, ∀ M K cnt, gCore P E p ops y σ.get M K cnt = ⟨pr, v, M, K, cnt⟩) → Y.pre ∧ YX.pre ∧ YX.v = X.v ∧ XY.v = Y.v ∧ YX.M = XY.M ∧ YX.K = XY.K ∧ YX.cnt = XY.cnt := by
    rintro ⟨pr, v, hh⟩
    have e1 : Y = ⟨pr, v, σ.M, σ.K, σ.cnt⟩ := by rw [← hY, hh]
    subst e1
    have e2 : YX = X := by rw [← hYX, ← hX]
    subst e2
    have e3 : XY = ⟨pr, v, YX.M, YX.K, YX.cnt⟩ := by rw [← hXY, hh]
    subst e3
    exact ⟨h2, h1, rfl, rfl, rfl, rfl, rfl⟩
  simp only [Bool.or_eq_true, Bool.and_eq_true, beq_iff_eq, bne_iff_ne, ne_eq] at hcl
  rcases hcl with (((h | h) | h) | h) | h
  · exact first (cls0 h σ.get)
  · exact second (cls0 h σ.get)
  · rcases cls1 (P := P) (p := p) (ops := ops) h.1 σ.get with hx | ⟨t, u, hx⟩
    · exact first hx
    · have e1 : X = ⟨(rLoad P σ.M t u).pre, (rLoad P σ.M t u).v, σ.M, σ.K, σ.cnt⟩ := by rw [← hX, hx]
      rcases cls1 (P := P) (p := p) (ops := ops) h.2 σ.get with hy | ⟨t', u', hy⟩
      · exact second hy
      · have e2 : Y = ⟨(rLoad P σ.M t' u').pre, (rLoad P σ.M t' u').v, σ.M, σ.K, σ.cnt⟩ := by rw [← hY, hy]
        subst e1; subst e2
        have e3 : XY = ⟨(rLoad P σ.M t' u').pre, (rLoad P σ.M t' u').v, σ.M, σ.K, σ.cnt⟩ := by rw [← hXY, hy]
        have e4 : YX = ⟨(rLoad P σ.M t u).pre, (rLoad P σ.M t u).v, σ.M, σ.K, σ.cnt⟩ := by rw [← hYX, hx]
        subst e3; subst e4
        exact ⟨h2, h1, rfl, rfl, rfl, rfl, rfl⟩
  · rcases cls1 (P := P) (p := p) (ops := ops) h.1 σ.get with hx | ⟨t, u, hx⟩
    · exact first hx
    · rcases cls2 (P := P) (p := p) (ops := ops) h.2 σ.get with hy | ⟨pr, vf, b, ow, hy⟩
      · exact second hy
      · have e1 : X = ⟨(rLoad P σ.M t u).pre, (rLoad P σ.M t u).v, σ.M, σ.K, σ.cnt⟩ := by rw [← hX, hx]
        subst e1
        have e2 : XY = Y := by rw [← hXY, ← hY]
        subst e2
        have e3 : YX = ⟨(rLoad P XY.M t u).pre, (rLoad P XY.M t u).v, XY.M, XY.K, XY.cnt⟩ := by rw [← hYX, hx]
        have hM : rLoad P XY.M t u = rLoad P σ.M t u := by
          have e4 : XY = coreNew p pr y.dst vf b ow σ.M σ.K σ.cnt := by rw [← hY, hy]
          rw [e4]
          rcases new_M (p := p) (pr := pr) (d := y.dst) (vf := vf) (b := b) (ow := ow) σ.M σ.K σ.cnt with e5 | ⟨bb, e5⟩
          · rw [e5]
          · rw [e5]; exact rLoad_upd (hw.atNid y.dst) bb h1
        rw [hM] at e3
        subst e3
        exact ⟨h2, h1, rfl, rfl, rfl, rfl, rfl⟩
  · rcases cls2 (P := P) (p := p) (ops := ops) h.1.1 σ.get with hx | ⟨pr, vf, b, ow, hx⟩
    · exact first hx
    · rcases cls2 (P := P) (p := p) (ops := ops) h.1.2 σ.get with hy | ⟨pr', vf', b', ow', hy⟩
      · exact second hy
      · have e1 : X = coreNew p pr x.dst vf b ow σ.M σ.K σ.cnt := by rw [← hX, hx]
        have e2 : Y = coreNew p pr' y.dst vf' b' ow' σ.M σ.K σ.cnt := by rw [← hY, hy]
        have e3 : XY = coreNew p pr' y.dst vf' b' ow' X.M X.K X.cnt := by rw [← hXY, hy]
        have e4 : YX = coreNew p pr x.dst vf b ow Y.M Y.K Y.cnt := by rw [← hYX, hx]
        obtain ⟨n1, n2, n3, n4, n5⟩ := new_new h.2 σ.M σ.K σ.cnt e1 e2 e3 e4
        have p1 : X.pre = pr := by rw [e1]; rfl
        have p2 : XY.pre = pr' := by rw [e3]; rfl
        refine ⟨by rw [e2]; show pr'; rw [← p2]; exact h2, by rw [e4]; show pr; rw [← p1]; exact h1, n2, n1, n3.symm, n4.symm, n5.symm⟩

end
end Go.Proofs.Ytiippmhlkcbjmaa.Ax
