/- Abstract execution, part J: regions in whatever order. -/
import Derived.Test.YtaacfmakfkaddaaDoorAxI
set_option linter.unusedVariables false
set_option linter.unusedSimpArgs false
namespace Go.Proofs.YtaacfmakfkaddaaDoor.Ax
section
open Go

section
variable {P : Program} {E : Env} {N : Nat} {p : Path} {ds : List Deferred} {G : Ghost} {σ : St} {a : Act} {w : World}

def putG (N : Nat) (get : Nat → V) (d : Option Nat) (v : V) : Nat → V := match d with
  | none => get
  | some d => if d < N then fun t => if t = d then v else get t else get
theorem coreSt_eq (N : Nat) (d : Option Nat) (get : Nat → V) (c : Core) : coreSt N d get c = { get := putG N get d c.v, M := c.M, K := c.K, cnt := c.cnt } := by
  unfold coreSt St.put putG
  cases d with
  | none => rfl
  | some d => simp only; split <;> rfl
theorem putG_other {N : Nat} {get : Nat → V} {d : Option Nat} {v : V} {t : Nat} (h : d ≠ some t) : putG N get d v t = get t := by
  unfold putG
  cases d with
  | none => rfl
  | some d =>
    simp only
    split
    · simp only; rw [if_neg (fun e => h (by rw [e]))]
    · rfl
theorem putG_comm (N : Nat) (get : Nat → V) {d e : Option Nat} (v u : V) (h : ∀ x, d = some x → e ≠ some x) : putG N (putG N get d v) e u = putG N (putG N get e u) d v := by
  cases d with
  | none => rfl
  | some d =>
    cases e with
    | none => rfl
    | some e =>
      have hne : e ≠ d := fun e' => h d rfl (by rw [e'])
      funext t
      simp only [putG]
      by_cases h1 : d < N <;> by_cases h2 : e < N <;> simp only [h1, h2, if_true, if_false]
      by_cases h3 : t = e <;> by_cases h4 : t = d <;> simp [h3, h4]
      · subst h3; subst h4; exact absurd rfl hne
      · subst h3; intro e2; exact absurd e2 hne
      · subst h4; intro e2; exact absurd e2.symm hne

/-! ### What an operation looks at -/
theorem opCore_congr {ρ ρ' : Operand → V} (M : Mem) (K : Toks) (cnt : Nat → Nat) (d : Option Nat) (op : Op) (h : ∀ x ∈ op.operands, ρ x = ρ' x) : opCore P E p ρ M K cnt d op = opCore P E p ρ' M K cnt d op := by
  have pairs : ∀ ps : Array (Nat × Operand), (∀ x ∈ (ps.toList.map (·.2)).toArray, ρ x = ρ' x) → ∀ y ∈ ps.toList, ρ y.2 = ρ' y.2 := fun ps hp y hy => hp _ (by simp; exact ⟨y.1, by simpa using hy⟩)
  cases op with
  | move x => simp only [opCore, rop, h x (by simp [Op.operands])]
  | assign x => simp only [opCore, rop, h x (by simp [Op.operands])]
  | pick c x y => simp only [opCore, rop, h c (by simp [Op.operands]), h x (by simp [Op.operands]), h y (by simp [Op.operands])]
  | alloc t => rfl
  | box t x => simp only [opCore, h x (by simp [Op.operands])]
  | build t ps =>
    have := pairs ps (by simpa [Op.operands] using h)
    simp only [opCore, rop]
    rw [List.map_congr_left (g := fun x => (x.1, ρ' x.2)) fun y hy => by rw [this y hy]]
  | buildSlice t n ps =>
    have := pairs ps (by simpa [Op.operands] using h)
    simp only [opCore]
    rw [List.map_congr_left (g := fun x => (ρ' x.2).cells.map V.er) fun y hy => by rw [this y hy]]
    have e : ∀ e : TypeId, (ps.toList.all fun x => !(ρ x.2).isJunk && (ρ x.2).cells.length == P.cellsOf e) = (ps.toList.all fun x => !(ρ' x.2).isJunk && (ρ' x.2).cells.length == P.cellsOf e) := fun e => by
      rw [Bool.eq_iff_iff, List.all_eq_true, List.all_eq_true]
      exact ⟨fun hh y hy => by rw [← this y hy]; exact hh y hy, fun hh y hy => by rw [this y hy]; exact hh y hy⟩
    simp only [e]
  | load t x => simp only [opCore, rop, h x (by simp [Op.operands])]
  | store t x y => simp only [opCore, h x (by simp [Op.operands]), h y (by simp [Op.operands])]
  | nilCheck x => simp only [opCore, rop, h x (by simp [Op.operands])]
  | binOp op t x y yt => simp only [opCore, rop, h x (by simp [Op.operands]), h y (by simp [Op.operands])]
  | unOp op t x => simp only [opCore, rop, h x (by simp [Op.operands])]
  | convert s d x => simp only [opCore, rop, h x (by simp [Op.operands])]
  | makeInterface t x => simp only [opCore, rop, h x (by simp [Op.operands])]
  | makeFunc fn first caps =>
    cases fn <;> simp only [opCore, rop]
    rw [List.map_congr_left fun y hy => h y (by simp [Op.operands]; exact .inr (by simpa using hy))]
  | makeSlice t x y => simp only [opCore, h x (by simp [Op.operands]), h y (by simp [Op.operands])]
  | slice t x lo hi mx =>
    cases mx with
    | some m => rfl
    | none =>
      simp only [opCore, rop, h x (by simp [Op.operands])]
      cases lo <;> cases hi <;> simp only [Option.map_none, Option.map_some] <;> (try rw [h _ (by simp [Op.operands]; exact .inr (.inl rfl))]) <;> (try rw [h _ (by simp [Op.operands])])
      all_goals (rename_i l r; rw [h r (by simp [Op.operands])])
  | fieldAddr s x f => simp only [opCore, rop, h x (by simp [Op.operands])]
  | field s x f => simp only [opCore, rop, h x (by simp [Op.operands])]
  | indexAddr t x y => simp only [opCore, rop, h x (by simp [Op.operands]), h y (by simp [Op.operands])]
  | index t x y => simp only [opCore, rop, h x (by simp [Op.operands]), h y (by simp [Op.operands])]
  | typeAssert x t u ok => simp only [opCore, rop, h x (by simp [Op.operands])]
  | extract x i => simp only [opCore, rop, h x (by simp [Op.operands])]
  | call c =>
    obtain ⟨callee, args, ts⟩ := c
    have ha : args.toList.map ρ = args.toList.map ρ' := List.map_congr_left fun y hy => h y (by simp [Op.operands, Call.operands]; exact .inr (by simpa using hy))
    cases callee with
    | value f => simp only [opCore, h f (by simp [Op.operands, Call.operands]), ha]
    | invoke r m => rfl
    | builtin b =>
      have hb : ∀ y ∈ args.toList, ρ y = ρ' y := fun y hy => h y (by simp [Op.operands, Call.operands]; simpa using hy)
      simp only [opCore]
      cases b <;> simp only [ha]
      split
      · rename_i s x hs
        rw [hb s (by rw [hs]; simp), hb x (by rw [hs]; simp)]
      · rfl
  | _ => rfl
theorem mem_looks {ops : Array Oper} {o : Oper} {t : Nat} (h : Operand.tmp t ∈ o.op.operands) : t ∈ o.looksAt ops := by
  unfold Oper.looksAt
  exact List.mem_append_left _ (List.mem_filterMap.2 ⟨.tmp t, by simpa using h, rfl⟩)
theorem gd_congr {ops : Array Oper} {o : Oper} {get get' : Nat → V} (h : ∀ t ∈ o.looksAt ops, get t = get' t) : gd ops o get = gd ops o get' := by
  unfold gd
  cases hg : o.guard with
  | none => rfl
  | some jw =>
    obtain ⟨j, want⟩ := jw
    simp only
    cases hd : (ops[j]?).bind (·.dst) with
    | none => rfl
    | some d =>
      have : get d = get' d := h d (by unfold Oper.looksAt; rw [hg]; simp [hd])
      simp only [this]
theorem gCore_congr {ops : Array Oper} {o : Oper} {get get' : Nat → V} (M : Mem) (K : Toks) (cnt : Nat → Nat) (h : ∀ t ∈ o.looksAt ops, get t = get' t) : gCore P E p ops o get M K cnt = gCore P E p ops o get' M K cnt := by
  unfold gCore
  rw [gd_congr h]
  split <;> try rfl
  refine opCore_congr M K cnt o.dst o.op fun x hx => ?_
  cases x with
  | tmp t => exact h t (mem_looks hx)
  | _ => rfl

/-! ### Kinds of operations -/
def cls (E : Env) (o : Oper) : Nat := match o.op with
  | .load _ a => if frozenA E a = true then 0 else 1
  | .alloc _ | .box .. | .makeSlice .. => 2
  | .store .. => 3
  | .call c => match c.callee with
    | .builtin b => if b = .append then 3 else 0
    | .value (.func g) => if E.own g = true then 2 else if E.mem g = true then 3 else 0
    | _ => 3
  | _ => 0
theorem cls0 {ops : Array Oper} {o : Oper} (h : cls E o = 0) (get : Nat → V) : ∃ pr v, ∀ M K cnt, gCore P E p ops o get M K cnt = ⟨pr, v, M, K, cnt⟩ := by
  unfold gCore
  cases gd ops o get with
  | none => exact ⟨False, .junk, fun _ _ _ => rfl⟩
  | some c =>
    cases c with
    | false => exact ⟨True, .tup [], fun _ _ _ => rfl⟩
    | true =>
      simp only
      unfold cls at h
      cases ho : o.op with
      | load t x =>
        rw [ho] at h
        simp only at h
        split at h
        · rename_i hf; exact ⟨(rLoadC P t (evG get x)).pre, (rLoadC P t (evG get x)).v, fun _ _ _ => by simp only [opCore, rop, hf, if_true]; rfl⟩
        · cases h
      | alloc => rw [ho] at h; simp at h
      | box => rw [ho] at h; simp at h
      | makeSlice => rw [ho] at h; simp at h
      | store => rw [ho] at h; simp at h
      | buildSlice t n ps =>
        simp only [opCore]
        split
        · exact ⟨_, _, fun _ _ _ => rfl⟩
        · exact ⟨False, .junk, fun _ _ _ => rfl⟩
      | call c =>
        obtain ⟨callee, args, ts⟩ := c
        rw [ho] at h
        simp only at h
        cases callee with
        | invoke r m => simp at h
        | builtin b =>
          simp only at h
          have hb : b ≠ .append := fun e => by simp [e] at h
          cases b <;> first | exact absurd rfl hb | exact ⟨_, _, fun _ _ _ => rfl⟩
        | value f =>
          cases f with
          | func g =>
            simp only at h
            split at h
            · cases h
            · rename_i h1
              split at h
              · cases h
              · rename_i h2
                simp only [opCore, evG, coreCall, h1, h2, if_false, Bool.false_eq_true]
                split
                · exact ⟨_, _, fun _ _ _ => rfl⟩
                · exact ⟨False, .junk, fun _ _ _ => rfl⟩
          | _ => simp at h
      | makeFunc fn f c => cases fn <;> exact ⟨_, _, fun _ _ _ => rfl⟩
      | slice t x lo hi mx =>
        cases mx with
        | none => exact ⟨(rSlice P t (evG get x) (lo.map (evG get)) (hi.map (evG get))).pre, (rSlice P t (evG get x) (lo.map (evG get)) (hi.map (evG get))).v, fun _ _ _ => rfl⟩
        | some m => exact ⟨False, .junk, fun _ _ _ => rfl⟩
      | _ => exact ⟨(rop P E (evG get) (fun _ => none) o.op).pre, (rop P E (evG get) (fun _ => none) o.op).v, fun M K cnt => by rw [ho]; rfl⟩
theorem cls1 {ops : Array Oper} {o : Oper} (h : cls E o = 1) (get : Nat → V) : (∃ pr v, ∀ M K cnt, gCore P E p ops o get M K cnt = ⟨pr, v, M, K, cnt⟩) ∨ ∃ t x, ∀ M K cnt, gCore P E p ops o get M K cnt = ⟨(rLoad P M t x).pre, (rLoad P M t x).v, M, K, cnt⟩ := by
  unfold gCore
  cases gd ops o get with
  | none => exact .inl ⟨False, .junk, fun _ _ _ => rfl⟩
  | some c =>
    cases c with
    | false => exact .inl ⟨True, .tup [], fun _ _ _ => rfl⟩
    | true =>
      simp only
      unfold cls at h
      cases ho : o.op with
      | load t x =>
        rw [ho] at h
        simp only at h
        split at h
        · cases h
        · rename_i hf; exact .inr ⟨t, evG get x, fun _ _ _ => by simp only [opCore, rop, hf, if_false, Bool.false_eq_true]; rfl⟩
      | call c =>
        obtain ⟨callee, args, ts⟩ := c
        rw [ho] at h
        simp only at h
        cases callee with
        | invoke r m => simp at h
        | builtin b => simp only at h; split at h <;> simp at h
        | value f =>
          cases f with
          | func g => simp only at h; split at h <;> first | (simp at h; done) | (split at h <;> simp at h)
          | _ => simp at h
      | _ => rw [ho] at h; simp at h
theorem cls2 {ops : Array Oper} {o : Oper} (h : cls E o = 2) (get : Nat → V) : (∃ pr v, ∀ M K cnt, gCore P E p ops o get M K cnt = ⟨pr, v, M, K, cnt⟩) ∨ ∃ pr vf b ow, ∀ M K cnt, gCore P E p ops o get M K cnt = coreNew p pr o.dst vf b ow M K cnt := by
  unfold gCore
  cases gd ops o get with
  | none => exact .inl ⟨False, .junk, fun _ _ _ => rfl⟩
  | some c =>
    cases c with
    | false => exact .inl ⟨True, .tup [], fun _ _ _ => rfl⟩
    | true =>
      simp only
      unfold cls at h
      cases ho : o.op with
      | alloc t =>
        simp only [opCore]
        split
        · exact .inr ⟨_, _, _, _, fun _ _ _ => rfl⟩
        · exact .inl ⟨False, .junk, fun _ _ _ => rfl⟩
      | box t x => exact .inr ⟨(evG get x).isJunk = false, fun id => .ptr id 0, some (.cells (evG get x).cells), false, fun _ _ _ => rfl⟩
      | makeSlice t x y =>
        simp only [opCore, coreMake]
        split
        · split
          · split
            · exact .inr ⟨_, _, _, _, fun _ _ _ => rfl⟩
            · exact .inr ⟨_, _, _, _, fun _ _ _ => rfl⟩
          · exact .inl ⟨False, .junk, fun _ _ _ => rfl⟩
        · exact .inl ⟨False, .junk, fun _ _ _ => rfl⟩
      | call c =>
        obtain ⟨callee, args, ts⟩ := c
        rw [ho] at h
        simp only at h
        cases callee with
        | invoke r m => simp at h
        | builtin b => simp only at h; split at h <;> simp at h
        | value f =>
          cases f with
          | func g =>
            simp only at h
            split at h
            · rename_i h1
              simp only [opCore, evG, coreCall, h1, if_true]
              split
              · exact .inr ⟨_, _, _, _, fun _ _ _ => rfl⟩
              · exact .inl ⟨False, .junk, fun _ _ _ => rfl⟩
            · split at h <;> simp at h
          | _ => simp at h
      | load t x => rw [ho] at h; simp only at h; split at h <;> cases h
      | _ => rw [ho] at h; simp at h

/-- No box where the next ones will be. -/
def WF (p : Path) (M : Mem) (cnt : Nat → Nat) : Prop := ∀ k c id, 0 < k → cnt k ≤ c → (c :: k :: p) <:+ id → M id = none
theorem WF.atNid {M : Mem} {cnt : Nat → Nat} (h : WF p M cnt) (d : Option Nat) : M (nid cnt p d) = none := h (key d) _ _ (by cases d <;> simp [key]) (Nat.le_refl _) (List.suffix_refl _)
theorem Rel.wf (h : Rel N p ds G σ a w) : WF p σ.M σ.cnt := fun k c id hk hc hid => by
  cases hm : σ.M id with
  | none => rfl
  | some b => obtain ⟨b', hl, _⟩ := h.sim.box_lt (id := id) (by rw [hm]; simp); rw [(h.fr k c id hk hc hid).1] at hl; cases hl
theorem rLoad_upd {M : Mem} {id : Path} (hn : M id = none) (b : Option Box) {t : TypeId} {x : V} (hp : (rLoad P M t x).pre) : rLoad P (upd M id b) t x = rLoad P M t x := by
  unfold rLoad at hp ⊢
  cases x <;> first | exact hp.elim | rfl | skip
  rename_i q off
  have : q ≠ id := fun e => by subst e; simp only [hn] at hp; exact hp.elim
  simp only [upd_ne _ _ this]
theorem new_M {pr : Prop} {d : Option Nat} {vf : Path → V} {b : Option Box} {ow : Bool} (M : Mem) (K : Toks) (cnt : Nat → Nat) : (coreNew p pr d vf b ow M K cnt).M = M ∨ ∃ bb, (coreNew p pr d vf b ow M K cnt).M = upd M (nid cnt p d) bb := by
  unfold coreNew
  cases b with
  | none => exact .inl rfl
  | some b => exact .inr ⟨some b, rfl⟩
theorem upd_comm {α : Type} (f : Path → α) {q r : Path} (x y : α) (h : q ≠ r) : upd (upd f q x) r y = upd (upd f r y) q x := by
  funext t
  simp only [upd]
  by_cases h1 : t = r <;> by_cases h2 : t = q <;> simp [h1, h2]
  · subst h1; subst h2; exact absurd rfl h
  · subst h1; intro e; exact absurd e.symm h
  · subst h2; intro e; exact absurd e h
theorem key_inj {d e : Option Nat} (h : key d = key e) : d = e := by cases d <;> cases e <;> simp [key] at h <;> simp [h]
theorem nid_bump {cnt : Nat → Nat} {d e : Option Nat} (h : d ≠ e) : nid (bump cnt e) p d = nid cnt p d := by
  unfold nid bump; rw [if_neg (fun h' => h (key_inj h'))]
theorem nid_ne {cnt cnt' : Nat → Nat} {d e : Option Nat} (h : d ≠ e) : nid cnt p d ≠ nid cnt' p e := fun h' => by
  simp only [Ax.nid, List.cons.injEq] at h'; exact h (key_inj h'.2.1)
theorem bump_comm (cnt : Nat → Nat) {d e : Option Nat} (h : d ≠ e) : bump (bump cnt d) e = bump (bump cnt e) d := by
  funext k
  have hk : key d ≠ key e := fun h' => h (key_inj h')
  simp only [bump]
  by_cases h1 : k = key e <;> by_cases h2 : k = key d <;> simp [h1, h2, hk, hk.symm]
theorem new_new {pr pr' : Prop} {d e : Option Nat} {vf vf' : Path → V} {b b' : Option Box} {ow ow' : Bool} (h : d ≠ e) (M : Mem) (K : Toks) (cnt : Nat → Nat) {X Y XY YX : Core}
    (hX : X = coreNew p pr d vf b ow M K cnt) (hY : Y = coreNew p pr' e vf' b' ow' M K cnt) (hXY : XY = coreNew p pr' e vf' b' ow' X.M X.K X.cnt) (hYX : YX = coreNew p pr d vf b ow Y.M Y.K Y.cnt) :
    XY.v = Y.v ∧ YX.v = X.v ∧ XY.M = YX.M ∧ XY.K = YX.K ∧ XY.cnt = YX.cnt := by
  subst hX; subst hY; subst hXY; subst hYX
  have e1 := nid_bump (p := p) (cnt := cnt) h
  have e2 := nid_bump (p := p) (cnt := cnt) (Ne.symm h)
  have hne : Ax.nid cnt p d ≠ Ax.nid cnt p e := nid_ne h
  refine ⟨by simp only [coreNew, e2], by simp only [coreNew, e1], ?_, ?_, bump_comm cnt h⟩
  · simp only [coreNew, e1, e2]
    cases b <;> cases b' <;> simp only
    exact upd_comm M _ _ hne
  · simp only [coreNew, e1, e2]
    cases ow <;> cases ow' <;> simp
    exact upd_comm K _ _ hne

/-! ### Two operations that may change places -/
def compat (E : Env) (ops : Array Oper) (x y : Oper) : Bool :=
  Oper.apart ops x y && (cls E x == 0 || cls E y == 0 || (cls E x == 1 && cls E y == 1) || (cls E x == 1 && cls E y == 2) || (cls E x == 2 && cls E y == 2 && x.dst != y.dst))
def stepC (P : Program) (E : Env) (N : Nat) (p : Path) (ops : Array Oper) (o : Oper) (σ : St) : Core := gCore P E p ops o σ.get σ.M σ.K σ.cnt
theorem gStep_st (ops : Array Oper) (o : Oper) (σ : St) : (gStep P E N p ops o σ).st = { get := putG N σ.get o.dst (stepC P E N p ops o σ).v, M := (stepC P E N p ops o σ).M, K := (stepC P E N p ops o σ).K, cnt := (stepC P E N p ops o σ).cnt } := coreSt_eq _ _ _ _
theorem gStep_pre (ops : Array Oper) (o : Oper) (σ : St) : (gStep P E N p ops o σ).pre = (stepC P E N p ops o σ).pre := rfl
theorem comm {ops : Array Oper} {x y : Oper} (hc : compat E ops x y = true) (hw : WF p σ.M σ.cnt) (h1 : (gStep P E N p ops x σ).pre) (h2 : (gStep P E N p ops y (gStep P E N p ops x σ).st).pre) :
    (gStep P E N p ops y σ).pre ∧ (gStep P E N p ops x (gStep P E N p ops y σ).st).pre ∧ (gStep P E N p ops x (gStep P E N p ops y σ).st).st = (gStep P E N p ops y (gStep P E N p ops x σ).st).st := by
  simp only [compat, Bool.and_eq_true] at hc
  obtain ⟨hap, hcl⟩ := hc
  obtain ⟨a1, a2, a3⟩ := Oper.apart_spec hap
  -- each at the other's state
  have ey : ∀ v M K cnt, gCore P E p ops y (putG N σ.get x.dst v) M K cnt = gCore P E p ops y σ.get M K cnt := fun v M K cnt => gCore_congr M K cnt fun t ht => putG_other fun e => a1 t e ht
  have ex : ∀ v M K cnt, gCore P E p ops x (putG N σ.get y.dst v) M K cnt = gCore P E p ops x σ.get M K cnt := fun v M K cnt => gCore_congr M K cnt fun t ht => putG_other fun e => a3 t e ht
  have hput : ∀ v u, putG N (putG N σ.get y.dst v) x.dst u = putG N (putG N σ.get x.dst u) y.dst v := fun v u => (putG_comm N σ.get u v a2).symm
  simp only [gStep_pre, gStep_st, stepC] at h1 h2 ⊢
  rw [ey] at h2 ⊢
  rw [ex]
  generalize hX : gCore P E p ops x σ.get σ.M σ.K σ.cnt = X at *
  generalize hY : gCore P E p ops y σ.get σ.M σ.K σ.cnt = Y at *
  generalize hXY : gCore P E p ops y σ.get X.M X.K X.cnt = XY at *
  generalize hYX : gCore P E p ops x σ.get Y.M Y.K Y.cnt = YX at *
  suffices hs : Y.pre ∧ YX.pre ∧ YX.v = X.v ∧ XY.v = Y.v ∧ YX.M = XY.M ∧ YX.K = XY.K ∧ YX.cnt = XY.cnt by
    obtain ⟨s1, s2, s3, s4, s5, s6, s7⟩ := hs
    exact ⟨s1, s2, by rw [hput, s3, s4, s5, s6, s7]⟩
  have first : (∃ pr v, ∀ M K cnt, gCore P E p ops x σ.get M K cnt = ⟨pr, v, M, K, cnt⟩) → Y.pre ∧ YX.pre ∧ YX.v = X.v ∧ XY.v = Y.v ∧ YX.M = XY.M ∧ YX.K = XY.K ∧ YX.cnt = XY.cnt := by
    rintro ⟨pr, v, hh⟩
    have e1 : X = ⟨pr, v, σ.M, σ.K, σ.cnt⟩ := by rw [← hX, hh]
    subst e1
    have e2 : XY = Y := by rw [← hXY, ← hY]
    subst e2
    have e3 : YX = ⟨pr, v, XY.M, XY.K, XY.cnt⟩ := by rw [← hYX, hh]
    subst e3
    exact ⟨h2, h1, rfl, rfl, rfl, rfl, rfl⟩
  have second : (∃ pr v, ∀ M K cnt, gCore P E p ops y σ.get M K cnt = ⟨pr, v, M, K, cnt⟩) → Y.pre ∧ YX.pre ∧ YX.v = X.v ∧ XY.v = Y.v ∧ YX.M = XY.M ∧ YX.K = XY.K ∧ YX.cnt = XY.cnt := by
    rintro ⟨pr, v, hh⟩
    have e1 : Y = ⟨pr, v, σ.M, σ.K, σ.cnt⟩ := by rw [← hY, hh]
    subst e1
    have e2 : YX = X := by rw [← hYX, ← hX]
    subst e2
    have e3 : XY = ⟨pr, v, YX.M, YX.K, YX.cnt⟩ := by rw [← hXY, hh]
    subst e3
    exact ⟨h2, h1, rfl, rfl, rfl, rfl, rfl⟩
  simp only [Bool.or_eq_true, Bool.and_eq_true, beq_iff_eq, bne_iff_ne, ne_eq] at hcl
  rcases hcl with (((h | h) | h) | h) | h
  · exact first (cls0 h σ.get)
  · exact second (cls0 h σ.get)
  · rcases cls1 (P := P) (p := p) (ops := ops) h.1 σ.get with hx | ⟨t, u, hx⟩
    · exact first hx
    · have e1 : X = ⟨(rLoad P σ.M t u).pre, (rLoad P σ.M t u).v, σ.M, σ.K, σ.cnt⟩ := by rw [← hX, hx]
      rcases cls1 (P := P) (p := p) (ops := ops) h.2 σ.get with hy | ⟨t', u', hy⟩
      · exact second hy
      · have e2 : Y = ⟨(rLoad P σ.M t' u').pre, (rLoad P σ.M t' u').v, σ.M, σ.K, σ.cnt⟩ := by rw [← hY, hy]
        subst e1; subst e2
        have e3 : XY = ⟨(rLoad P σ.M t' u').pre, (rLoad P σ.M t' u').v, σ.M, σ.K, σ.cnt⟩ := by rw [← hXY, hy]
        have e4 : YX = ⟨(rLoad P σ.M t u).pre, (rLoad P σ.M t u).v, σ.M, σ.K, σ.cnt⟩ := by rw [← hYX, hx]
        subst e3; subst e4
        exact ⟨h2, h1, rfl, rfl, rfl, rfl, rfl⟩
  · rcases cls1 (P := P) (p := p) (ops := ops) h.1 σ.get with hx | ⟨t, u, hx⟩
    · exact first hx
    · rcases cls2 (P := P) (p := p) (ops := ops) h.2 σ.get with hy | ⟨pr, vf, b, ow, hy⟩
      · exact second hy
      · have e1 : X = ⟨(rLoad P σ.M t u).pre, (rLoad P σ.M t u).v, σ.M, σ.K, σ.cnt⟩ := by rw [← hX, hx]
        subst e1
        have e2 : XY = Y := by rw [← hXY, ← hY]
        subst e2
        have e3 : YX = ⟨(rLoad P XY.M t u).pre, (rLoad P XY.M t u).v, XY.M, XY.K, XY.cnt⟩ := by rw [← hYX, hx]
        have hM : rLoad P XY.M t u = rLoad P σ.M t u := by
          have e4 : XY = coreNew p pr y.dst vf b ow σ.M σ.K σ.cnt := by rw [← hY, hy]
          rw [e4]
          rcases new_M (p := p) (pr := pr) (d := y.dst) (vf := vf) (b := b) (ow := ow) σ.M σ.K σ.cnt with e5 | ⟨bb, e5⟩
          · rw [e5]
          · rw [e5]; exact rLoad_upd (hw.atNid y.dst) bb h1
        rw [hM] at e3
        subst e3
        exact ⟨h2, h1, rfl, rfl, rfl, rfl, rfl⟩
  · rcases cls2 (P := P) (p := p) (ops := ops) h.1.1 σ.get with hx | ⟨pr, vf, b, ow, hx⟩
    · exact first hx
    · rcases cls2 (P := P) (p := p) (ops := ops) h.1.2 σ.get with hy | ⟨pr', vf', b', ow', hy⟩
      · exact second hy
      · have e1 : X = coreNew p pr x.dst vf b ow σ.M σ.K σ.cnt := by rw [← hX, hx]
        have e2 : Y = coreNew p pr' y.dst vf' b' ow' σ.M σ.K σ.cnt := by rw [← hY, hy]
        have e3 : XY = coreNew p pr' y.dst vf' b' ow' X.M X.K X.cnt := by rw [← hXY, hy]
        have e4 : YX = coreNew p pr x.dst vf b ow Y.M Y.K Y.cnt := by rw [← hYX, hx]
        obtain ⟨n1, n2, n3, n4, n5⟩ := new_new h.2 σ.M σ.K σ.cnt e1 e2 e3 e4
        have p1 : X.pre = pr := by rw [e1]; rfl
        have p2 : XY.pre = pr' := by rw [e3]; rfl
        refine ⟨by rw [e2]; show pr'; rw [← p2]; exact h2, by rw [e4]; show pr; rw [← p1]; exact h1, n2, n1, n3.symm, n4.symm, n5.symm⟩

end
end
section
open Go

section
variable {P : Program} {E : Env} {N : Nat} {p : Path} {ds : List Deferred} {G : Ghost} {σ : St} {a : Act} {w : World}

theorem WF.bump {M : Mem} {cnt : Nat → Nat} (h : WF p M cnt) (d : Option Nat) {M' : Mem} (hM : ∀ id, ¬ nid cnt p d <:+ id → M id = none → M' id = none) : WF p M' (bump cnt d) := fun k c id hk hc hid => by
  have hns : ¬ nid cnt p d <:+ id := fun hq => by
    have := suffix_eq hid hq (by simp [nid])
    simp only [nid, List.cons.injEq] at this
    obtain ⟨e1, e2, _⟩ := this
    simp only [Ax.bump] at hc
    rw [if_pos e2] at hc
    subst e2; omega
  refine hM id hns (h k c id hk ?_ hid)
  simp only [Ax.bump] at hc
  split at hc <;> omega
theorem WF.gs {M : Mem} {cnt : Nat → Nat} (h : WF p M cnt) (d : Option Nat) (id : Path) (bx : Option Box) : WF p (upd (upd M id none) (nid cnt p d) bx) (Ax.bump cnt d) := h.bump d fun q hq hn => by
  have : q ≠ nid cnt p d := fun e => hq (by rw [e]; exact List.suffix_refl _)
  rw [upd_ne _ _ this]
  by_cases e : q = id
  · rw [e, upd_same]
  · rw [upd_ne _ _ e]; exact hn
theorem WF.new {M : Mem} {cnt : Nat → Nat} {K : Toks} (h : WF p M cnt) (pr : Prop) (d : Option Nat) (vf : Path → V) (b : Option Box) (ow : Bool) : WF p (coreNew p pr d vf b ow M K cnt).M (coreNew p pr d vf b ow M K cnt).cnt := by
  refine h.bump d fun id hid hn => ?_
  rcases new_M (p := p) (pr := pr) (d := d) (vf := vf) (b := b) (ow := ow) M K cnt with e | ⟨bb, e⟩
  · rw [e]; exact hn
  · rw [e, upd_ne _ _ (fun e' => hid (by rw [e']; exact List.suffix_refl _))]; exact hn
theorem WF.op (hE : EnvOk P E) {M : Mem} {K : Toks} {cnt : Nat → Nat} (h : WF p M cnt) (ρ : Operand → V) (d : Option Nat) (op : Op) (hp : (opCore P E p ρ M K cnt d op).pre) : WF p (opCore P E p ρ M K cnt d op).M (opCore P E p ρ M K cnt d op).cnt := by
  cases op with
  | alloc t =>
    simp only [opCore]
    split
    · exact h.new _ _ _ _ _
    · exact h
  | box t x => exact h.new _ _ _ _ _
  | buildSlice t n ps => simp only [opCore]; split <;> exact h
  | store t x y =>
    simp only [opCore, coreStore] at hp ⊢
    split at hp
    · rename_i id off hx
      try simp only [hx]
      split at hp
      · rename_i cs hm
        try simp only [hm]
        refine fun k c q hk hc hq => ?_
        have hn := h k c q hk hc hq
        have : q ≠ id := fun e => by subst e; rw [hn] at hm; cases hm
        rw [upd_ne _ _ this]; exact hn
      · exact hp.elim
    · exact hp.elim
  | makeSlice t x y =>
    simp only [opCore, coreMake]
    split
    · split
      · split
        · exact h.new _ _ _ _ _
        · exact h.new _ _ _ _ _
      · exact h
    · exact h
  | call c =>
    obtain ⟨callee, args, ts⟩ := c
    cases callee with
    | invoke r m => exact h
    | builtin b =>
      by_cases hb : b = .append
      · subst hb
        simp only [opCore]
        split
        · split
          · unfold coreGrow
            repeat' (first | exact h | exact h.new _ _ _ _ _ | exact h.gs _ _ _ | split)
          · unfold coreAppend
            repeat' (first | exact h | exact h.new _ _ _ _ _ | split)
        · exact h
      · cases b <;> first | exact absurd rfl hb | exact h
    | value f =>
      simp only [opCore] at hp ⊢
      split at hp
      · rename_i g caps hg
        try simp only [hg]
        unfold coreCall at hp ⊢
        split at hp
        · rename_i h1
          try simp only [if_pos h1]
          split
          · exact h.new _ _ _ _ _
          · exact h
        · rename_i h1
          try simp only [if_neg h1]
          split at hp
          · rename_i h2
            try simp only [if_pos h2]
            split at hp
            · rename_i x M' K' hmf
              try simp only [hmf]
              exact h.bump d ((hE.mf g _ _ _ _ x M' K' (by simpa using h1) h2 hmf).2.1)
            · exact hp.elim
          · rename_i h2
            try simp only [if_neg h2]
            split <;> exact h
      · exact hp.elim
  | _ => exact h
theorem WF.step (hE : EnvOk P E) (ops : Array Oper) (o : Oper) (h : WF p σ.M σ.cnt) (hp : (gStep P E N p ops o σ).pre) : WF p (gStep P E N p ops o σ).st.M (gStep P E N p ops o σ).st.cnt := by
  rw [gStep_st]
  simp only
  rw [gStep_pre] at hp
  unfold stepC gCore at hp ⊢
  split at hp
  · rename_i e; try simp only [e]
    exact h.op hE _ _ _ hp
  · rename_i e; try simp only [e]
    exact h
  · exact hp.elim

/-- An operation that may change places with all that stand ahead is done first. -/
theorem runOps_front (hE : EnvOk P E) (ops : Array Oper) {Kf : St → Prop} (x : Oper) (post : List Oper) : ∀ (pre : List Oper) (σ : St), (∀ y ∈ pre, compat E ops y x = true) → WF p σ.M σ.cnt → runOps P E N p ops (pre ++ x :: post) σ Kf → runOps P E N p ops (x :: (pre ++ post)) σ Kf
  | [], σ, _, _, h => h
  | y :: pre, σ, hc, hw, h => by
    obtain ⟨h1, h2⟩ := h
    have hw1 := hw.step hE ops y h1
    obtain ⟨h3, h4⟩ := runOps_front hE ops x post pre _ (fun z hz => hc z (by simp [hz])) hw1 h2
    obtain ⟨c1, c2, c3⟩ := comm (hc y (by simp)) hw h1 h3
    exact ⟨c1, c2, by rw [c3]; exact h4⟩

def reach (ops : Array Oper) : Nat → Nat → Nat → Bool
  | 0, _, _ => false
  | f + 1, x, y => match ops[x]? with
    | some o => o.after.any fun e => Region.binds .any e && (e.on == y || reach ops f e.on y)
    | none => false
theorem reach_mem {ops : Array Oper} {S : Nat → Prop} (hS : ∀ z, S z → ∀ o, ops[z]? = some o → ∀ e ∈ o.after, Region.binds .any e = true → S e.on) : ∀ (f x y : Nat), (∀ o, ops[x]? = some o → ∀ e ∈ o.after, Region.binds .any e = true → S e.on) → reach ops f x y = true → S y
  | 0, _, _, _, h => by cases h
  | f + 1, x, y, hx, h => by
    unfold reach at h
    split at h
    · rename_i o ho
      obtain ⟨i, hi, h1⟩ := Array.any_eq_true.1 h
      simp only [Bool.and_eq_true, Bool.or_eq_true, beq_iff_eq] at h1
      have hs := hx o ho o.after[i] (by simp) h1.1
      rcases h1.2 with h2 | h2
      · rw [← h2]; exact hs
      · exact reach_mem hS f _ y (fun o' ho' => hS _ hs o' ho') h2
    · cases h

/-- What lies behind each operation, in bits. -/
def maskOf (acc : List Nat) : List Edge → Nat
  | [] => 0
  | e :: es => (if Region.binds .any e = true then (1 <<< e.on) ||| acc.getD e.on 0 else 0) ||| maskOf acc es
def masks : List Oper → List Nat → List Nat
  | [], acc => acc
  | o :: os, acc => masks os (acc ++ [maskOf acc o.after.toList])
theorem maskOf_spec {acc : List Nat} {y : Nat} : ∀ {es : List Edge}, (maskOf acc es).testBit y = true → ∃ e ∈ es, Region.binds .any e = true ∧ (e.on = y ∨ (acc.getD e.on 0).testBit y = true)
  | [], h => by simp [maskOf] at h
  | e :: es, h => by
    simp only [maskOf, Nat.testBit_or, Bool.or_eq_true] at h
    rcases h with h | h
    · split at h
      · rename_i hb
        rw [Nat.testBit_or, Bool.or_eq_true] at h
        refine ⟨e, by simp, hb, h.imp (fun h => ?_) id⟩
        rw [Nat.one_shiftLeft, Nat.testBit_two_pow] at h
        simpa using h
      · simp at h
    · obtain ⟨e', he, h2⟩ := maskOf_spec h
      exact ⟨e', by simp [he], h2⟩
theorem masks_spec (ops : Array Oper) : ∀ (os : List Oper) (acc : List Nat) (pre : List Oper), pre ++ os = ops.toList → acc.length = pre.length → (∀ (i y : Nat), (acc.getD i 0).testBit y = true → ∃ f, reach ops f i y = true) → ∀ (i y : Nat), ((masks os acc).getD i 0).testBit y = true → ∃ f, reach ops f i y = true
  | [], acc, pre, _, _, h, i, y, hi => h i y hi
  | o :: os, acc, pre, he, hl, h, i, y, hi => by
    refine masks_spec ops os (acc ++ [maskOf acc o.after.toList]) (pre ++ [o]) (by simpa using he) (by simp [hl]) (fun i y hi => ?_) i y hi
    rw [List.getD_eq_getElem?_getD, List.getElem?_append] at hi
    split at hi
    · exact h i y (by rw [List.getD_eq_getElem?_getD]; exact hi)
    · rename_i hlt
      by_cases e0 : i - acc.length = 0
      · rw [e0] at hi
        simp only [List.getElem?_cons_zero, Option.getD_some] at hi
        have hi' : i = pre.length := by omega
        have ho : ops[i]? = some o := by
          rw [← Array.getElem?_toList, ← he, hi']; simp
        obtain ⟨e, hem, hb, hr⟩ := maskOf_spec hi
        rcases hr with hr | hr
        · refine ⟨1, ?_⟩
          simp only [reach, ho]
          exact Array.any_eq_true'.2 ⟨e, by simpa using hem, by simp [hb, hr]⟩
        · obtain ⟨f, hf⟩ := h _ _ hr
          refine ⟨f + 1, ?_⟩
          simp only [reach, ho]
          exact Array.any_eq_true'.2 ⟨e, by simpa using hem, by simp [hb, hf]⟩
      · obtain ⟨m, hm⟩ := Nat.exists_eq_succ_of_ne_zero e0
        rw [hm] at hi
        simp at hi
def okOrdM (E : Env) (ops : Array Oper) (ms : List Nat) : Bool := (List.range ops.size).all fun x => match ops[x]? with
  | none => true
  | some ox => ox.after.all (fun e => !Region.binds .any e || decide (e.on < x)) && (List.range x).all fun y => match ops[y]? with
    | none => true
    | some oy => (ms.getD x 0).testBit y || compat E ops oy ox
def okOrd (E : Env) (ops : Array Oper) : Bool := okOrdM E ops (masks ops.toList [])
theorem mask_reach {ops : Array Oper} {x y : Nat} (h : ((masks ops.toList []).getD x 0).testBit y = true) : ∃ f, reach ops f x y = true :=
  masks_spec ops ops.toList [] [] rfl rfl (fun i y hi => by simp at hi) x y h

def left (n : Nat) (listed : Array Bool) : List Nat := (List.range n).filter fun i => !listed.getD i true
theorem left_split {n i : Nat} (hi : i < n) (listed : Array Bool) (hl : listed.size = n) (hf : listed.getD i true = false) :
    ∃ pre post, left n listed = pre ++ i :: post ∧ left n (listed.setIfInBounds i true) = pre ++ post ∧ (∀ y ∈ pre, y < i ∧ listed.getD y true = false) := by
  have hr : List.range n = List.range i ++ i :: List.range' (i + 1) (n - (i + 1)) := by
    have : n = i + (1 + (n - (i + 1))) := by omega
    rw [List.range_eq_range', List.range_eq_range']
    conv => lhs; rw [this]
    rw [← List.range'_append_1, show 1 + (n - (i + 1)) = (n - (i + 1)) + 1 by omega, List.range'_succ]
    simp
  have hne : ∀ j, j ≠ i → (listed.setIfInBounds i true).getD j true = listed.getD j true := fun j hj => by
    simp only [Array.getD_eq_getD_getElem?, Array.getElem?_setIfInBounds_ne (Ne.symm hj)]
  refine ⟨(List.range i).filter fun j => !listed.getD j true, (List.range' (i + 1) (n - (i + 1))).filter fun j => !listed.getD j true, ?_, ?_, fun y hy => ?_⟩
  · unfold left; rw [hr, List.filter_append, List.filter_cons, if_pos (by simp only [hf]; rfl)]
  · unfold left; rw [hr, List.filter_append, List.filter_cons, if_neg (by simp [Array.getD_eq_getD_getElem?, hl, hi])]
    congr 1
    · exact List.filter_congr fun j hj => by rw [hne j (by have := List.mem_range.1 hj; omega)]
    · exact List.filter_congr fun j hj => by rw [hne j (by have := List.mem_range'_1.1 hj; omega)]
  · have := List.mem_filter.1 hy
    exact ⟨List.mem_range.1 this.1, by simpa using this.2⟩
theorem runAny (hE : EnvOk P E) (ops : Array Oper) (hok : okOrd E ops = true) {Kf : St → Prop} {Q : Exit → Act → World → Prop} : ∀ (fuel : Nat) (listed : Array Bool) (G : Ghost) (σ : St) (a : Act) (w : World), listed.size = ops.size →
    (left ops.size listed).length ≤ fuel → (∀ z, listed.getD z false = true → ∀ o, ops[z]? = some o → ∀ e ∈ o.after, Region.binds .any e = true → listed.getD e.on false = true) →
    Rel N p ds G σ a w → runOps P E N p ops ((left ops.size listed).filterMap fun i => ops[i]?) σ Kf →
    (∀ G' σ' a' w', Tr p G σ.M σ.K w G' σ'.M σ'.K w' → Rel N p ds G' σ' a' w' → Kf σ' → Q .normal a' w') → wpAny P .any ops Q fuel listed a w := by
  intro fuel
  have hsub : ∀ (listed : Array Bool) (i : Nat), i ∈ Region.ready .any ops listed → i < ops.size ∧ listed.getD i true = false ∧ ∃ o, ops[i]? = some o ∧ ∀ e ∈ o.after, Region.binds .any e = true → listed.getD e.on false = true := fun listed i hi => by
    have h := List.mem_filter.1 hi
    have h1 := List.mem_range.1 h.1
    have h2 := h.2
    simp only [Bool.and_eq_true, Bool.not_eq_true'] at h2
    refine ⟨h1, h2.1, ops[i], by simp [h1], fun e he hb => ?_⟩
    have h3 := h2.2
    rw [show ops[i]? = some ops[i] by simp [h1]] at h3
    simp only [Option.map_some, Option.getD_some, Array.all_eq_true'] at h3
    have := h3 e he
    simpa [hb] using this
  have hdone : ∀ (listed : Array Bool) (G : Ghost) (σ : St) (a : Act) (w : World), left ops.size listed = [] → Rel N p ds G σ a w → runOps P E N p ops ((left ops.size listed).filterMap fun i => ops[i]?) σ Kf →
      (∀ G' σ' a' w', Tr p G σ.M σ.K w G' σ'.M σ'.K w' → Rel N p ds G' σ' a' w' → Kf σ' → Q .normal a' w') → Q .normal a w := fun listed G σ a w hl hR hr hK => by
    rw [hl] at hr
    exact hK G σ a w (.refl _ _ _ _ _) hR hr
  induction fuel with
  | zero =>
    intro listed G σ a w hsz hlen hcl hR hr hK
    have hl : left ops.size listed = [] := List.eq_nil_of_length_eq_zero (by omega)
    refine ⟨?_, hdone listed G σ a w hl hR hr hK⟩
    refine List.eq_nil_iff_forall_not_mem.2 fun i hi => ?_
    obtain ⟨h1, h2, _⟩ := hsub listed i hi
    have : i ∈ left ops.size listed := List.mem_filter.2 ⟨List.mem_range.2 h1, by simp [h2]⟩
    rw [hl] at this; cases this
  | succ fuel ih =>
    intro listed G σ a w hsz hlen hcl hR hr hK
    refine ⟨fun hre => ?_, fun i hi => ?_⟩
    · refine hdone listed G σ a w ?_ hR hr hK
      -- the first that is left would be ready
      cases hl : left ops.size listed with
      | nil => rfl
      | cons i rest =>
        exfalso
        have hmem : i ∈ left ops.size listed := by rw [hl]; simp
        have hm := List.mem_filter.1 hmem
        have hin := List.mem_range.1 hm.1
        have hf : listed.getD i true = false := by simpa using hm.2
        obtain ⟨pre, post, e1, _, e3⟩ := left_split hin listed hsz hf
        have hpre : pre = [] := by
          cases pre with
          | nil => rfl
          | cons y pre =>
            rw [e1] at hl
            simp only [List.cons_append, List.cons.injEq] at hl
            have := (e3 y (by simp)).1
            omega
        subst hpre
        have hready : i ∈ Region.ready .any ops listed := by
          refine List.mem_filter.2 ⟨List.mem_range.2 hin, ?_⟩
          simp only [hf, Bool.not_false, Bool.true_and]
          rw [show ops[i]? = some ops[i] by simp [hin]]
          simp only [Option.map_some, Option.getD_some, Array.all_eq_true']
          intro e he
          cases hb : Region.binds .any e with
          | false => rfl
          | true =>
            have h1 := List.all_eq_true.1 hok i (List.mem_range.2 hin)
            rw [show ops[i]? = some ops[i] by simp [hin]] at h1
            simp only [Bool.and_eq_true, Array.all_eq_true'] at h1
            have h2 := h1.1 e he
            simp only [hb, Bool.not_true, Bool.false_or, decide_eq_true_eq] at h2
            have h3 : e.on ∉ left ops.size listed := fun hon => by
              have hon' := List.mem_filter.1 hon
              obtain ⟨pre', post', f1, _, f3⟩ := left_split (List.mem_range.1 hon'.1) listed hsz (by simpa using hon'.2)
              rw [f1] at hl
              cases pre' with
              | nil => simp only [List.nil_append, List.cons.injEq] at hl; omega
              | cons y pre' => simp only [List.cons_append, List.cons.injEq] at hl; have := (f3 y (by simp)).1; omega
            simp only [Bool.not_true, Bool.false_or]
            have hlt : e.on < listed.size := by rw [hsz]; omega
            cases hg : listed.getD e.on false with
            | true => rfl
            | false =>
              exact absurd (List.mem_filter.2 ⟨List.mem_range.2 (by omega), by
                have : listed.getD e.on true = false := by
                  simp only [Array.getD_eq_getD_getElem?] at hg ⊢
                  rw [show listed[e.on]? = some listed[e.on] by simp [hlt]] at hg ⊢
                  exact hg
                simp [this]⟩) h3
        rw [hre] at hready; cases hready
    · obtain ⟨hin, hf, o, ho, hdeps⟩ := hsub listed i hi
      obtain ⟨pre, post, e1, e2, e3⟩ := left_split hin listed hsz hf
      rw [e1, List.filterMap_append, List.filterMap_cons] at hr
      simp only [ho] at hr
      have hcomp : ∀ y ∈ pre.filterMap fun i => ops[i]?, compat E ops y o = true := fun y hy => by
        obtain ⟨j, hj, hjo⟩ := List.mem_filterMap.1 hy
        obtain ⟨hji, hjf⟩ := e3 j hj
        have h1 := List.all_eq_true.1 hok i (List.mem_range.2 hin)
        rw [ho] at h1
        simp only [Bool.and_eq_true] at h1
        have h2 := List.all_eq_true.1 h1.2 j (List.mem_range.2 hji)
        rw [hjo] at h2
        simp only [Bool.or_eq_true] at h2
        rcases h2 with h2 | h2
        rotate_left
        · exact h2
        · obtain ⟨fu, h2⟩ := mask_reach h2
          have := reach_mem (S := fun z => listed.getD z false = true) hcl fu i j (fun o' ho' => by rw [ho] at ho'; cases ho'; exact hdeps) h2
          have hlt : j < listed.size := by rw [hsz]; omega
          simp only [Array.getD_eq_getD_getElem?] at this hjf
          rw [show listed[j]? = some listed[j] by simp [hlt]] at this hjf
          simp only [Option.getD_some] at this hjf
          rw [hjf] at this; cases this
      obtain ⟨r1, r2⟩ := runOps_front hE ops o _ _ σ hcomp hR.wf hr
      refine gstep_sound hE hR ops i o ho r1 fun G' a' w' ht hR' => ?_
      refine ih (listed.setIfInBounds i true) G' _ a' w' (by simpa using hsz) ?_ (fun z hz o' ho' e he hb => ?_) hR' ?_ (fun G2 σ2 a2 w2 ht2 => hK G2 σ2 a2 w2 (ht.trans ht2))
      · rw [e2]; rw [e1] at hlen; simp at hlen ⊢; omega
      · have keep : ∀ t, listed.getD t false = true → (listed.setIfInBounds i true).getD t false = true := fun t ht => by
          simp only [Array.getD_eq_getD_getElem?, Array.getElem?_setIfInBounds] at ht ⊢
          have htl : t < listed.size := by
            rcases Nat.lt_or_ge t listed.size with h | h
            · exact h
            · rw [Array.getElem?_eq_none h] at ht; cases ht
          split
          · rename_i e; rw [if_pos (by rw [e]; exact htl)]; rfl
          · exact ht
        by_cases hzi : z = i
        · subst hzi; rw [ho] at ho'; cases ho'; exact keep _ (hdeps e he hb)
        · refine keep _ (hcl z ?_ o' ho' e he hb)
          simp only [Array.getD_eq_getD_getElem?, Array.getElem?_setIfInBounds_ne (Ne.symm hzi)] at hz ⊢
          exact hz
      · rw [e2, List.filterMap_append]; exact r2

end
end
end Go.Proofs.YtaacfmakfkaddaaDoor.Ax
