/- Abstract execution, part L: statements; functions; what a function without memory of others does. -/
import Derived.Test.YtiippmhlkcbjmaaAxK
import Derived.RangeFuncOwn
import Derived.OrdersIn
set_option linter.unusedVariables false
set_option linter.unusedSimpArgs false
namespace Go.Proofs.Ytiippmhlkcbjmaa.Ax
open Go

section
variable {P : Program} {E : Env} {N : Nat} {p : Path}

/-! ### The fence -/
def Fr (ro : Option Nat) : Fence := { Fence.wide with round := ro }
theorem callsIn_of {ro : Option Nat} {n : Nat} {f : FuncId} {args : Array Value} {w : World} {R : Ending → World → Prop} (h : Calls P f args w R) : CallsIn (Fr ro) n P f args w R := (callsIn_wide (n := n)).2 h
theorem calls_of {ro : Option Nat} {n : Nat} {f : FuncId} {args : Array Value} {w : World} {R : Ending → World → Prop} (h : CallsIn (Fr ro) n P f args w R) : Calls P f args w R := (callsIn_wide (n := n)).1 h
theorem rowsIn_of {ro : Option Nat} {n : Nat} {row : String} {args : Array Value} {w : World} {R : Value → World → Prop} (h : Rows P row args w R) : RowsIn (Fr ro) n P row args w R :=
  fun c cs _ => let ⟨v, w', r, s⟩ := h c cs; ⟨v, w', r, stepsIn_wide.2 s⟩
theorem upon_in {ro : Option Nat} {o : Oper} {a : Act} {next next' : Act → World → Prop} {Q : Exit → Act → World → Prop} (hn : ∀ a w, next a w → next' a w) : ∀ r, o.upon P a next Q r → o.uponIn (Fr ro) 0 P a next' Q r
  | .ok (.value v) w', h => hn _ _ h
  | .ok .skip w', h => hn _ _ h
  | .ok (.defer d) w', h => hn _ _ h
  | .ok (.enter f args) w', h => ⟨fun hd => by simp [Fr, Fence.wide] at hd, callsIn_of (Calls.mono h fun e w h => by cases e <;> first | exact hn _ _ h | exact h)⟩
  | .ok (.row row args) w', h => ⟨fun hd => by simp [Fr, Fence.wide] at hd, rowsIn_of (Rows.mono h fun v w h => hn _ _ h)⟩
  | .ok (.round l f tmps assign body) w', h => h.elim
  | .halt (.panic v) w', h => h
def noDefer (ops : Array Oper) : Bool := ops.toList.all fun o => match o.op with | .defer _ => false | _ => true
theorem wpOps_in {ro : Option Nat} {ops : Array Oper} {Q : Exit → Act → World → Prop} (hq : ∀ a w, ¬ Q .outgrown a w) (hd : noDefer ops = true) : ∀ (l : List Nat) (a : Act) (w : World), wpOps P ops Q l a w → wpOpsIn (Fr ro) 0 P ops Q l a w
  | [], a, w, h => h
  | i :: l, a, w, h => by
    simp only [wpOps] at h
    simp only [wpOpsIn]
    cases ho : ops[i]? with
    | none => rw [ho] at h; exact wpOps_in hq hd l a w h
    | some o =>
      rw [ho] at h
      simp only at h ⊢
      split at h
      · rename_i hw
        rw [if_pos hw]
        rcases h with h | ⟨_, a', w', h⟩
        · refine ⟨fun _ _ => trivial, ?_⟩
          have hnd : ∀ c, o.op ≠ .defer c := fun c hc => by
            have := List.all_eq_true.1 hd o (by simpa using Array.mem_of_getElem? ho)
            rw [hc] at this; cases this
          rw [Oper.semAt_eq _ _ _ hnd]
          exact upon_in (fun a w h => wpOps_in hq hd l a w h) _ h
        · exact absurd h (hq a' w')
      · rename_i hw
        rw [if_neg hw]
        exact ⟨fun _ _ => trivial, wpOps_in hq hd l _ w h⟩

/-! ### Marks -/
def mark (D : Nat) : Deferred := { target := .collected D, args := #[] }
def Mk (w : World) (ds ds' : List Deferred) (w' : World) : Prop := ∃ Ds : List Nat, ds' = Ds.map mark ++ ds ∧ Ds.Pairwise (· ≠ ·) ∧ ∀ D ∈ Ds, w.heap.size ≤ D ∧ w'.heap[D]? = some (.deferred (some []))
theorem Mk.refl (w : World) (ds : List Deferred) (w' : World) : Mk w ds ds w' := ⟨[], rfl, .nil, fun D h => by simp at h⟩
theorem Mk.trans {w w1 w2 : World} {ds ds1 ds2 : List Deferred} (h : Mk w ds ds1 w1) (k : Mk w1 ds1 ds2 w2) (hs : w.heap.size ≤ w1.heap.size) (hk : ∀ (D : Nat) (o : Obj), w1.heap[D]? = some o → o.isCells = false → w2.heap[D]? = some o) : Mk w ds ds2 w2 := by
  obtain ⟨Ds, rfl, hp, hD⟩ := h
  obtain ⟨Es, rfl, hq, hE⟩ := k
  refine ⟨Es ++ Ds, by simp, List.pairwise_append.2 ⟨hq, hp, fun x hx y hy e => ?_⟩, fun D hm => ?_⟩
  · subst e
    have h1 := (hE x hx).1
    have h2 := lt_of_heap (hD x hy).2
    omega
  · rcases List.mem_append.1 hm with hm | hm
    · exact ⟨Nat.le_trans hs (hE D hm).1, (hE D hm).2⟩
    · exact ⟨(hD D hm).1, hk D _ (hD D hm).2 rfl⟩
/-- What holds no cells lies as it lay. -/
theorem keep_others {G G' : Ghost} {M M' : Mem} {K K' : Toks} {w w' : World} (hs : Sim G M K w) (ht : Tr p G M K w G' M' K' w') (D : Nat) (o : Obj) (hD : w.heap[D]? = some o) (ho : o.isCells = false) : w'.heap[D]? = some o := by
  rw [ht.up.keep D (lt_of_heap hD) ?_, hD]
  rintro (⟨id, hm, hl⟩ | ⟨t, x, hk, htl⟩)
  · cases hM : M id with
    | none => exact hm hM
    | some bx =>
      cases bx with
      | cells cs =>
        obtain ⟨b, arr, T, hb, hh, _⟩ := hs.box id cs hM
        rw [hl] at hb; cases hb
        rw [hD] at hh; cases hh; cases ho
      | mp es => exact hs.mp id es hM
  · obtain ⟨g, cap, s, n, arr, T, h1, hh, _⟩ := hs.tok t hk
    rw [htl] at h1; cases h1
    rw [hD] at hh; cases hh; cases ho

/-! ### Statements -/
abbrev Post := Exit → St → Prop
def Aft (N : Nat) (p : Path) (ds : List Deferred) (G : Ghost) (σ : St) (w : World) (Q : Post) (e : Exit) (a' : Act) (w' : World) : Prop :=
  ∃ ds' G' σ', Mk w ds ds' w' ∧ Tr p G σ.M σ.K w G' σ'.M σ'.K w' ∧ Rel N p ds' G' σ' a' w' ∧ Q e σ'
/-- From the state σ the code comes to Q. -/
def T (P : Program) (ro : Option Nat) (N : Nat) (p : Path) (c : Code) (σ : St) (Q : Post) : Prop :=
  ∀ ds G a w, Rel N p ds G σ a w → c.wpIn (Fr ro) 0 P (Aft N p ds G σ w Q) a w
def nx (K : St → Prop) (Q : Post) : Post
  | .normal, σ => K σ
  | e, σ => Q e σ
def blk (id : Nat) (Q : Post) : Post
  | .exit id', σ => if id' = id then Q .normal σ else Q (.exit id') σ
  | e, σ => Q e σ
variable {σ : St} {Q : Post} {ro : Option Nat}

theorem Aft.here {ds : List Deferred} {G : Ghost} {a : Act} {w : World} {e : Exit} (hR : Rel N p ds G σ a w) (h : Q e σ) : Aft N p ds G σ w Q e a w := ⟨ds, G, σ, .refl _ _ _, .refl _ _ _ _ _, hR, h⟩
theorem Aft.trans {ds ds1 : List Deferred} {G G1 : Ghost} {σ1 : St} {a1 a2 : Act} {w w1 w2 : World} {e : Exit} (hR : Rel N p ds1 G1 σ1 a1 w1) (hm : Mk w ds ds1 w1) (ht : Tr p G σ.M σ.K w G1 σ1.M σ1.K w1) (h : Aft N p ds1 G1 σ1 w1 Q e a2 w2) : Aft N p ds G σ w Q e a2 w2 := by
  obtain ⟨ds2, G2, σ2, h1, h2, h3, h4⟩ := h
  exact ⟨ds2, G2, σ2, Mk.trans hm h1 ht.up.size (keep_others hR.sim h2), ht.trans h2, h3, h4⟩
theorem T.mono {c : Code} {Q' : Post} (h : T P ro N p c σ Q) (hq : ∀ e σ, Q e σ → Q' e σ) : T P ro N p c σ Q' :=
  fun ds G a w hR => wpIn_mono (h ds G a w hR) fun e a' w' ⟨ds', G', σ', h1, h2, h3, h4⟩ => ⟨ds', G', σ', h1, h2, h3, hq _ _ h4⟩
theorem T.skip (h : Q .normal σ) : T P ro N p .skip σ Q := fun ds G a w hR => wpIn_skip (.here hR h)
theorem T.label {l : Nat} (h : Q .normal σ) : T P ro N p (.label l) σ Q := fun ds G a w hR => wpIn_label (.here hR h)
theorem T.exit {id : Nat} (h : Q (.exit id) σ) : T P ro N p (.exit id) σ Q := fun ds G a w hR => wpIn_exit (.here hR h)
theorem T.ret (h : Q .ret σ) : T P ro N p .ret σ Q := fun ds G a w hR => wpIn_ret (.here hR h)
theorem T.seq {x y : Code} (h : ∀ K : St → Prop, (∀ σ', T P ro N p y σ' Q → K σ') → T P ro N p x σ (nx K Q)) : T P ro N p (.seq x y) σ Q := by
  intro ds G a w hR
  refine wpIn_seq (wpIn_mono (h (fun σ' => T P ro N p y σ' Q) (fun _ h => h) ds G a w hR) ?_)
  rintro e a' w' ⟨ds', G', σ', h0, h1, h2, h3⟩
  cases e with
  | normal => exact wpIn_mono (h3 ds' G' a' w' h2) fun e2 a2 w2 h => h.trans h2 h0 h1
  | _ => exact ⟨ds', G', σ', h0, h1, h2, h3⟩
/-- It goes on behind, or it does not end. -/
def Here (N : Nat) (p : Path) (ds : List Deferred) (G : Ghost) (σ : St) (w : World) (Q : Post) (e : Exit) (a' : Act) (w' : World) : Prop := e = .normal ∧ Aft N p ds G σ w Q .normal a' w'
theorem Here.aft {ds : List Deferred} {G : Ghost} {a' : Act} {w w' : World} {e : Exit} (h : Here N p ds G σ w Q e a' w') : Aft N p ds G σ w Q e a' w' := by obtain ⟨rfl, h⟩ := h; exact h
theorem T.region (hE : EnvOk P E) {id : Nat} {ops : Array Oper} (hd : noDefer ops = true) (h : runOps P E N p ops ops.toList σ (Q .normal)) : T P ro N p (.region id ops false) σ Q := by
  intro ds G a w hR
  refine wpIn_mono (wpIn_region (wpOps_in (Q := Here N p ds G σ w Q) (fun a w h => by cases h.1) hd _ _ _ ?_)) fun e a w h => h.aft
  refine runOps_wp hE ops _ ops.toList G σ a w ?_ hR h fun G' σ' a' w' ht hR' hq => ⟨rfl, ds, G', σ', .refl _ _ _, ht, hR', hq⟩
  apply List.ext_getElem?
  intro i
  simp only [List.getElem?_map]
  by_cases hi : i < ops.size
  · simp [List.getElem?_range hi, hi]
  · rw [List.getElem?_eq_none (by simp; omega), List.getElem?_eq_none (by simp; omega)]; rfl
theorem range_get {α : Type} : ∀ l : List α, (List.range l.length).filterMap (fun i => l[i]?) = l
  | [] => rfl
  | x :: l => by
    have := range_get l
    simp [List.range_succ_eq_map, List.filterMap_map, Function.comp_def, this]
theorem least {p : Nat → Prop} (h : ∃ n, p n) : ∃ n, p n ∧ ∀ m, p m → n ≤ m := by
  obtain ⟨n, hn⟩ := h
  induction n using Nat.strongRecOn with
  | _ n ih =>
    by_cases hx : ∃ m, m < n ∧ p m
    · obtain ⟨m, hm, hp⟩ := hx; exact ih m hm hp
    · exact ⟨n, hn, fun m hm => Nat.le_of_not_lt fun hlt => hx ⟨m, hlt, hm⟩⟩
theorem T.draw (hE : EnvOk P E) (hm : P.follows .mixedOrders = true) {id : Nat} {ops : Array Oper} (hd : noDefer ops = true) (hok : okOrd E ops = true) (h : runOps P E N p ops ops.toList σ (Q .normal)) : T P ro N p (.region id ops true) σ Q := by
  intro ds G a w hR
  have hR' : Rel N p ds G σ a w.drew := ⟨hR.n, hR.tm, hR.rng, hR.df, hR.sim.drew, hR.fr, hR.hid⟩
  have hleft : left ops.size (Array.replicate ops.size false) = List.range ops.size := by
    unfold left
    refine List.filter_eq_self.2 fun i hi => ?_
    have := List.mem_range.1 hi
    simp [Array.getD_eq_getD_getElem?, this]
  refine wpIn_mono (wpIn_region_draw fun t => wpOps_in (Q := Here N p ds G σ w Q) (fun a w h => by cases h.1) hd _ _ _ ?_) fun e a w h => h.aft
  simp only [Region.schedule, hm, Bool.true_or, if_true]
  refine wpAny_sound ops.size t _ a _ (runAny hE ops hok (Kf := Q .normal) ops.size _ G σ a w.drew (by simp) (by rw [hleft]; simp) (fun z hz => ?_) hR' ?_ fun G' σ' a' w' ht hR2 hq => ⟨rfl, ds, G', σ', .refl _ _ _, (Tr.drew p G σ.M σ.K w).trans ht, hR2, hq⟩)
  · simp only [Array.getD_eq_getD_getElem?, Array.getElem?_replicate] at hz
    split at hz <;> cases hz
  · rw [hleft]
    have : (List.range ops.size).filterMap (fun i => ops[i]?) = ops.toList := by
      have := range_get ops.toList
      simpa using this
    rw [this]; exact h
theorem T.cond {c : Operand} {x y : Code} {b : Bool} (hb : σ.ev c = .bool b) (ht : b = true → T P ro N p x σ Q) (hf : b = false → T P ro N p y σ Q) : T P ro N p (.cond c x y) σ Q := by
  intro ds G a w hR
  have h1 := hR.eval c
  rw [hb] at h1
  have h2 : a.eval c = .bool b := by generalize a.eval c = z at h1; cases h1; rfl
  exact wpIn_cond_split h2 (fun e => ht e ds G a w hR) (fun e => hf e ds G a w hR)
theorem T.block {id : Nat} {c : Code} (h : T P ro N p c σ (blk id Q)) : T P ro N p (.block id c) σ Q := by
  intro ds G a w hR
  refine wpIn_block (wpIn_mono (h ds G a w hR) ?_)
  rintro e a' w' ⟨ds', G', σ', h0, h1, h2, h3⟩
  cases e with
  | exit id' =>
    simp only [blk] at h3
    simp only [Exit.inBlock]
    split at h3
    · rename_i e; rw [if_pos e]; exact ⟨ds', G', σ', h0, h1, h2, h3⟩
    · rename_i e; rw [if_neg e]; exact ⟨ds', G', σ', h0, h1, h2, h3⟩
  | _ => exact ⟨ds', G', σ', h0, h1, h2, h3⟩
open Classical in
theorem T.loop {c : Code} (I : Nat → St → Prop) (n : Nat) (h0 : I n σ) (h : ∀ n σ', I n σ' → T P ro N p c σ' (nx (fun σ'' => ∃ m, m < n ∧ I m σ'') Q)) : T P ro N p (.loop c) σ Q := by
  intro ds G a w hR
  let J : Nat → Act → World → Prop := fun n a' w' => ∃ ds' G' σ', Mk w ds ds' w' ∧ Tr p G σ.M σ.K w G' σ'.M σ'.K w' ∧ Rel N p ds' G' σ' a' w' ∧ I n σ'
  let μ : Act → World → Nat := fun a' w' => if hx : ∃ n, J n a' w' then Classical.choose (least hx) else 0
  have hμ : ∀ a' w' m, J m a' w' → J (μ a' w') a' w' ∧ μ a' w' ≤ m := fun a' w' m hJ => by
    have hx : ∃ n, J n a' w' := ⟨m, hJ⟩
    simp only [μ, dif_pos hx]
    exact ⟨(Classical.choose_spec (least hx)).1, (Classical.choose_spec (least hx)).2 m hJ⟩
  refine wpIn_loop (fun a' w' => ∃ n, J n a' w') μ ⟨n, ds, G, σ, .refl _ _ _, .refl _ _ _ _ _, hR, h0⟩ ?_
  rintro a1 w1 ⟨m, hJ⟩
  obtain ⟨ds1, G1, σ1, m1, t1, R1, I1⟩ := (hμ a1 w1 m hJ).1
  refine wpIn_mono (h _ σ1 I1 ds1 G1 a1 w1 R1) ?_
  rintro e a2 w2 ha
  obtain ⟨ds2, G2, σ2, m2, t2, R2, hq⟩ := ha.trans R1 m1 t1
  cases e with
  | normal =>
    obtain ⟨k, hk, hI⟩ := hq
    have hJ2 : J k a2 w2 := ⟨ds2, G2, σ2, m2, t2, R2, hI⟩
    exact ⟨⟨k, hJ2⟩, Nat.lt_of_le_of_lt (hμ a2 w2 k hJ2).2 hk⟩
  | _ => exact ⟨ds2, G2, σ2, m2, t2, R2, hq⟩

/-! ### Functions -/
def resOne (P : Program) (σ : St) : ResultVar → R
  | .tmp t => ⟨True, σ.get t⟩
  | .cell a t => rLoad P σ.M t (σ.get a)
def resAll (P : Program) (σ : St) (rs : List ResultVar) : R := match rs with
  | [r] => resOne P σ r
  | rs => ⟨∀ r ∈ rs, (resOne P σ r).pre, .tup (rs.map fun r => (resOne P σ r).v)⟩
theorem res_one {ds : List Deferred} {G : Ghost} {a : Act} {w : World} (hR : Rel N p ds G σ a w) (r : ResultVar) (hp : (resOne P σ r).pre) :
    ∃ v, (match r with | .tmp t => pure (a.tmps.getD t undef) | .cell x t => do loadVar t (← asAddr (a.tmps.getD x undef)) : Sem Value).run P w = .ok v w ∧ Rep G v (resOne P σ r).v := by
  cases r with
  | tmp t => exact ⟨_, rfl, hR.eval (.tmp t)⟩
  | cell x t =>
    have hx : Rep G (a.tmps.getD x undef) (σ.get x) := hR.eval (.tmp x)
    obtain ⟨v, hv, hr⟩ := sv_load (P := P) hR.sim t hx hp
    refine ⟨v, ?_, hr⟩
    show (do loadVar t (← asAddr (a.tmps.getD x undef)) : Sem Value).run P w = .ok v w
    simp only [resOne] at hp
    generalize a.tmps.getD x undef = z at hx hv ⊢
    generalize σ.get x = y at hx hp
    cases hx with
    | ptr id off b hl => simpa [Instr.loadAt, Instr.sureAddr, asAddr] using hv
    | cptr b o cs off vs hfx hrep => simpa [Instr.loadAt, Instr.sureAddr, asAddr] using hv
    | _ => exact hp.elim
theorem res_list {ds : List Deferred} {G : Ghost} {a : Act} {w : World} (hR : Rel N p ds G σ a w) : ∀ (rs : List ResultVar), (∀ r ∈ rs, (resOne P σ r).pre) →
    ∃ vs, (rs.mapM (fun | .tmp t => pure (a.tmps.getD t undef) | .cell x t => do loadVar t (← asAddr (a.tmps.getD x undef)) : ResultVar → Sem Value)).run P w = .ok vs w ∧ RepL G vs (rs.map fun r => (resOne P σ r).v)
  | [], _ => ⟨[], by simp, .nil G⟩
  | r :: rs, hp => by
    obtain ⟨v, hv, hr⟩ := res_one (P := P) hR r (hp r (by simp))
    obtain ⟨vs, hvs, hrs⟩ := res_list hR rs fun r hr => hp r (by simp [hr])
    refine ⟨v :: vs, ?_, .cons hr hrs⟩
    rw [List.mapM_cons, Sem.run_bind]
    cases r <;> simp only at hv ⊢ <;> rw [hv] <;> simp only [Result.andThen_ok, Sem.run_bind, hvs, Sem.run_pure]
theorem res_all {ds : List Deferred} {G : Ghost} {a : Act} {w : World} (hR : Rel N p ds G σ a w) (fn : Func) (hp : (resAll P σ fn.results.toList).pre) : ∃ v, (results fn a.tmps).run P w = .ok v w ∧ Rep G v (resAll P σ fn.results.toList).v := by
  have hpre : ∀ r ∈ fn.results.toList, (resOne P σ r).pre := by
    unfold resAll at hp
    split at hp
    · rename_i r e; intro r' hr'; rw [e] at hr'; simp at hr'; subst hr'; exact hp
    · exact hp
  obtain ⟨vs, hvs, hrs⟩ := res_list (P := P) hR fn.results.toList hpre
  have hrun : (fn.results.mapM (fun | .tmp t => pure (a.tmps.getD t undef) | .cell x t => do loadVar t (← asAddr (a.tmps.getD x undef)) : ResultVar → Sem Value)).run P w = .ok vs.toArray w := by
    rw [Array.mapM_eq_mapM_toList, Sem.run_map, hvs]; rfl
  have hres : (results fn a.tmps).run P w = .ok (if h : vs.toArray.size = 1 then vs.toArray[0] else .tuple vs.toArray) w := by
    have e : results fn a.tmps = (do
      let vs ← fn.results.mapM (fun | .tmp t => pure (a.tmps.getD t undef) | .cell x t => do loadVar t (← asAddr (a.tmps.getD x undef)) : ResultVar → Sem Value)
      pure (if h : vs.size = 1 then vs[0] else .tuple vs)) := by
      unfold results
      congr 1
    rw [e, Sem.run_bind, hrun]; rfl
  refine ⟨_, hres, ?_⟩
  by_cases h1 : ∃ r, fn.results.toList = [r]
  · obtain ⟨r, e⟩ := h1
    rw [e] at hrs ⊢
    obtain ⟨v, rfl⟩ : ∃ v, vs = [v] := by
      have := hrs.1
      match vs, this with
      | [v], _ => exact ⟨v, rfl⟩
    exact hrs.2 0 v _ rfl rfl
  · have hsz : ¬ vs.toArray.size = 1 := fun h2 => by
      have h3 : fn.results.toList.length = 1 := by have := hrs.1; simp at this h2; simp; omega
      obtain ⟨r, hr⟩ := List.length_eq_one_iff.1 h3
      exact h1 ⟨r, hr⟩
    rw [dif_neg hsz]
    have e : (resAll P σ fn.results.toList).v = .tup (fn.results.toList.map fun r => (resOne P σ r).v) := by
      unfold resAll
      split
      · rename_i r e; exact absurd ⟨r, e⟩ h1
      · rfl
    rw [e]
    exact rep_tup (by simpa using hrs)

def entry (args : List V) (M : Mem) (K : Toks) : St := { get := fun t => args.getD t (.tup []), M := M, K := K, cnt := fun _ => 0 }
/-- What must hold where the function ends. -/
def fin (P : Program) (fn : Func) (Q : V → Mem → Toks → Prop) : Post := fun e σ => match e with
  | .normal | .ret => (resAll P σ fn.results.toList).pre ∧ ∃ M' K', (∀ id, M' id ≠ none → M' id = σ.M id) ∧ (∀ t, K' t = true → σ.K t = true) ∧ (Q (resAll P σ fn.results.toList).v M' K' ∨ Q (resAll P σ fn.results.toList).v.erase M' K')
  | _ => False
theorem rel_entry {G : Ghost} {M : Mem} {K : Toks} {w : World} {q : Path} {fn : Func} {args : List V} {argsC : List Value} (hn : args.length ≤ fn.ntmps) (hs : Sim G M K w) (hf : Fresh q G) (hl : RepL G argsC args) :
    Rel fn.ntmps q [] G (entry args M K) { tmps := argsC.toArray ++ Array.replicate (fn.ntmps - argsC.toArray.size) undef, defers := [] } w := by
  have hlen := hl.1
  refine ⟨by simp; omega, fun t v hv => ?_, fun t ht => ?_, rfl, hs, fun k c id hk hc hid => hf id ((show q <:+ c :: k :: q from ⟨[c, k], rfl⟩).trans hid), 0, fun c id hc hid => hf id ((show q <:+ c :: 0 :: q from ⟨[c, 0], rfl⟩).trans hid)⟩
  · simp only [entry]
    rw [Array.getElem?_append] at hv
    split at hv
    · rename_i hlt
      have hlt' : t < args.length := by simp at hlt; omega
      exact hl.2 t v _ (by simpa using hv) (by simp [List.getD, hlt'])
    · rename_i hlt
      have hge : args.length ≤ t := by simp at hlt; omega
      rw [Array.getElem?_replicate] at hv
      split at hv
      · cases hv
        rw [List.getD_eq_getElem?_getD, List.getElem?_eq_none hge]
        exact rep_tup (.nil G)
      · cases hv
  · simp only [entry]
    rw [List.getD_eq_getElem?_getD, List.getElem?_eq_none (by omega)]; rfl
theorem Sim.putObj {G : Ghost} {M : Mem} {K : Toks} {w : World} (h : Sim G M K w) {D : Nat} {o : Obj} (hD : w.heap[D]? = some o) (ho : o.isCells = false) (o' : Obj) : Sim G M K (w.putObj D o') := by
  have hne : ∀ (b : Nat) arr T f, w.heap[b]? = some (.cells arr T f) → b ≠ D := fun b arr T f hb e => by subst e; rw [hD] at hb; cases hb; cases ho
  refine ⟨fun b o v hf => cell_kept (h.fx b o v hf) (grownBy_putObj' w D o') (fun r e => by cases e; exact ⟨_, hD, ho⟩), fun id cs hm => ?_, h.mp, h.inj, fun t hk => ?_, h.tinj⟩
  · obtain ⟨b, arr, T, hl, hh, hr, hf⟩ := h.box id cs hm
    exact ⟨b, arr, T, hl, (World.putObj_heap_other (hne _ _ _ _ hh)).trans hh, hr, hf⟩
  · obtain ⟨g, cap, s, n, arr, T, htl, hh, ha, hn, hx, hb⟩ := h.tok t hk
    exact ⟨g, cap, s, n, arr, T, htl, (World.putObj_heap_other (hne _ _ _ _ hh)).trans hh, ha, hn, hx, hb⟩
theorem Rel.putObj {ds : List Deferred} {G : Ghost} {a : Act} {w : World} (h : Rel N p ds G σ a w) {D : Nat} {o : Obj} (hD : w.heap[D]? = some o) (ho : o.isCells = false) (o' : Obj) : Rel N p ds G σ a (w.putObj D o') :=
  ⟨h.n, h.tm, h.rng, h.df, h.sim.putObj hD ho o', h.fr, h.hid⟩
theorem Tr.putObj {G0 G : Ghost} {M0 M : Mem} {K0 K : Toks} {w0 w : World} (h : Tr p G0 M0 K0 w0 G M K w) {D : Nat} (hD : w0.heap.size ≤ D) (o' : Obj) : Tr p G0 M0 K0 w0 G M K (w.putObj D o') :=
  ⟨h.le, h.fr, h.up.os, h.up.tape, h.up.output, by rw [World.putObj_size]; exact h.up.size, fun b hb hn => (World.putObj_heap_other (by omega)).trans (h.up.keep b hb hn), h.up.wr, h.up.fxs⟩
theorem leaves {q : Path} {ds' : List Deferred} {G G' : Ghost} {M : Mem} {K : Toks} {w : World} {a' : Act} {fn : Func} {R : Ending → World → Prop} : ∀ (Ds : List Nat) (w' : World), Rel N p ds' G' σ a' w' → Tr q G M K w G' σ.M σ.K w' → Ds.Pairwise (· ≠ ·) →
    (∀ D ∈ Ds, w.heap.size ≤ D ∧ w'.heap[D]? = some (.deferred (some []))) → (∀ w2, Rel N p ds' G' σ a' w2 → Tr q G M K w G' σ.M σ.K w2 → ∃ v, (results fn a'.tmps).run P w2 = .ok v w2 ∧ R (.returned v) w2) →
    LeavesInM (Fr none) 0 P fn a'.tmps R (Ds.map mark) .returning w'
  | [], w', hR, ht, _, _, h => h w' hR ht
  | D :: Ds, w', hR, ht, hp, hD, h => by
    obtain ⟨h1, h2⟩ := hD D (by simp)
    obtain ⟨p1, p2⟩ := List.pairwise_cons.1 hp
    refine ⟨by simp, .inl ⟨D, _, rfl, run_takeDeferred h2, leaves Ds _ (hR.putObj h2 rfl _) (ht.putObj h1 _) p2 (fun E hE => ?_) h⟩⟩
    exact ⟨(hD E (by simp [hE])).1, (World.putObj_heap_other (fun e => p1 E hE e.symm)).trans (hD E (by simp [hE])).2⟩
theorem ctr_of_T {f : FuncId} {fn : Func} {c : Code} (hf : P.funcs[f]? = some fn) (hb : fn.body = some c) {args : List V} (hn : args.length ≤ fn.ntmps) {q : Path} {M : Mem} {K : Toks} {Q : V → Mem → Toks → Prop}
    (h : (∀ id, q <:+ id → M id = none) → (∀ id, q <:+ id → K id = false) → T P none fn.ntmps q c (entry args M K) (fin P fn Q)) : Ctr P f q args M K Q := by
  intro G w argsC hs hfr hl
  have hR := rel_entry (fn := fn) hn hs hfr hl
  have hM : ∀ id, q <:+ id → M id = none := fun id hid => by
    cases hm : M id with
    | none => rfl
    | some b => obtain ⟨b', hl, _⟩ := hs.box_lt (id := id) (by rw [hm]; simp); rw [(hfr id hid).1] at hl; cases hl
  have hK : ∀ id, q <:+ id → K id = false := fun id hid => K_fresh hs (hfr id hid).2
  refine calls_of (ro := none) (n := 0) (callsIn_of_wp_marks hf hb trivial (wpIn_mono (h hM hK [] G _ w hR) ?_))
  rintro e a' w' ⟨ds', G', σ', ⟨Ds, hds, hpw, hD⟩, ht, hR', hq⟩
  have main : ∀ (hq : (resAll P σ' fn.results.toList).pre ∧ ∃ M' K', (∀ id, M' id ≠ none → M' id = σ'.M id) ∧ (∀ t, K' t = true → σ'.K t = true) ∧ (Q (resAll P σ' fn.results.toList).v M' K' ∨ Q (resAll P σ' fn.results.toList).v.erase M' K')),
      LeavesInM (Fr none) 0 P fn a'.tmps (fun e w' => ∃ G2 M2 K2 v2 x, e = .returned v2 ∧ Rep G2 v2 x ∧ Sim G2 M2 K2 w' ∧ Tr q G M K w G2 M2 K2 w' ∧ Q x M2 K2) a'.defers .returning w' := by
    rintro ⟨hp, M', K', h1, h2, h3⟩
    rw [hR'.df, hds, List.append_nil]
    refine leaves Ds w' hR' ht hpw hD fun w2 hR2 ht2 => ?_
    obtain ⟨v, hv, hr⟩ := res_all (P := P) hR2 fn hp
    refine ⟨v, hv, G', M', K', v, ?_⟩
    have hs' := hR2.sim.forget h1 h2
    have ht' := ht2.trans (Tr.forget q w2 h1 h2)
    rcases h3 with h3 | h3
    · exact ⟨_, rfl, hr, hs', ht', h3⟩
    · exact ⟨_, rfl, rep_erase hr, hs', ht', h3⟩
  cases e with
  | normal => exact main hq
  | ret => exact main hq
  | _ => exact hq.elim

def noM : Mem := fun _ => none
def noK : Toks := fun _ => false
/-- A function that knows of no other memory leaves it alone. -/
theorem frame_rule {f : FuncId} {q : Path} {args : List V} {Q : V → Toks → Prop} (h : Ctr P f q args noM noK fun x M' K' => M' = noM ∧ Q x K') (hQ : ∀ x K', Q x K' → ∀ t, K' t = true → q <:+ t) (M : Mem) (K : Toks) :
    Ctr P f q args M K fun x M' K' => M' = M ∧ ∃ K1, Q x K1 ∧ K' = fun t => K1 t || K t := by
  intro G w argsC hs hfr hl
  have hs0 : Sim G noM noK w := hs.forget (fun id h => absurd rfl h) (fun t h => by cases h)
  refine (h G w argsC hs0 hfr hl).mono ?_
  rintro e w' ⟨G', M', K1, v, x, rfl, hr, hs', ht, rfl, hq⟩
  have hnw : ∀ b, ¬ Wr G noM noK b := fun b hb => by
    rcases hb with ⟨id, hm, _⟩ | ⟨t, y, hk, _⟩
    · exact hm rfl
    · cases hk
  have hold : ∀ b, b < w.heap.size → w'.heap[b]? = w.heap[b]? := fun b hb => ht.up.keep b hb (hnw b)
  have hlocq : ∀ id b, M id ≠ none → G'.loc id = some b → G.loc id = some b := fun id b hm hl => by
    obtain ⟨b', hl', _⟩ := hs.box_lt hm
    rw [ht.le.loc id b' hl'] at hl; cases hl; exact hl'
  have hKq : ∀ t, K t = true → ¬ q <:+ t := fun t hk hqt => by rw [K_fresh hs (hfr t hqt).2] at hk; cases hk
  have hnewtok : ∀ t g y, K1 t = true → G'.tl t = some (g, y) → ¬ g < w.heap.size := fun t g y hk htl hlt => hnw g (ht.up.wr g hlt (.inr ⟨t, y, hk, htl⟩))
  refine ⟨G', M, fun t => K1 t || K t, v, x, rfl, hr, ?_, ?_, rfl, K1, hq, rfl⟩
  · refine ⟨hs'.fx, fun id cs hm => ?_, hs.mp, fun id id' b hm hm' hl hl' => hs.inj id id' b hm hm' (hlocq id b hm hl) (hlocq id' b hm' hl'), fun t hk => ?_, fun t t' g y y' hk hk' h1 h2 => ?_⟩
    · obtain ⟨b, arr, T, hl, hh, hrr, hff⟩ := hs.box id cs hm
      have hlt := lt_of_heap hh
      exact ⟨b, arr, T, ht.le.loc id b hl, (hold b hlt).trans hh, hrr.mono ht.le, fun o => by rw [ht.up.fxs b o hlt (hnw b)]; exact hff o⟩
    · cases hk1 : K1 t with
      | true =>
        obtain ⟨g, cap, s, n, arr, T, htl, hh, ha, hn, hx, _⟩ := hs'.tok t hk1
        refine ⟨g, cap, s, n, arr, T, htl, hh, ha, hn, hx, fun id hm hl => ?_⟩
        obtain ⟨b', hl', hlt⟩ := hs.box_lt hm
        rw [ht.le.loc id b' hl'] at hl; cases hl
        exact hnewtok t g _ hk1 htl hlt
      | false =>
        simp only [hk1, Bool.false_or] at hk
        obtain ⟨g, cap, s, n, arr, T, htl, hh, ha, hn, hx, hb⟩ := hs.tok t hk
        have hlt := lt_of_heap hh
        exact ⟨g, cap, s, n, arr, T, ht.le.tl t _ htl, (hold g hlt).trans hh, ha, hn, fun o ho => by rw [ht.up.fxs g o hlt (hnw g)]; exact hx o ho, fun id hm hl => hb id hm (hlocq id g hm hl)⟩
    · have old : ∀ u y, K u = true → G'.tl u = some (g, y) → G.tl u = some (g, y) ∧ g < w.heap.size := fun u y hu hy => by
        obtain ⟨g0, cap, s, n, arr, T, htl, hh, _⟩ := hs.tok u hu
        rw [ht.le.tl u _ htl] at hy; cases hy; exact ⟨htl, lt_of_heap hh⟩
      simp only [Bool.or_eq_true] at hk hk'
      rcases hk with hk | hk <;> rcases hk' with hk' | hk'
      · exact hs'.tinj t t' g y y' hk hk' h1 h2
      · exact absurd (old t' y' hk' h2).2 (hnewtok t g y hk h1)
      · exact absurd (old t y hk h1).2 (hnewtok t' g y' hk' h2)
      · exact hs.tinj t t' g y y' hk hk' (old t y hk h1).1 (old t' y' hk' h2).1
  · refine ⟨ht.le, ht.fr, ht.up.os, ht.up.tape, ht.up.output, ht.up.size, fun b hb _ => hold b hb, fun b hb hw => ?_, fun b o hb _ => ht.up.fxs b o hb (hnw b)⟩
    rcases hw with ⟨id, hm, hl⟩ | ⟨t, y, hk, htl⟩
    · exact .inl ⟨id, hm, hlocq id b hm hl⟩
    · simp only [Bool.or_eq_true] at hk
      rcases hk with hk | hk
      · exact absurd hb (hnewtok t b y hk htl)
      · obtain ⟨g0, cap, s, n, arr, T, htl0, _⟩ := hs.tok t hk
        rw [ht.le.tl t _ htl0] at htl; cases htl
        exact .inr ⟨t, _, hk, htl0⟩

/-- A pure function, out of its walk. -/
theorem pure_of_T {f : FuncId} {fn : Func} {c : Code} (hf : P.funcs[f]? = some fn) (hb : fn.body = some c) {args : List V} (hn : args.length ≤ fn.ntmps) {r : V}
    (h : ∀ q, T P none fn.ntmps q c (entry args noM noK) (fin P fn fun x M' K' => x = r ∧ M' = noM ∧ K' = noK)) : ∀ q M K, Ctr P f q args M K fun x M' K' => x = r ∧ M' = M ∧ K' = K := by
  intro q M K
  have h1 : Ctr P f q args noM noK fun x M' K' => M' = noM ∧ (x = r ∧ K' = noK) := ctr_of_T hf hb hn fun _ _ => (h q).mono fun e σ hq => by
    cases e <;> first | exact hq | (obtain ⟨hp, M', K', a, b, c⟩ := hq; exact ⟨hp, M', K', a, b, c.imp (fun ⟨x, y, z⟩ => ⟨y, x, z⟩) (fun ⟨x, y, z⟩ => ⟨y, x, z⟩)⟩)
  have h2 := frame_rule (Q := fun x K' => x = r ∧ K' = noK) h1 (fun x K' ⟨_, hk⟩ t ht => by subst hk; cases ht) M K
  intro G w argsC hs hfr hl
  refine (h2 G w argsC hs hfr hl).mono ?_
  rintro e w' ⟨G', M', K', v, x, he, hr, hs', ht, rfl, K1, ⟨rfl, rfl⟩, rfl⟩
  have : (fun t => noK t || K t) = K := by funext t; rfl
  rw [this] at hs' ht
  exact ⟨G', M', K, v, x, he, hr, hs', ht, rfl, rfl, rfl⟩
theorem own_of_T {f : FuncId} {fn : Func} {c : Code} (hf : P.funcs[f]? = some fn) (hb : fn.body = some c) {args : List V} (hn : args.length ≤ fn.ntmps) {s : Nat} {els : List (List V)}
    (h : ∀ q, T P none fn.ntmps q c (entry args noM noK) (fin P fn fun x M' K' => M' = noM ∧ ∃ t, x = .sl els (.own t s) ∧ q <:+ t ∧ K' = upd noK t true)) :
    ∀ q M K, Ctr P f q args M K fun x M' K' => M' = M ∧ ∃ t, x = .sl els (.own t s) ∧ q <:+ t ∧ K' = upd K t true := by
  intro q M K
  have h1 : Ctr P f q args noM noK fun x M' K' => M' = noM ∧ (∃ t, x = .sl els (.own t s) ∧ q <:+ t ∧ K' = upd noK t true) := ctr_of_T hf hb hn fun _ _ => h q
  have h2 := frame_rule (Q := fun x K' => ∃ t, x = .sl els (.own t s) ∧ q <:+ t ∧ K' = upd noK t true) h1 (fun x K' ⟨t, _, hq, hk⟩ u hu => by
    subst hk
    by_cases e : u = t
    · subst e; exact hq
    · rw [upd_ne _ _ e] at hu; cases hu) M K
  intro G w argsC hs hfr hl
  refine (h2 G w argsC hs hfr hl).mono ?_
  rintro e w' ⟨G', M', K', v, x, he, hr, hs', ht, rfl, K1, ⟨t, rfl, hq, rfl⟩, rfl⟩
  refine ⟨G', M', _, v, _, he, hr, hs', ht, rfl, t, rfl, hq, ?_⟩
  funext u
  by_cases e : u = t
  · subst e; simp [upd_same]
  · simp only [upd_ne _ _ e]; rfl

end
end Go.Proofs.Ytiippmhlkcbjmaa.Ax
