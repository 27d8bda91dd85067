/- Abstract execution, part L: statements; functions; what a function without memory of others does. -/
import Derived.Test.YtaacfmakfkaddaaDoorAxK
import Derived.RangeFuncOwn
import Derived.OrdersIn
set_option linter.unusedVariables false
set_option linter.unusedSimpArgs false
namespace Go.Proofs.YtaacfmakfkaddaaDoor.Ax
section
open Go

section
variable {P : Program} {E : Env} {N : Nat} {p : Path}

/-! ### The fence -/
def Fr (ro : Option Nat) : Fence := { Fence.wide with round := ro }
theorem callsIn_of {ro : Option Nat} {n : Nat} {f : FuncId} {args : Array Value} {w : World} {R : Ending → World → Prop} (h : Calls P f args w R) : CallsIn (Fr ro) n P f args w R := (callsIn_wide (n := n)).2 h
theorem calls_of {ro : Option Nat} {n : Nat} {f : FuncId} {args : Array Value} {w : World} {R : Ending → World → Prop} (h : CallsIn (Fr ro) n P f args w R) : Calls P f args w R := (callsIn_wide (n := n)).1 h
theorem rowsIn_of {ro : Option Nat} {n : Nat} {row : String} {args : Array Value} {w : World} {R : Value → World → Prop} (h : Rows P row args w R) : RowsIn (Fr ro) n P row args w R :=
  fun c cs _ => let ⟨v, w', r, s⟩ := h c cs; ⟨v, w', r, stepsIn_wide.2 s⟩
theorem upon_in {ro : Option Nat} {o : Oper} {a : Act} {next next' : Act → World → Prop} {Q : Exit → Act → World → Prop} (hn : ∀ a w, next a w → next' a w) : ∀ r, o.upon P a next Q r → o.uponIn (Fr ro) 0 P a next' Q r
  | .ok (.value v) w', h => hn _ _ h
  | .ok .skip w', h => hn _ _ h
  | .ok (.defer d) w', h => hn _ _ h
  | .ok (.enter f args) w', h => ⟨fun hd => by simp [Fr, Fence.wide] at hd, callsIn_of (Calls.mono h fun e w h => by cases e <;> first | exact hn _ _ h | exact h)⟩
  | .ok (.row row args) w', h => ⟨fun hd => by simp [Fr, Fence.wide] at hd, rowsIn_of (Rows.mono h fun v w h => hn _ _ h)⟩
  | .ok (.round l f tmps assign body) w', h => h.elim
  | .halt (.panic v) w', h => h
def noDefer (ops : Array Oper) : Bool := ops.toList.all fun o => match o.op with | .defer _ => false | _ => true
theorem wpOps_in {ro : Option Nat} {ops : Array Oper} {Q : Exit → Act → World → Prop} (hq : ∀ a w, ¬ Q .outgrown a w) (hd : noDefer ops = true) : ∀ (l : List Nat) (a : Act) (w : World), wpOps P ops Q l a w → wpOpsIn (Fr ro) 0 P ops Q l a w
  | [], a, w, h => h
  | i :: l, a, w, h => by
    simp only [wpOps] at h
    simp only [wpOpsIn]
    cases ho : ops[i]? with
    | none => rw [ho] at h; exact wpOps_in hq hd l a w h
    | some o =>
      rw [ho] at h
      simp only at h ⊢
      split at h
      · rename_i hw
        rw [if_pos hw]
        rcases h with h | ⟨_, a', w', h⟩
        · refine ⟨fun _ _ => trivial, ?_⟩
          have hnd : ∀ c, o.op ≠ .defer c := fun c hc => by
            have := List.all_eq_true.1 hd o (by simpa using Array.mem_of_getElem? ho)
            rw [hc] at this; cases this
          rw [Oper.semAt_eq _ _ _ hnd]
          exact upon_in (fun a w h => wpOps_in hq hd l a w h) _ h
        · exact absurd h (hq a' w')
      · rename_i hw
        rw [if_neg hw]
        exact ⟨fun _ _ => trivial, wpOps_in hq hd l _ w h⟩

/-! ### Marks -/
def mark (D : Nat) : Deferred := { target := .collected D, args := #[] }
def Mk (w : World) (ds ds' : List Deferred) (w' : World) : Prop := ∃ Ds : List Nat, ds' = Ds.map mark ++ ds ∧ Ds.Pairwise (· ≠ ·) ∧ ∀ D ∈ Ds, w.heap.size ≤ D ∧ w'.heap[D]? = some (.deferred (some []))
theorem Mk.refl (w : World) (ds : List Deferred) (w' : World) : Mk w ds ds w' := ⟨[], rfl, .nil, fun D h => by simp at h⟩
theorem Mk.trans {w w1 w2 : World} {ds ds1 ds2 : List Deferred} (h : Mk w ds ds1 w1) (k : Mk w1 ds1 ds2 w2) (hs : w.heap.size ≤ w1.heap.size) (hk : ∀ (D : Nat) (o : Obj), w1.heap[D]? = some o → o.isCells = false → w2.heap[D]? = some o) : Mk w ds ds2 w2 := by
  obtain ⟨Ds, rfl, hp, hD⟩ := h
  obtain ⟨Es, rfl, hq, hE⟩ := k
  refine ⟨Es ++ Ds, by simp, List.pairwise_append.2 ⟨hq, hp, fun x hx y hy e => ?_⟩, fun D hm => ?_⟩
  · subst e
    have h1 := (hE x hx).1
    have h2 := lt_of_heap (hD x hy).2
    omega
  · rcases List.mem_append.1 hm with hm | hm
    · exact ⟨Nat.le_trans hs (hE D hm).1, (hE D hm).2⟩
    · exact ⟨(hD D hm).1, hk D _ (hD D hm).2 rfl⟩
/-- What holds no cells lies as it lay. -/
theorem keep_others {G G' : Ghost} {M M' : Mem} {K K' : Toks} {w w' : World} (hs : Sim G M K w) (ht : Tr p G M K w G' M' K' w') (D : Nat) (o : Obj) (hD : w.heap[D]? = some o) (ho : o.isCells = false) : w'.heap[D]? = some o := by
  rw [ht.up.keep D (lt_of_heap hD) ?_, hD]
  rintro (⟨id, hm, hl⟩ | ⟨t, x, hk, htl⟩)
  · cases hM : M id with
    | none => exact hm hM
    | some bx =>
      cases bx with
      | cells cs =>
        obtain ⟨b, arr, T, hb, hh, _⟩ := hs.box id cs hM
        rw [hl] at hb; cases hb
        rw [hD] at hh; cases hh; cases ho
      | mp es => exact hs.mp id es hM
  · obtain ⟨g, cap, s, n, arr, T, h1, hh, _⟩ := hs.tok t hk
    rw [htl] at h1; cases h1
    rw [hD] at hh; cases hh; cases ho

/-! ### Statements -/
abbrev Post := Exit → St → Prop
def Aft (N : Nat) (p : Path) (ds : List Deferred) (G : Ghost) (σ : St) (w : World) (Q : Post) (e : Exit) (a' : Act) (w' : World) : Prop :=
  ∃ ds' G' σ', Mk w ds ds' w' ∧ Tr p G σ.M σ.K w G' σ'.M σ'.K w' ∧ Rel N p ds' G' σ' a' w' ∧ Q e σ'
/-- From the state σ the code comes to Q. -/
def T (P : Program) (ro : Option Nat) (N : Nat) (p : Path) (c : Code) (σ : St) (Q : Post) : Prop :=
  ∀ ds G a w, Rel N p ds G σ a w → c.wpIn (Fr ro) 0 P (Aft N p ds G σ w Q) a w
def nx (K : St → Prop) (Q : Post) : Post
  | .normal, σ => K σ
  | e, σ => Q e σ
def blk (id : Nat) (Q : Post) : Post
  | .exit id', σ => if id' = id then Q .normal σ else Q (.exit id') σ
  | e, σ => Q e σ
variable {σ : St} {Q : Post} {ro : Option Nat}

theorem Aft.here {ds : List Deferred} {G : Ghost} {a : Act} {w : World} {e : Exit} (hR : Rel N p ds G σ a w) (h : Q e σ) : Aft N p ds G σ w Q e a w := ⟨ds, G, σ, .refl _ _ _, .refl _ _ _ _ _, hR, h⟩
theorem Aft.trans {ds ds1 : List Deferred} {G G1 : Ghost} {σ1 : St} {a1 a2 : Act} {w w1 w2 : World} {e : Exit} (hR : Rel N p ds1 G1 σ1 a1 w1) (hm : Mk w ds ds1 w1) (ht : Tr p G σ.M σ.K w G1 σ1.M σ1.K w1) (h : Aft N p ds1 G1 σ1 w1 Q e a2 w2) : Aft N p ds G σ w Q e a2 w2 := by
  obtain ⟨ds2, G2, σ2, h1, h2, h3, h4⟩ := h
  exact ⟨ds2, G2, σ2, Mk.trans hm h1 ht.up.size (keep_others hR.sim h2), ht.trans h2, h3, h4⟩
theorem T.mono {c : Code} {Q' : Post} (h : T P ro N p c σ Q) (hq : ∀ e σ, Q e σ → Q' e σ) : T P ro N p c σ Q' :=
  fun ds G a w hR => wpIn_mono (h ds G a w hR) fun e a' w' ⟨ds', G', σ', h1, h2, h3, h4⟩ => ⟨ds', G', σ', h1, h2, h3, hq _ _ h4⟩
theorem T.skip (h : Q .normal σ) : T P ro N p .skip σ Q := fun ds G a w hR => wpIn_skip (.here hR h)
theorem T.exit {id : Nat} (h : Q (.exit id) σ) : T P ro N p (.exit id) σ Q := fun ds G a w hR => wpIn_exit (.here hR h)
theorem T.ret (h : Q .ret σ) : T P ro N p .ret σ Q := fun ds G a w hR => wpIn_ret (.here hR h)
theorem T.seq {x y : Code} (h : ∀ K : St → Prop, (∀ σ', T P ro N p y σ' Q → K σ') → T P ro N p x σ (nx K Q)) : T P ro N p (.seq x y) σ Q := by
  intro ds G a w hR
  refine wpIn_seq (wpIn_mono (h (fun σ' => T P ro N p y σ' Q) (fun _ h => h) ds G a w hR) ?_)
  rintro e a' w' ⟨ds', G', σ', h0, h1, h2, h3⟩
  cases e with
  | normal => exact wpIn_mono (h3 ds' G' a' w' h2) fun e2 a2 w2 h => h.trans h2 h0 h1
  | _ => exact ⟨ds', G', σ', h0, h1, h2, h3⟩
/-- It goes on behind, or it does not end. -/
def Here (N : Nat) (p : Path) (ds : List Deferred) (G : Ghost) (σ : St) (w : World) (Q : Post) (e : Exit) (a' : Act) (w' : World) : Prop := e = .normal ∧ Aft N p ds G σ w Q .normal a' w'
theorem Here.aft {ds : List Deferred} {G : Ghost} {a' : Act} {w w' : World} {e : Exit} (h : Here N p ds G σ w Q e a' w') : Aft N p ds G σ w Q e a' w' := by obtain ⟨rfl, h⟩ := h; exact h
theorem T.region (hE : EnvOk P E) {id : Nat} {ops : Array Oper} (hd : noDefer ops = true) (h : runOps P E N p ops ops.toList σ (Q .normal)) : T P ro N p (.region id ops false) σ Q := by
  intro ds G a w hR
  refine wpIn_mono (wpIn_region (wpOps_in (Q := Here N p ds G σ w Q) (fun a w h => by cases h.1) hd _ _ _ ?_)) fun e a w h => h.aft
  refine runOps_wp hE ops _ ops.toList G σ a w ?_ hR h fun G' σ' a' w' ht hR' hq => ⟨rfl, ds, G', σ', .refl _ _ _, ht, hR', hq⟩
  apply List.ext_getElem?
  intro i
  simp only [List.getElem?_map]
  by_cases hi : i < ops.size
  · simp [List.getElem?_range hi, hi]
  · rw [List.getElem?_eq_none (by simp; omega), List.getElem?_eq_none (by simp; omega)]; rfl
theorem range_get {α : Type} : ∀ l : List α, (List.range l.length).filterMap (fun i => l[i]?) = l
  | [] => rfl
  | x :: l => by
    have := range_get l
    simp [List.range_succ_eq_map, List.filterMap_map, Function.comp_def, this]
theorem least {p : Nat → Prop} (h : ∃ n, p n) : ∃ n, p n ∧ ∀ m, p m → n ≤ m := by
  obtain ⟨n, hn⟩ := h
  induction n using Nat.strongRecOn with
  | _ n ih =>
    by_cases hx : ∃ m, m < n ∧ p m
    · obtain ⟨m, hm, hp⟩ := hx; exact ih m hm hp
    · exact ⟨n, hn, fun m hm => Nat.le_of_not_lt fun hlt => hx ⟨m, hlt, hm⟩⟩
theorem T.draw (hE : EnvOk P E) (hm : P.follows .mixedOrders = true) {id : Nat} {ops : Array Oper} (hd : noDefer ops = true) (hok : okOrd E ops = true) (h : runOps P E N p ops ops.toList σ (Q .normal)) : T P ro N p (.region id ops true) σ Q := by
  intro ds G a w hR
  have hR' : Rel N p ds G σ a w.drew := ⟨hR.n, hR.tm, hR.rng, hR.df, hR.sim.drew, hR.fr, hR.hid⟩
  have hleft : left ops.size (Array.replicate ops.size false) = List.range ops.size := by
    unfold left
    refine List.filter_eq_self.2 fun i hi => ?_
    have := List.mem_range.1 hi
    simp [Array.getD_eq_getD_getElem?, this]
  refine wpIn_mono (wpIn_region_draw fun t => wpOps_in (Q := Here N p ds G σ w Q) (fun a w h => by cases h.1) hd _ _ _ ?_) fun e a w h => h.aft
  simp only [Region.schedule, hm, Bool.true_or, if_true]
  refine wpAny_sound ops.size t _ a _ (runAny hE ops hok (Kf := Q .normal) ops.size _ G σ a w.drew (by simp) (by rw [hleft]; simp) (fun z hz => ?_) hR' ?_ fun G' σ' a' w' ht hR2 hq => ⟨rfl, ds, G', σ', .refl _ _ _, (Tr.drew p G σ.M σ.K w).trans ht, hR2, hq⟩)
  · simp only [Array.getD_eq_getD_getElem?, Array.getElem?_replicate] at hz
    split at hz <;> cases hz
  · rw [hleft]
    have : (List.range ops.size).filterMap (fun i => ops[i]?) = ops.toList := by
      have := range_get ops.toList
      simpa using this
    rw [this]; exact h
theorem T.cond {c : Operand} {x y : Code} {b : Bool} (hb : σ.ev c = .bool b) (ht : b = true → T P ro N p x σ Q) (hf : b = false → T P ro N p y σ Q) : T P ro N p (.cond c x y) σ Q := by
  intro ds G a w hR
  have h1 := hR.eval c
  rw [hb] at h1
  have h2 : a.eval c = .bool b := by generalize a.eval c = z at h1; cases h1; rfl
  exact wpIn_cond_split h2 (fun e => ht e ds G a w hR) (fun e => hf e ds G a w hR)
theorem T.block {id : Nat} {c : Code} (h : T P ro N p c σ (blk id Q)) : T P ro N p (.block id c) σ Q := by
  intro ds G a w hR
  refine wpIn_block (wpIn_mono (h ds G a w hR) ?_)
  rintro e a' w' ⟨ds', G', σ', h0, h1, h2, h3⟩
  cases e with
  | exit id' =>
    simp only [blk] at h3
    simp only [Exit.inBlock]
    split at h3
    · rename_i e; rw [if_pos e]; exact ⟨ds', G', σ', h0, h1, h2, h3⟩
    · rename_i e; rw [if_neg e]; exact ⟨ds', G', σ', h0, h1, h2, h3⟩
  | _ => exact ⟨ds', G', σ', h0, h1, h2, h3⟩
open Classical in
theorem T.loop {c : Code} (I : Nat → St → Prop) (n : Nat) (h0 : I n σ) (h : ∀ n σ', I n σ' → T P ro N p c σ' (nx (fun σ'' => ∃ m, m < n ∧ I m σ'') Q)) : T P ro N p (.loop c) σ Q := by
  intro ds G a w hR
  let J : Nat → Act → World → Prop := fun n a' w' => ∃ ds' G' σ', Mk w ds ds' w' ∧ Tr p G σ.M σ.K w G' σ'.M σ'.K w' ∧ Rel N p ds' G' σ' a' w' ∧ I n σ'
  let μ : Act → World → Nat := fun a' w' => if hx : ∃ n, J n a' w' then Classical.choose (least hx) else 0
  have hμ : ∀ a' w' m, J m a' w' → J (μ a' w') a' w' ∧ μ a' w' ≤ m := fun a' w' m hJ => by
    have hx : ∃ n, J n a' w' := ⟨m, hJ⟩
    simp only [μ, dif_pos hx]
    exact ⟨(Classical.choose_spec (least hx)).1, (Classical.choose_spec (least hx)).2 m hJ⟩
  refine wpIn_loop (fun a' w' => ∃ n, J n a' w') μ ⟨n, ds, G, σ, .refl _ _ _, .refl _ _ _ _ _, hR, h0⟩ ?_
  rintro a1 w1 ⟨m, hJ⟩
  obtain ⟨ds1, G1, σ1, m1, t1, R1, I1⟩ := (hμ a1 w1 m hJ).1
  refine wpIn_mono (h _ σ1 I1 ds1 G1 a1 w1 R1) ?_
  rintro e a2 w2 ha
  obtain ⟨ds2, G2, σ2, m2, t2, R2, hq⟩ := ha.trans R1 m1 t1
  cases e with
  | normal =>
    obtain ⟨k, hk, hI⟩ := hq
    have hJ2 : J k a2 w2 := ⟨ds2, G2, σ2, m2, t2, R2, hI⟩
    exact ⟨⟨k, hJ2⟩, Nat.lt_of_le_of_lt (hμ a2 w2 k hJ2).2 hk⟩
  | _ => exact ⟨ds2, G2, σ2, m2, t2, R2, hq⟩

/-! ### Functions -/
def resOne (P : Program) (σ : St) : ResultVar → R
  | .tmp t => ⟨True, σ.get t⟩
  | .cell a t => rLoad P σ.M t (σ.get a)
def resAll (P : Program) (σ : St) (rs : List ResultVar) : R := match rs with
  | [r] => resOne P σ r
  | rs => ⟨∀ r ∈ rs, (resOne P σ r).pre, .tup (rs.map fun r => (resOne P σ r).v)⟩
theorem res_one {ds : List Deferred} {G : Ghost} {a : Act} {w : World} (hR : Rel N p ds G σ a w) (r : ResultVar) (hp : (resOne P σ r).pre) :
    ∃ v, (match r with | .tmp t => pure (a.tmps.getD t undef) | .cell x t => do loadVar t (← asAddr (a.tmps.getD x undef)) : Sem Value).run P w = .ok v w ∧ Rep G v (resOne P σ r).v := by
  cases r with
  | tmp t => exact ⟨_, rfl, hR.eval (.tmp t)⟩
  | cell x t =>
    have hx : Rep G (a.tmps.getD x undef) (σ.get x) := hR.eval (.tmp x)
    obtain ⟨v, hv, hr⟩ := sv_load (P := P) hR.sim t hx hp
    refine ⟨v, ?_, hr⟩
    show (do loadVar t (← asAddr (a.tmps.getD x undef)) : Sem Value).run P w = .ok v w
    simp only [resOne] at hp
    generalize a.tmps.getD x undef = z at hx hv ⊢
    generalize σ.get x = y at hx hp
    cases hx with
    | ptr id off b hl => simpa [Instr.loadAt, Instr.sureAddr, asAddr] using hv
    | cptr b o cs off vs hfx hrep => simpa [Instr.loadAt, Instr.sureAddr, asAddr] using hv
    | _ => exact hp.elim
theorem res_list {ds : List Deferred} {G : Ghost} {a : Act} {w : World} (hR : Rel N p ds G σ a w) : ∀ (rs : List ResultVar), (∀ r ∈ rs, (resOne P σ r).pre) →
    ∃ vs, (rs.mapM (fun | .tmp t => pure (a.tmps.getD t undef) | .cell x t => do loadVar t (← asAddr (a.tmps.getD x undef)) : ResultVar → Sem Value)).run P w = .ok vs w ∧ RepL G vs (rs.map fun r => (resOne P σ r).v)
  | [], _ => ⟨[], by simp, .nil G⟩
  | r :: rs, hp => by
    obtain ⟨v, hv, hr⟩ := res_one (P := P) hR r (hp r (by simp))
    obtain ⟨vs, hvs, hrs⟩ := res_list hR rs fun r hr => hp r (by simp [hr])
    refine ⟨v :: vs, ?_, .cons hr hrs⟩
    rw [List.mapM_cons, Sem.run_bind]
    cases r <;> simp only at hv ⊢ <;> rw [hv] <;> simp only [Result.andThen_ok, Sem.run_bind, hvs, Sem.run_pure]
theorem res_all {ds : List Deferred} {G : Ghost} {a : Act} {w : World} (hR : Rel N p ds G σ a w) (fn : Func) (hp : (resAll P σ fn.results.toList).pre) : ∃ v, (results fn a.tmps).run P w = .ok v w ∧ Rep G v (resAll P σ fn.results.toList).v := by
  have hpre : ∀ r ∈ fn.results.toList, (resOne P σ r).pre := by
    unfold resAll at hp
    split at hp
    · rename_i r e; intro r' hr'; rw [e] at hr'; simp at hr'; subst hr'; exact hp
    · exact hp
  obtain ⟨vs, hvs, hrs⟩ := res_list (P := P) hR fn.results.toList hpre
  have hrun : (fn.results.mapM (fun | .tmp t => pure (a.tmps.getD t undef) | .cell x t => do loadVar t (← asAddr (a.tmps.getD x undef)) : ResultVar → Sem Value)).run P w = .ok vs.toArray w := by
    rw [Array.mapM_eq_mapM_toList, Sem.run_map, hvs]; rfl
  have hres : (results fn a.tmps).run P w = .ok (if h : vs.toArray.size = 1 then vs.toArray[0] else .tuple vs.toArray) w := by
    have e : results fn a.tmps = (do
      let vs ← fn.results.mapM (fun | .tmp t => pure (a.tmps.getD t undef) | .cell x t => do loadVar t (← asAddr (a.tmps.getD x undef)) : ResultVar → Sem Value)
      pure (if h : vs.size = 1 then vs[0] else .tuple vs)) := by
      unfold results
      congr 1
    rw [e, Sem.run_bind, hrun]; rfl
  refine ⟨_, hres, ?_⟩
  by_cases h1 : ∃ r, fn.results.toList = [r]
  · obtain ⟨r, e⟩ := h1
    rw [e] at hrs ⊢
    obtain ⟨v, rfl⟩ : ∃ v, vs = [v] := by
      have := hrs.1
      match vs, this with
      | [v], _ => exact ⟨v, rfl⟩
    exact hrs.2 0 v _ rfl rfl
  · have hsz : ¬ vs.toArray.size = 1 := fun h2 => by
      have h3 : fn.results.toList.length = 1 := by have := hrs.1; simp at this h2; simp; omega
      obtain ⟨r, hr⟩ := List.length_eq_one_iff.1 h3
      exact h1 ⟨r, hr⟩
    rw [dif_neg hsz]
    have e : (resAll P σ fn.results.toList).v = .tup (fn.results.toList.map fun r => (resOne P σ r).v) := by
      unfold resAll
      split
      · rename_i r e; exact absurd ⟨r, e⟩ h1
      · rfl
    rw [e]
    exact rep_tup (by simpa using hrs)

def entry (args : List V) (M : Mem) (K : Toks) : St := { get := fun t => args.getD t (.tup []), M := M, K := K, cnt := fun _ => 0 }
/-- What must hold where the function ends. -/
def fin (P : Program) (fn : Func) (Q : V → Mem → Toks → Prop) : Post := fun e σ => match e with
  | .normal | .ret => (resAll P σ fn.results.toList).pre ∧ ∃ M' K', (∀ id, M' id ≠ none → M' id = σ.M id) ∧ (∀ t, K' t = true → σ.K t = true) ∧ (Q (resAll P σ fn.results.toList).v M' K' ∨ Q (resAll P σ fn.results.toList).v.erase M' K')
  | _ => False
theorem rel_entry {G : Ghost} {M : Mem} {K : Toks} {w : World} {q : Path} {fn : Func} {args : List V} {argsC : List Value} (hn : args.length ≤ fn.ntmps) (hs : Sim G M K w) (hf : Fresh q G) (hl : RepL G argsC args) :
    Rel fn.ntmps q [] G (entry args M K) { tmps := argsC.toArray ++ Array.replicate (fn.ntmps - argsC.toArray.size) undef, defers := [] } w := by
  have hlen := hl.1
  refine ⟨by simp; omega, fun t v hv => ?_, fun t ht => ?_, rfl, hs, fun k c id hk hc hid => hf id ((show q <:+ c :: k :: q from ⟨[c, k], rfl⟩).trans hid), 0, fun c id hc hid => hf id ((show q <:+ c :: 0 :: q from ⟨[c, 0], rfl⟩).trans hid)⟩
  · simp only [entry]
    rw [Array.getElem?_append] at hv
    split at hv
    · rename_i hlt
      have hlt' : t < args.length := by simp at hlt; omega
      exact hl.2 t v _ (by simpa using hv) (by simp [List.getD, hlt'])
    · rename_i hlt
      have hge : args.length ≤ t := by simp at hlt; omega
      rw [Array.getElem?_replicate] at hv
      split at hv
      · cases hv
        rw [List.getD_eq_getElem?_getD, List.getElem?_eq_none hge]
        exact rep_tup (.nil G)
      · cases hv
  · simp only [entry]
    rw [List.getD_eq_getElem?_getD, List.getElem?_eq_none (by omega)]; rfl
theorem Sim.putObj {G : Ghost} {M : Mem} {K : Toks} {w : World} (h : Sim G M K w) {D : Nat} {o : Obj} (hD : w.heap[D]? = some o) (ho : o.isCells = false) (o' : Obj) : Sim G M K (w.putObj D o') := by
  have hne : ∀ (b : Nat) arr T f, w.heap[b]? = some (.cells arr T f) → b ≠ D := fun b arr T f hb e => by subst e; rw [hD] at hb; cases hb; cases ho
  refine ⟨fun b o v hf => cell_kept (h.fx b o v hf) (grownBy_putObj' w D o') (fun r e => by cases e; exact ⟨_, hD, ho⟩), fun id cs hm => ?_, h.mp, h.inj, fun t hk => ?_, h.tinj, h.tb⟩
  · obtain ⟨b, arr, T, hl, hh, hr⟩ := h.box id cs hm
    exact ⟨b, arr, T, hl, (World.putObj_heap_other (hne _ _ _ _ hh)).trans hh, hr⟩
  · obtain ⟨g, cap, s, n, arr, T, htl, hh, ha, hn, hx, hb⟩ := h.tok t hk
    exact ⟨g, cap, s, n, arr, T, htl, (World.putObj_heap_other (hne _ _ _ _ hh)).trans hh, ha, hn, hx, hb⟩
theorem Rel.putObj {ds : List Deferred} {G : Ghost} {a : Act} {w : World} (h : Rel N p ds G σ a w) {D : Nat} {o : Obj} (hD : w.heap[D]? = some o) (ho : o.isCells = false) (o' : Obj) : Rel N p ds G σ a (w.putObj D o') :=
  ⟨h.n, h.tm, h.rng, h.df, h.sim.putObj hD ho o', h.fr, h.hid⟩
theorem Tr.putObj {G0 G : Ghost} {M0 M : Mem} {K0 K : Toks} {w0 w : World} (h : Tr p G0 M0 K0 w0 G M K w) {D : Nat} (hD : w0.heap.size ≤ D) (o' : Obj) : Tr p G0 M0 K0 w0 G M K (w.putObj D o') :=
  ⟨h.le, h.fr, h.up.os, h.up.tape, h.up.output, by rw [World.putObj_size]; exact h.up.size, fun b hb hn => (World.putObj_heap_other (by omega)).trans (h.up.keep b hb hn), h.up.wr, h.up.fxs⟩
theorem leaves {q : Path} {ds' : List Deferred} {G G' : Ghost} {M : Mem} {K : Toks} {w : World} {a' : Act} {fn : Func} {R : Ending → World → Prop} : ∀ (Ds : List Nat) (w' : World), Rel N p ds' G' σ a' w' → Tr q G M K w G' σ.M σ.K w' → Ds.Pairwise (· ≠ ·) →
    (∀ D ∈ Ds, w.heap.size ≤ D ∧ w'.heap[D]? = some (.deferred (some []))) → (∀ w2, Rel N p ds' G' σ a' w2 → Tr q G M K w G' σ.M σ.K w2 → ∃ v, (results fn a'.tmps).run P w2 = .ok v w2 ∧ R (.returned v) w2) →
    LeavesInM (Fr none) 0 P fn a'.tmps R (Ds.map mark) .returning w'
  | [], w', hR, ht, _, _, h => h w' hR ht
  | D :: Ds, w', hR, ht, hp, hD, h => by
    obtain ⟨h1, h2⟩ := hD D (by simp)
    obtain ⟨p1, p2⟩ := List.pairwise_cons.1 hp
    refine ⟨by simp, .inl ⟨D, _, rfl, run_takeDeferred h2, leaves Ds _ (hR.putObj h2 rfl _) (ht.putObj h1 _) p2 (fun E hE => ?_) h⟩⟩
    exact ⟨(hD E (by simp [hE])).1, (World.putObj_heap_other (fun e => p1 E hE e.symm)).trans (hD E (by simp [hE])).2⟩
theorem ctr_of_T {f : FuncId} {fn : Func} {c : Code} (hf : P.funcs[f]? = some fn) (hb : fn.body = some c) {args : List V} (hn : args.length ≤ fn.ntmps) {q : Path} {M : Mem} {K : Toks} {Q : V → Mem → Toks → Prop}
    (h : (∀ id, q <:+ id → M id = none) → (∀ id, q <:+ id → K id = false) → T P none fn.ntmps q c (entry args M K) (fin P fn Q)) : Ctr P f q args M K Q := by
  intro G w argsC hs hfr hl
  have hR := rel_entry (fn := fn) hn hs hfr hl
  have hM : ∀ id, q <:+ id → M id = none := fun id hid => by
    cases hm : M id with
    | none => rfl
    | some b => obtain ⟨b', hl, _⟩ := hs.box_lt (id := id) (by rw [hm]; simp); rw [(hfr id hid).1] at hl; cases hl
  have hK : ∀ id, q <:+ id → K id = false := fun id hid => K_fresh hs (hfr id hid).2
  refine calls_of (ro := none) (n := 0) (callsIn_of_wp_marks hf hb trivial (wpIn_mono (h hM hK [] G _ w hR) ?_))
  rintro e a' w' ⟨ds', G', σ', ⟨Ds, hds, hpw, hD⟩, ht, hR', hq⟩
  have main : ∀ (hq : (resAll P σ' fn.results.toList).pre ∧ ∃ M' K', (∀ id, M' id ≠ none → M' id = σ'.M id) ∧ (∀ t, K' t = true → σ'.K t = true) ∧ (Q (resAll P σ' fn.results.toList).v M' K' ∨ Q (resAll P σ' fn.results.toList).v.erase M' K')),
      LeavesInM (Fr none) 0 P fn a'.tmps (fun e w' => ∃ G2 M2 K2 v2 x, e = .returned v2 ∧ Rep G2 v2 x ∧ Sim G2 M2 K2 w' ∧ Tr q G M K w G2 M2 K2 w' ∧ Q x M2 K2) a'.defers .returning w' := by
    rintro ⟨hp, M', K', h1, h2, h3⟩
    rw [hR'.df, hds, List.append_nil]
    refine leaves Ds w' hR' ht hpw hD fun w2 hR2 ht2 => ?_
    obtain ⟨v, hv, hr⟩ := res_all (P := P) hR2 fn hp
    refine ⟨v, hv, G', M', K', v, ?_⟩
    have hs' := hR2.sim.forget h1 h2
    have ht' := ht2.trans (Tr.forget q w2 h1 h2)
    rcases h3 with h3 | h3
    · exact ⟨_, rfl, hr, hs', ht', h3⟩
    · exact ⟨_, rfl, rep_erase hr, hs', ht', h3⟩
  cases e with
  | normal => exact main hq
  | ret => exact main hq
  | _ => exact hq.elim

def noM : Mem := fun _ => none
def noK : Toks := fun _ => false
/-- A function that knows of no other memory leaves it alone. -/
theorem frame_rule {f : FuncId} {q : Path} {args : List V} {Q : V → Toks → Prop} (h : Ctr P f q args noM noK fun x M' K' => M' = noM ∧ Q x K') (hQ : ∀ x K', Q x K' → ∀ t, K' t = true → q <:+ t) (M : Mem) (K : Toks) :
    Ctr P f q args M K fun x M' K' => M' = M ∧ ∃ K1, Q x K1 ∧ K' = fun t => K1 t || K t := by
  intro G w argsC hs hfr hl
  have hs0 : Sim G noM noK w := hs.forget (fun id h => absurd rfl h) (fun t h => by cases h)
  refine (h G w argsC hs0 hfr hl).mono ?_
  rintro e w' ⟨G', M', K1, v, x, rfl, hr, hs', ht, rfl, hq⟩
  have hnw : ∀ b, ¬ Wr G noM noK b := fun b hb => by
    rcases hb with ⟨id, hm, _⟩ | ⟨t, y, hk, _⟩
    · exact hm rfl
    · cases hk
  have hold : ∀ b, b < w.heap.size → w'.heap[b]? = w.heap[b]? := fun b hb => ht.up.keep b hb (hnw b)
  have hlocq : ∀ id b, M id ≠ none → G'.loc id = some b → G.loc id = some b := fun id b hm hl => by
    obtain ⟨b', hl', _⟩ := hs.box_lt hm
    rw [ht.le.loc id b' hl'] at hl; cases hl; exact hl'
  have hKq : ∀ t, K t = true → ¬ q <:+ t := fun t hk hqt => by rw [K_fresh hs (hfr t hqt).2] at hk; cases hk
  have hnewtok : ∀ t g y, K1 t = true → G'.tl t = some (g, y) → ¬ g < w.heap.size := fun t g y hk htl hlt => hnw g (ht.up.wr g hlt (.inr ⟨t, y, hk, htl⟩))
  refine ⟨G', M, fun t => K1 t || K t, v, x, rfl, hr, ?_, ?_, rfl, K1, hq, rfl⟩
  · refine ⟨hs'.fx, fun id cs hm => ?_, hs.mp, fun id id' b hm hm' hl hl' => hs.inj id id' b hm hm' (hlocq id b hm hl) (hlocq id' b hm' hl'), fun t hk => ?_, fun t t' g y y' hk hk' h1 h2 => ?_, hs'.tb⟩
    · obtain ⟨b, arr, T, hl, hh, hrr⟩ := hs.box id cs hm
      have hlt := lt_of_heap hh
      exact ⟨b, arr, T, ht.le.loc id b hl, (hold b hlt).trans hh, hrr.mono ht.le hl fun o => ht.up.fxs b o hlt (hnw b)⟩
    · cases hk1 : K1 t with
      | true =>
        obtain ⟨g, cap, s, n, arr, T, htl, hh, ha, hn, hx, _⟩ := hs'.tok t hk1
        refine ⟨g, cap, s, n, arr, T, htl, hh, ha, hn, hx, fun id hm hl => ?_⟩
        obtain ⟨b', hl', hlt⟩ := hs.box_lt hm
        rw [ht.le.loc id b' hl'] at hl; cases hl
        exact hnewtok t g _ hk1 htl hlt
      | false =>
        simp only [hk1, Bool.false_or] at hk
        obtain ⟨g, cap, s, n, arr, T, htl, hh, ha, hn, hx, hb⟩ := hs.tok t hk
        have hlt := lt_of_heap hh
        exact ⟨g, cap, s, n, arr, T, ht.le.tl t _ htl, (hold g hlt).trans hh, ha, hn, fun o ho => by rw [ht.up.fxs g o hlt (hnw g)]; exact hx o ho, fun id hm hl => hb id hm (hlocq id g hm hl)⟩
    · have old : ∀ u y, K u = true → G'.tl u = some (g, y) → G.tl u = some (g, y) ∧ g < w.heap.size := fun u y hu hy => by
        obtain ⟨g0, cap, s, n, arr, T, htl, hh, _⟩ := hs.tok u hu
        rw [ht.le.tl u _ htl] at hy; cases hy; exact ⟨htl, lt_of_heap hh⟩
      simp only [Bool.or_eq_true] at hk hk'
      rcases hk with hk | hk <;> rcases hk' with hk' | hk'
      · exact hs'.tinj t t' g y y' hk hk' h1 h2
      · exact absurd (old t' y' hk' h2).2 (hnewtok t g y hk h1)
      · exact absurd (old t y hk h1).2 (hnewtok t' g y' hk' h2)
      · exact hs.tinj t t' g y y' hk hk' (old t y hk h1).1 (old t' y' hk' h2).1
  · refine ⟨ht.le, ht.fr, ht.up.os, ht.up.tape, ht.up.output, ht.up.size, fun b hb _ => hold b hb, fun b hb hw => ?_, fun b o hb _ => ht.up.fxs b o hb (hnw b)⟩
    rcases hw with ⟨id, hm, hl⟩ | ⟨t, y, hk, htl⟩
    · exact .inl ⟨id, hm, hlocq id b hm hl⟩
    · simp only [Bool.or_eq_true] at hk
      rcases hk with hk | hk
      · exact absurd hb (hnewtok t b y hk htl)
      · obtain ⟨g0, cap, s, n, arr, T, htl0, _⟩ := hs.tok t hk
        rw [ht.le.tl t _ htl0] at htl; cases htl
        exact .inr ⟨t, _, hk, htl0⟩

/-- A pure function, out of its walk. -/
theorem pure_of_T {f : FuncId} {fn : Func} {c : Code} (hf : P.funcs[f]? = some fn) (hb : fn.body = some c) {args : List V} (hn : args.length ≤ fn.ntmps) {r : V}
    (h : ∀ q, T P none fn.ntmps q c (entry args noM noK) (fin P fn fun x M' K' => x = r ∧ M' = noM ∧ K' = noK)) : ∀ q M K, Ctr P f q args M K fun x M' K' => x = r ∧ M' = M ∧ K' = K := by
  intro q M K
  have h1 : Ctr P f q args noM noK fun x M' K' => M' = noM ∧ (x = r ∧ K' = noK) := ctr_of_T hf hb hn fun _ _ => (h q).mono fun e σ hq => by
    cases e <;> first | exact hq | (obtain ⟨hp, M', K', a, b, c⟩ := hq; exact ⟨hp, M', K', a, b, c.imp (fun ⟨x, y, z⟩ => ⟨y, x, z⟩) (fun ⟨x, y, z⟩ => ⟨y, x, z⟩)⟩)
  have h2 := frame_rule (Q := fun x K' => x = r ∧ K' = noK) h1 (fun x K' ⟨_, hk⟩ t ht => by subst hk; cases ht) M K
  intro G w argsC hs hfr hl
  refine (h2 G w argsC hs hfr hl).mono ?_
  rintro e w' ⟨G', M', K', v, x, he, hr, hs', ht, rfl, K1, ⟨rfl, rfl⟩, rfl⟩
  have : (fun t => noK t || K t) = K := by funext t; rfl
  rw [this] at hs' ht
  exact ⟨G', M', K, v, x, he, hr, hs', ht, rfl, rfl, rfl⟩
end
end
section
open Go

@[simp] theorem put_none (σ : St) (N : Nat) (v : V) : σ.put N none v = σ := rfl
@[simp] theorem put_get (σ : St) (N d : Nat) (v : V) (t : Nat) : (σ.put N (some d) v).get t = if t = d then (if d < N then v else σ.get t) else σ.get t := by
  unfold St.put
  by_cases h : d < N <;> by_cases e : t = d <;> simp [h, e]
attribute [simp] put_M put_K put_cnt
def St.boxed (σ : St) (p : Path) (d : Option Nat) (b : Box) : St := { σ with M := upd σ.M (nid σ.cnt p d) (some b), cnt := bump σ.cnt d }
def St.owned (σ : St) (p : Path) (d : Option Nat) (K0 : Toks) : St := { σ with K := upd K0 (nid σ.cnt p d) true, cnt := bump σ.cnt d }
def St.setM (σ : St) (M : Mem) : St := { σ with M := M }
def St.setMK (σ : St) (d : Option Nat) (M : Mem) (K : Toks) : St := { σ with M := M, K := K, cnt := bump σ.cnt d }
@[simp] theorem boxed_get (σ : St) (p : Path) (d : Option Nat) (b : Box) : (σ.boxed p d b).get = σ.get := rfl
@[simp] theorem boxed_M (σ : St) (p : Path) (d : Option Nat) (b : Box) : (σ.boxed p d b).M = upd σ.M (nid σ.cnt p d) (some b) := rfl
@[simp] theorem boxed_K (σ : St) (p : Path) (d : Option Nat) (b : Box) : (σ.boxed p d b).K = σ.K := rfl
@[simp] theorem boxed_cnt (σ : St) (p : Path) (d : Option Nat) (b : Box) : (σ.boxed p d b).cnt = bump σ.cnt d := rfl
@[simp] theorem owned_get (σ : St) (p : Path) (d : Option Nat) (K0 : Toks) : (σ.owned p d K0).get = σ.get := rfl
@[simp] theorem owned_M (σ : St) (p : Path) (d : Option Nat) (K0 : Toks) : (σ.owned p d K0).M = σ.M := rfl
@[simp] theorem owned_K (σ : St) (p : Path) (d : Option Nat) (K0 : Toks) : (σ.owned p d K0).K = upd K0 (nid σ.cnt p d) true := rfl
@[simp] theorem owned_cnt (σ : St) (p : Path) (d : Option Nat) (K0 : Toks) : (σ.owned p d K0).cnt = bump σ.cnt d := rfl
@[simp] theorem setM_get (σ : St) (M : Mem) : (σ.setM M).get = σ.get := rfl
@[simp] theorem setM_M (σ : St) (M : Mem) : (σ.setM M).M = M := rfl
@[simp] theorem setM_K (σ : St) (M : Mem) : (σ.setM M).K = σ.K := rfl
@[simp] theorem setM_cnt (σ : St) (M : Mem) : (σ.setM M).cnt = σ.cnt := rfl
@[simp] theorem setMK_get (σ : St) (d : Option Nat) (M : Mem) (K : Toks) : (σ.setMK d M K).get = σ.get := rfl
@[simp] theorem setMK_M (σ : St) (d : Option Nat) (M : Mem) (K : Toks) : (σ.setMK d M K).M = M := rfl
@[simp] theorem setMK_K (σ : St) (d : Option Nat) (M : Mem) (K : Toks) : (σ.setMK d M K).K = K := rfl
@[simp] theorem setMK_cnt (σ : St) (d : Option Nat) (M : Mem) (K : Toks) : (σ.setMK d M K).cnt = bump σ.cnt d := rfl
@[simp] theorem entry_get (args : List V) (M : Mem) (K : Toks) (t : Nat) : (entry args M K).get t = args.getD t (.tup []) := rfl
@[simp] theorem entry_M (args : List V) (M : Mem) (K : Toks) : (entry args M K).M = M := rfl
@[simp] theorem entry_K (args : List V) (M : Mem) (K : Toks) : (entry args M K).K = K := rfl
@[simp] theorem entry_cnt (args : List V) (M : Mem) (K : Toks) (k : Nat) : (entry args M K).cnt k = 0 := rfl
@[simp] theorem upd_apply {α : Type} (f : Path → α) (p q : Path) (v : α) : upd f p v q = if q = p then v else f q := rfl
@[simp] theorem bump_apply (cnt : Nat → Nat) (d : Option Nat) (k : Nat) : bump cnt d k = if k = key d then cnt k + 1 else cnt k := rfl
@[simp] theorem nid_eq (cnt : Nat → Nat) (p : Path) (d : Nat) : nid cnt p (some d) = cnt (d + 2) :: (d + 2) :: p := rfl
@[simp] theorem nid_none (cnt : Nat → Nat) (p : Path) : nid cnt p none = cnt 1 :: 1 :: p := rfl
@[simp] theorem key_some (d : Nat) : key (some d) = d + 2 := rfl
@[simp] theorem key_none : key none = 1 := rfl
@[simp] theorem noM_apply (id : Path) : noM id = none := rfl
@[simp] theorem noK_apply (id : Path) : noK id = false := rfl

def fitL (s : Nat) (news : List (List V)) : Bool := news.all fun el => el.length == s && el.all V.one
@[simp] theorem fitL_nil (s : Nat) : fitL s [] = true := rfl
@[simp] theorem fitL_cons (s : Nat) (el : List V) (l : List (List V)) : fitL s (el :: l) = (el.length == s && el.all V.one && fitL s l) := rfl
@[simp] theorem fitL_append (s : Nat) (l m : List (List V)) : fitL s (l ++ m) = (fitL s l && fitL s m) := by simp [fitL]
theorem fitL_of {s : Nat} {l : List (List V)} (h : ∀ el ∈ l, el.length = s ∧ ∀ y ∈ el, V.one y = true) : fitL s l = true := by
  unfold fitL
  rw [List.all_eq_true]
  intro el hel
  rw [Bool.and_eq_true, beq_iff_eq, List.all_eq_true]
  exact h el hel
section
variable (P : Program) (E : Env) (N : Nat) (p : Path)
def outNo (σ : St) : Out := ⟨False, σ⟩
def stpStore (t : TypeId) (d : Option Nat) (a x : V) (σ : St) : Out := match a with
  | .ptr id off => match σ.M id with
    | some (.cells cs) => ⟨0 < P.cellsOf t ∧ x.cells.length = P.cellsOf t ∧ x.cells.all V.one = true ∧ off + P.cellsOf t ≤ cs.length, (σ.setM (upd σ.M id (some (.cells (splice cs off x.cells))))).put N d (.tup [])⟩
    | _ => outNo σ
  | _ => outNo σ
def stpAppend (ts : Array TypeId) (d : Option Nat) (s x : V) (σ : St) : Out := match ts.toList with
  | [t, t'] => match P.underlying t, elsOf x with
    | some (.slice e), some news => match zval P e with
      | some z => match news with
        | [] => ⟨t' = t ∧ (elsOf s).isSome = true ∧ 0 < P.cellsOf e, σ.put N d s⟩
        | _ => match s with
          | .nils => ⟨t' = t ∧ 0 < P.cellsOf e ∧ 0 < P.bytesOf e ∧ z.isJunk = false ∧ z.cells.length = P.cellsOf e ∧ fitL (P.cellsOf e) news = true ∧ news.length * P.bytesOf e ≤ 140737488355328,
              (σ.owned p d σ.K).put N d (.sl (news.map (List.map V.er)) (.own (nid σ.cnt p d) (P.cellsOf e)))⟩
          | .sl els .ex => ⟨t' = t ∧ 0 < P.cellsOf e ∧ 0 < P.bytesOf e ∧ z.isJunk = false ∧ z.cells.length = P.cellsOf e ∧ fitL (P.cellsOf e) news = true ∧ lenL (P.cellsOf e) els ∧ (els.length + news.length) * P.bytesOf e ≤ 140737488355328,
              (σ.owned p d σ.K).put N d (.sl (els ++ news.map (List.map V.er)) (.own (nid σ.cnt p d) (P.cellsOf e)))⟩
          | .sl els (.own q s) => ⟨σ.K q = true ∧ s = P.cellsOf e ∧ t' = t ∧ 0 < P.cellsOf e ∧ 0 < P.bytesOf e ∧ z.isJunk = false ∧ z.cells.length = P.cellsOf e ∧ fitL (P.cellsOf e) news = true ∧ lenL (P.cellsOf e) els ∧ (els.length + news.length) * P.bytesOf e ≤ 140737488355328,
              (σ.owned p d (upd σ.K q false)).put N d (.sl (els ++ news.map (List.map V.er)) (.own (nid σ.cnt p d) (P.cellsOf e)))⟩
          | _ => outNo σ
      | none => outNo σ
    | _, _ => outNo σ
  | _ => outNo σ
def stpGrow (ts : Array TypeId) (d : Option Nat) (s x : V) (σ : St) : Out := match ts.toList with
  | [t, t'] => match P.underlying t, elsOf x with
    | some (.slice e), some news => match zval P e with
      | some z => match s with
        | .gs id len sz => match σ.M id with
          | some (.cells cs) => ⟨news ≠ [] ∧ sz = P.cellsOf e ∧ t' = t ∧ 0 < P.cellsOf e ∧ 0 < P.bytesOf e ∧ z.isJunk = false ∧ z.cells.length = P.cellsOf e ∧ fitL (P.cellsOf e) news = true ∧ cs.length = len * P.cellsOf e ∧ (len + news.length) * P.bytesOf e ≤ 140737488355328,
              ((σ.setM (upd σ.M id none)).boxed p d (.cells (cs ++ (news.map (List.map V.er)).flatten))).put N d (.gs (nid σ.cnt p d) (len + news.length) sz)⟩
          | _ => outNo σ
        | .nils | .sl [] .ex => ⟨news ≠ [] ∧ t' = t ∧ 0 < P.cellsOf e ∧ 0 < P.bytesOf e ∧ z.isJunk = false ∧ z.cells.length = P.cellsOf e ∧ fitL (P.cellsOf e) news = true ∧ news.length * P.bytesOf e ≤ 140737488355328,
            (σ.boxed p d (.cells (news.map (List.map V.er)).flatten)).put N d (.gs (nid σ.cnt p d) news.length (P.cellsOf e))⟩
        | _ => outNo σ
      | none => outNo σ
    | _, _ => outNo σ
  | _ => outNo σ
def stpMake (t : TypeId) (len : Operand) (d : Option Nat) (l c : V) (σ : St) : Out := match P.underlying t with
  | some (.slice e) => match l, c, zval P e with
    | .int _ l, .int _ c, some z => match len with
      | .const (.int _ 0) => ⟨0 ≤ c ∧ c ≤ 140737488355328 ∧ c * P.bytesOf e ≤ 140737488355328 ∧ l = 0 ∧ 0 < P.cellsOf e ∧ z.isJunk = false ∧ z.cells.length = P.cellsOf e, (σ.owned p d σ.K).put N d (.sl [] (.own (nid σ.cnt p d) (P.cellsOf e)))⟩
      | _ => ⟨0 ≤ l ∧ l ≤ c ∧ c ≤ 140737488355328 ∧ c * P.bytesOf e ≤ 140737488355328 ∧ 0 < P.cellsOf e ∧ z.isJunk = false ∧ z.cells.length = P.cellsOf e,
          (σ.boxed p d (.cells (List.replicate c.toNat z.cells).flatten)).put N d (.ms (nid σ.cnt p d) 0 l.toNat c.toNat)⟩
    | _, _, _ => outNo σ
  | _ => outNo σ
def stpCall (f : FuncId) (d : Option Nat) (args : List V) (σ : St) : Out :=
  if E.own f = true then match E.po f (args.map V.erase) with
    | some (s, els) => ⟨True, (σ.owned p d σ.K).put N d (.sl els (.own (nid σ.cnt p d) s))⟩
    | none => outNo σ
  else if E.mem f = true then match E.mf f (nid σ.cnt p d) (E.hand f args) σ.M σ.K with
    | some (x, M', K') => ⟨True, (σ.setMK d M' K').put N d x⟩
    | none => outNo σ
  else match E.pf f (args.map V.erase) with
    | some r => ⟨True, σ.put N d r⟩
    | none => outNo σ
def stpR (d : Option Nat) (r : R) (σ : St) : Out := ⟨r.pre, σ.put N d r.v⟩
/-- One operation. -/
def stp (o : Oper) (σ : St) : Out := match o.op with
  | .alloc t => match zval P t with
    | some z => ⟨z.isJunk = false, (σ.boxed p o.dst (.cells z.cells)).put N o.dst (.ptr (nid σ.cnt p o.dst) 0)⟩
    | none => outNo σ
  | .box t x => ⟨(σ.ev x).isJunk = false, (σ.boxed p o.dst (.cells (σ.ev x).cells)).put N o.dst (.ptr (nid σ.cnt p o.dst) 0)⟩
  | .buildSlice t len ps => match P.underlying t with
    | some (.slice e) => ⟨ps.toList.map (·.1) = List.range len ∧ 0 < P.cellsOf e ∧ len * P.cellsOf e ≤ 16777216 ∧ (zval P e).any (fun z => !z.isJunk && z.cells.length == P.cellsOf e) = true ∧ ps.toList.all (fun x => !(σ.ev x.2).isJunk && (σ.ev x.2).cells.length == P.cellsOf e) = true,
        σ.put N o.dst (.sl (ps.toList.map fun x => (σ.ev x.2).cells.map V.er) .ex)⟩
    | _ => outNo σ
  | .store t a x => stpStore P N t o.dst (σ.ev a) (σ.ev x) σ
  | .makeSlice t l c => stpMake P N p t l o.dst (σ.ev l) (σ.ev c) σ
  | .call c => match c.callee with
    | .builtin .append => match c.args.toList with
      | [s, x] => if E.gs o.dst = true then stpGrow P N p c.argTypes o.dst (σ.ev s) (σ.ev x) σ else stpAppend P N p c.argTypes o.dst (σ.ev s) (σ.ev x) σ
      | _ => outNo σ
    | .builtin b => stpR N o.dst (rBuiltin P b c.argTypes (c.args.toList.map σ.ev)) σ
    | .value f => match σ.ev f with
      | .fn g caps => stpCall E N p g o.dst (c.args.toList.map σ.ev ++ caps) σ
      | _ => outNo σ
    | _ => outNo σ
  | op => stpR N o.dst (rop P E σ.ev σ.M op) σ
/-- A region's operations, one behind the other. -/
def goOps (ops : Array Oper) : List Oper → St → (St → Prop) → Prop
  | [], σ, K => K σ
  | o :: os, σ, K => match gd ops o σ.get with
    | some c => if c = true then (stp P E N p o σ).pre ∧ goOps ops os (stp P E N p o σ).st K else goOps ops os (σ.put N o.dst (.tup [])) K
    | none => False
end

section
variable {P : Program} {E : Env} {N : Nat} {p : Path}
theorem stp_eq (o : Oper) (σ : St) : (stp P E N p o σ).pre → (opStep P E N p o σ).pre ∧ (opStep P E N p o σ).st = (stp P E N p o σ).st := by
  intro h
  unfold opStep
  simp only
  cases ho : o.op with
  | alloc t =>
    simp only [stp, ho] at h ⊢
    simp only [opCore]
    split <;> rename_i e <;> simp only [e] at h ⊢
    · exact ⟨h, rfl⟩
    · exact h.elim
  | box t x => simp only [stp, ho] at h ⊢; exact ⟨h, rfl⟩
  | buildSlice t len ps =>
    simp only [stp, ho] at h ⊢
    simp only [opCore]
    split
    · rename_i e; simp only [e] at h ⊢; exact ⟨h, trivial⟩
    · rename_i hne
      split at h
      · rename_i e; exact absurd e (hne _)
      · exact h.elim
  | store t a x =>
    simp only [stp, ho, stpStore] at h ⊢
    simp only [opCore, coreStore]
    split at h
    · rename_i id off e
      simp only [e]
      split at h
      · rename_i cs hm; simp only [hm]; exact ⟨h, rfl⟩
      · exact h.elim
    · exact h.elim
  | makeSlice t l c =>
    simp only [stp, ho, stpMake] at h ⊢
    simp only [opCore, coreMake]
    split at h
    · rename_i e hu
      simp only [hu]
      split at h
      · rename_i k l' k' c' z e1 e2 e3
        simp only [e1, e2, e3]
        split at h
        · exact ⟨h, rfl⟩
        · rename_i hne
          split
          · rename_i kk; exact absurd rfl (hne kk)
          · exact ⟨h, rfl⟩
      · exact h.elim
    · exact h.elim
  | call c =>
    obtain ⟨callee, args, ts⟩ := c
    cases callee with
    | invoke r m => simp only [stp, ho] at h; exact h.elim
    | builtin b =>
      by_cases hb : b = .append
      · subst hb
        simp only [stp, ho] at h ⊢
        simp only [opCore]
        split at h
        · rename_i s x hargs
          simp only [hargs]
          by_cases hgs : E.gs o.dst = true
          · simp only [hgs, if_true] at h ⊢
            unfold stpGrow at h ⊢
            unfold coreGrow
            split at h
            · rename_i t t' hts
              simp only [hts]
              split at h
              · rename_i e news hu hels
                simp only [hu, hels]
                split at h
                · rename_i z hz
                  simp only [hz]
                  cases hS : σ.ev s with
                  | gs id len sz =>
                    simp only [hS] at h ⊢
                    split at h
                    · rename_i cs hm; simp only [hm]; exact ⟨h, rfl⟩
                    · exact h.elim
                  | nils => simp only [hS] at h ⊢; exact ⟨h, rfl⟩
                  | sl els tk =>
                    cases els with
                    | nil => cases tk <;> simp only [hS] at h ⊢ <;> first | exact h.elim | exact ⟨h, rfl⟩
                    | cons _ _ => cases tk <;> simp only [hS] at h <;> exact h.elim
                  | _ => simp only [hS] at h; exact h.elim
                · exact h.elim
              · exact h.elim
            · exact h.elim
          simp only [hgs, if_false, Bool.false_eq_true] at h ⊢
          unfold stpAppend at h ⊢
          unfold coreAppend
          split at h
          · rename_i t t' hts
            simp only [hts]
            split at h
            · rename_i e news hu hels
              simp only [hu, hels]
              split at h
              · rename_i z hz
                simp only [hz]
                cases news with
                | nil => exact ⟨h, rfl⟩
                | cons n ns =>
                  simp only at h ⊢
                  cases hS : σ.ev s with
                  | nils => simp only [hS] at h ⊢; exact ⟨h, rfl⟩
                  | sl els tk => cases tk <;> simp only [hS] at h ⊢ <;> first | exact h.elim | exact ⟨h, rfl⟩
                  | _ => simp only [hS] at h; exact h.elim
              · exact h.elim
            · exact h.elim
          · exact h.elim
        · exact h.elim
      · have e1 : opCore P E p σ.ev σ.M σ.K σ.cnt o.dst (.call ⟨.builtin b, args, ts⟩) = coreR (rBuiltin P b ts (args.toList.map σ.ev)) σ.M σ.K σ.cnt := by cases b <;> first | exact absurd rfl hb | rfl
        have e2 : stp P E N p o σ = stpR N o.dst (rBuiltin P b ts (args.toList.map σ.ev)) σ := by
          unfold stp; simp only [ho]
        rw [e2] at h ⊢
        rw [e1]
        exact ⟨h, rfl⟩
    | value f =>
      simp only [stp, ho] at h ⊢
      simp only [opCore]
      split at h
      · rename_i g caps hf
        simp only [hf]
        unfold stpCall at h ⊢
        unfold coreCall
        by_cases h1 : E.own g = true
        · simp only [if_pos h1] at h ⊢
          split at h
          · rename_i s els e; first | (simp only [e]; done) | (simp only [e]; exact ⟨h, rfl⟩) | (simp only [e]; exact ⟨h, trivial⟩)
          · exact h.elim
        · simp only [if_neg h1] at h ⊢
          by_cases h2 : E.mem g = true
          · simp only [if_pos h2] at h ⊢
            split at h
            · rename_i x M' K' e; first | (simp only [e]; done) | (simp only [e]; exact ⟨h, rfl⟩) | (simp only [e]; exact ⟨h, trivial⟩)
            · exact h.elim
          · simp only [if_neg h2] at h ⊢
            split at h
            · rename_i r e; first | (simp only [e]; done) | (simp only [e]; exact ⟨h, rfl⟩) | (simp only [e]; exact ⟨h, trivial⟩)
            · exact h.elim
      · exact h.elim
  | _ =>
    simp only [stp, ho] at h ⊢
    (first | exact ⟨h, trivial⟩ | exact ⟨h, rfl⟩)
theorem goOps_run (ops : Array Oper) {K : St → Prop} : ∀ (os : List Oper) (σ : St), goOps P E N p ops os σ K → runOps P E N p ops os σ K
  | [], σ, h => h
  | o :: os, σ, h => by
    unfold goOps at h
    cases hg : gd ops o σ.get with
    | none => rw [hg] at h; exact h.elim
    | some c =>
      rw [hg] at h
      simp only at h
      cases c with
      | true =>
        simp only [if_true] at h
        obtain ⟨h1, h2⟩ := h
        obtain ⟨h3, h4⟩ := stp_eq o σ h1
        have e : gStep P E N p ops o σ = opStep P E N p o σ := by
          unfold gStep gCore opStep coreSt; simp only [hg, ev_eq]
        refine ⟨by rw [e]; exact h3, ?_⟩
        rw [e, h4]; exact goOps_run ops os _ h2
      | false =>
        simp only [Bool.false_eq_true, if_false] at h
        have e : gStep P E N p ops o σ = ⟨True, σ.put N o.dst (.tup [])⟩ := by
          unfold gStep gCore coreSt; simp only [hg]
        refine ⟨by rw [e]; trivial, ?_⟩
        rw [e]; exact goOps_run ops os _ h
theorem T.reg (hE : EnvOk P E) {ro : Option Nat} {id : Nat} {ops : Array Oper} (hd : noDefer ops = true) {σ : St} {Q : Post} (h : goOps P E N p ops ops.toList σ (Q .normal)) : T P ro N p (.region id ops false) σ Q := T.region hE hd (goOps_run ops _ σ h)
theorem T.any (hE : EnvOk P E) (hm : P.follows .mixedOrders = true) {ro : Option Nat} {id : Nat} {ops : Array Oper} (hd : noDefer ops = true) (hok : okOrd E ops = true) {σ : St} {Q : Post} (h : goOps P E N p ops ops.toList σ (Q .normal)) : T P ro N p (.region id ops true) σ Q := T.draw hE hm hd hok (goOps_run ops _ σ h)
end
end
section
open Go

attribute [simp] frozenA rLoadC goOps stp stpR stpStore stpAppend stpGrow stpMake stpCall gd rop St.ev ofVal ofLeaf V.isJunk V.cells nx blk rLoad cut rField rPart rIxAddr rIx rSlice loOf hiOf rBin rUn rConv rExtract rNil rIface rAssert rBuild fillV rBuiltin rPick splice elsOf V.one V.er V.erase R.bad outNo intsOf

/-- What comes behind, hidden from simp. -/
structure Cont (K R : St → Prop) : Prop where
  go : ∀ σ, R σ → K σ
structure Cnt (R K : Prop) : Prop where
  go : R → K
def Hold (p : Prop) : Prop := p
/-- Two ways on. -/
def Br (b : Bool) (K1 K2 : Prop) : Prop := (b = true → K1) ∧ (b = false → K2)
@[simp] theorem Br_true (K1 K2 : Prop) : Br true K1 K2 = K1 := by simp [Br]
@[simp] theorem Br_false (K1 K2 : Prop) : Br false K1 K2 = K2 := by simp [Br]
theorem Br.intro {b : Bool} {K1 K2 : Prop} (h1 : b = true → K1) (h2 : b = false → K2) : Br b K1 K2 := ⟨h1, h2⟩
def brV : V → Prop → Prop → Prop
  | .bool b, K1, K2 => Br b K1 K2
  | _, _, _ => False
@[simp] theorem brV_bool (b : Bool) (K1 K2 : Prop) : brV (.bool b) K1 K2 = Br b K1 K2 := rfl

section
variable {P : Program} {E : Env} {ro : Option Nat} {N : Nat} {p : Path} {σ : St} {Q : Post}
theorem T.br {c : Operand} {x y : Code} (h : ∀ K1 K2 : Prop, Cnt (T P ro N p x σ Q) K1 → Cnt (T P ro N p y σ Q) K2 → brV (σ.ev c) K1 K2) : T P ro N p (.cond c x y) σ Q := by
  have := h (T P ro N p x σ Q) (T P ro N p y σ Q) ⟨id⟩ ⟨id⟩
  cases hv : σ.ev c with
  | bool b => rw [hv] at this; exact T.cond hv this.1 this.2
  | _ => rw [hv] at this; exact this.elim
theorem T.sq {x y : Code} (h : ∀ K : St → Prop, Cont K (fun σ' => T P ro N p y σ' Q) → T P ro N p x σ (nx K Q)) : T P ro N p (.seq x y) σ Q := T.seq fun K hK => h K ⟨hK⟩
theorem Rep.len {G : Ghost} {v : Value} {els : List (List V)} {tk : Tk} (h : Rep G v (.sl els tk)) : els.length ≤ 9223372036854775807 := by
  cases h with
  | sl0 => exact Nat.zero_le _
  | sl b o c s els tk vs hs hc hm => omega
/-- What lies in a slot has the length that a slice can have. -/
theorem T.len {c : Code} {t : Nat} {els : List (List V)} {tk : Tk} (h : σ.get t = .sl els tk) (k : els.length ≤ 9223372036854775807 → T P ro N p c σ Q) : T P ro N p c σ Q := fun ds G a w hR =>
  k (by have := hR.eval (.tmp t); rw [St.ev, h] at this; exact this.len) ds G a w hR
theorem fin_pure {fn : Func} {r : V} (h : (resAll P σ fn.results.toList).pre ∧ (resAll P σ fn.results.toList).v.erase = r) : fin P fn (fun x M' K' => x = r ∧ M' = noM ∧ K' = noK) .ret σ :=
  ⟨h.1, noM, noK, fun id hid => absurd rfl hid, fun t ht => (by cases ht), .inr ⟨h.2, rfl, rfl⟩⟩
end
attribute [simp] resAll resOne

/-! ### Tables of contracts -/
abbrev Pf := FuncId → List V → Option V
abbrev Po := FuncId → List V → Option (Nat × List (List V))
abbrev Mf := FuncId → Path → List V → Mem → Toks → Option (V × Mem × Toks)
def addf (pf : Pf) (f : FuncId) (g : List V → Option V) : Pf := fun f' args => if f' = f then g args else pf f' args
def addo (po : Po) (f : FuncId) (g : List V → Option (Nat × List (List V))) : Po := fun f' args => if f' = f then g args else po f' args
def addm (mf : Mf) (f : FuncId) (g : Path → List V → Mem → Toks → Option (V × Mem × Toks)) : Mf := fun f' q args M K => if f' = f then g q args M K else mf f' q args M K
@[simp] theorem addf_apply (pf : Pf) (f : FuncId) (g : List V → Option V) (f' : FuncId) (args : List V) : addf pf f g f' args = if f' = f then g args else pf f' args := rfl
@[simp] theorem addo_apply (po : Po) (f : FuncId) (g : List V → Option (Nat × List (List V))) (f' : FuncId) (args : List V) : addo po f g f' args = if f' = f then g args else po f' args := rfl
@[simp] theorem addm_apply (mf : Mf) (f : FuncId) (g : Path → List V → Mem → Toks → Option (V × Mem × Toks)) (f' : FuncId) (q : Path) (args : List V) (M : Mem) (K : Toks) : addm mf f g f' q args M K = if f' = f then g q args M K else mf f' q args M K := rfl
def pf0 : Pf := fun _ _ => none
def po0 : Po := fun _ _ => none
def mf0 : Mf := fun _ _ _ _ _ => none
@[simp] theorem pf0_apply (f : FuncId) (args : List V) : pf0 f args = none := rfl
def PureOk (P : Program) (f : FuncId) (g : List V → Option V) : Prop := ∀ args r, g args = some r → Callable P f ∧ ∀ q M K, Ctr P f q args M K fun x M' K' => x = r ∧ M' = M ∧ K' = K
def OwnOk (P : Program) (f : FuncId) (g : List V → Option (Nat × List (List V))) : Prop := ∀ args s els, g args = some (s, els) → Callable P f ∧ ∀ q M K, Ctr P f q args M K fun x M' K' => M' = M ∧ ∃ t, x = .sl els (.own t s) ∧ q <:+ t ∧ K' = upd K t true
def MemOk (P : Program) (f : FuncId) (g : Path → List V → Mem → Toks → Option (V × Mem × Toks)) : Prop := ∀ q args M K x M' K', g q args M K = some (x, M', K') → Callable P f ∧ (∀ id, ¬ q <:+ id → M id = none → M' id = none) ∧ Ctr P f q args M K fun y M1 K1 => y = x ∧ M1 = M' ∧ K1 = K'
/-- The table: which functions are which is fixed for the seat. -/
def mkE (eq : TypeId → Bool) (own mem : FuncId → Bool) (pf : Pf) (po : Po) (mf : Mf) : Env := { eq := eq, own := own, mem := mem, pf := pf, po := po, mf := mf }
section
variable {P : Program} {eq : TypeId → Bool} {own mem : FuncId → Bool} {pf : Pf} {po : Po} {mf : Mf}
@[simp] theorem mkE_eq : (mkE eq own mem pf po mf).eq = eq := rfl
@[simp] theorem mkE_gs (d : Option Nat) : (mkE eq own mem pf po mf).gs d = false := by cases d <;> rfl
@[simp] theorem mkE_cl (n : Nat) : (mkE eq own mem pf po mf).cl n = false := rfl
@[simp] theorem mkE_own : (mkE eq own mem pf po mf).own = own := rfl
@[simp] theorem mkE_mem : (mkE eq own mem pf po mf).mem = mem := rfl
@[simp] theorem mkE_pf : (mkE eq own mem pf po mf).pf = pf := rfl
@[simp] theorem mkE_hand (f : FuncId) (args : List V) : (mkE eq own mem pf po mf).hand f args = args.map V.erase := rfl
@[simp] theorem mkE_po : (mkE eq own mem pf po mf).po = po := rfl
@[simp] theorem mkE_mf : (mkE eq own mem pf po mf).mf = mf := rfl
/-- The same, some addresses being frozen. -/
def Env.withCl (E : Env) (c : Nat → Bool) : Env := { E with cl := c }
@[simp] theorem withCl_hand (E : Env) (c : Nat → Bool) (f : FuncId) (args : List V) : (E.withCl c).hand f args = E.hand f args := rfl
@[simp] theorem withCl_gs (E : Env) (c : Nat → Bool) (d : Option Nat) : (E.withCl c).gs d = E.gs d := by cases d <;> rfl
/-- The same, some rows being laid in boxes. -/
def Env.withGd (E : Env) (g : Nat → Bool) : Env := { E with gd := g }
@[simp] theorem withGd_eq (E : Env) (g : Nat → Bool) : (E.withGd g).eq = E.eq := rfl
@[simp] theorem withGd_own (E : Env) (g : Nat → Bool) : (E.withGd g).own = E.own := rfl
@[simp] theorem withGd_mem (E : Env) (g : Nat → Bool) : (E.withGd g).mem = E.mem := rfl
@[simp] theorem withGd_pf (E : Env) (g : Nat → Bool) : (E.withGd g).pf = E.pf := rfl
@[simp] theorem withGd_po (E : Env) (g : Nat → Bool) : (E.withGd g).po = E.po := rfl
@[simp] theorem withGd_mf (E : Env) (g : Nat → Bool) : (E.withGd g).mf = E.mf := rfl
@[simp] theorem withGd_cl (E : Env) (g : Nat → Bool) : (E.withGd g).cl = E.cl := rfl
@[simp] theorem withGd_hand (E : Env) (g : Nat → Bool) (f : FuncId) (args : List V) : (E.withGd g).hand f args = E.hand f args := rfl
@[simp] theorem withGd_gs (E : Env) (g : Nat → Bool) (d : Nat) : (E.withGd g).gs (some d) = g d := rfl
@[simp] theorem withGd_gs0 (E : Env) (g : Nat → Bool) : (E.withGd g).gs none = false := rfl
theorem EnvOk.withGd {E : Env} (h : EnvOk P E) (g : Nat → Bool) : EnvOk P (E.withGd g) := ⟨h.eq, h.pf, h.po, h.mf⟩
/-- The same, some functions being handed the rows' tokens. -/
def Env.withTok (E : Env) (t : FuncId → Bool) : Env := { E with tok := t }
@[simp] theorem withTok_eq (E : Env) (t : FuncId → Bool) : (E.withTok t).eq = E.eq := rfl
@[simp] theorem withTok_own (E : Env) (t : FuncId → Bool) : (E.withTok t).own = E.own := rfl
@[simp] theorem withTok_mem (E : Env) (t : FuncId → Bool) : (E.withTok t).mem = E.mem := rfl
@[simp] theorem withTok_pf (E : Env) (t : FuncId → Bool) : (E.withTok t).pf = E.pf := rfl
@[simp] theorem withTok_po (E : Env) (t : FuncId → Bool) : (E.withTok t).po = E.po := rfl
@[simp] theorem withTok_mf (E : Env) (t : FuncId → Bool) : (E.withTok t).mf = E.mf := rfl
@[simp] theorem withTok_cl (E : Env) (t : FuncId → Bool) : (E.withTok t).cl = E.cl := rfl
@[simp] theorem withTok_hand (E : Env) (t : FuncId → Bool) (f : FuncId) (args : List V) : (E.withTok t).hand f args = if t f = true then args else args.map V.erase := rfl
@[simp] theorem withTok_gs (E : Env) (t : FuncId → Bool) (d : Option Nat) : (E.withTok t).gs d = E.gs d := by cases d <;> rfl
theorem EnvOk.withTok {E : Env} (h : EnvOk P E) (t : FuncId → Bool) : EnvOk P (E.withTok t) := ⟨h.eq, h.pf, h.po, h.mf⟩
@[simp] theorem withCl_eq (E : Env) (c : Nat → Bool) : (E.withCl c).eq = E.eq := rfl
@[simp] theorem withCl_own (E : Env) (c : Nat → Bool) : (E.withCl c).own = E.own := rfl
@[simp] theorem withCl_mem (E : Env) (c : Nat → Bool) : (E.withCl c).mem = E.mem := rfl
@[simp] theorem withCl_pf (E : Env) (c : Nat → Bool) : (E.withCl c).pf = E.pf := rfl
@[simp] theorem withCl_po (E : Env) (c : Nat → Bool) : (E.withCl c).po = E.po := rfl
@[simp] theorem withCl_mf (E : Env) (c : Nat → Bool) : (E.withCl c).mf = E.mf := rfl
@[simp] theorem withCl_cl (E : Env) (c : Nat → Bool) : (E.withCl c).cl = c := rfl
theorem EnvOk.withCl {E : Env} (h : EnvOk P E) (c : Nat → Bool) : EnvOk P (E.withCl c) := ⟨h.eq, h.pf, h.po, h.mf⟩
theorem EqOk.none {P : Program} : EqOk P fun _ => false := fun t h => by cases h
theorem EnvOk.nil (he : EqOk P eq) : EnvOk P (mkE eq own mem pf0 po0 mf0) :=
  ⟨he, fun f args r _ _ h => (by cases h), fun f args s els _ h => (by cases h), fun f q args M K x M' K' _ _ h => (by cases h)⟩
theorem EnvOk.addf (h : EnvOk P (mkE eq own mem pf po mf)) {f : FuncId} {g : List V → Option V} (hg : PureOk P f g) : EnvOk P (mkE eq own mem (addf pf f g) po mf) :=
  ⟨h.eq, fun f' args r h1 h2 h3 => by
    simp only [mkE_pf, addf_apply] at h3
    split at h3
    · rename_i e; subst e; exact hg args r h3
    · exact h.pf f' args r h1 h2 h3, h.po, h.mf⟩
theorem EnvOk.addo (h : EnvOk P (mkE eq own mem pf po mf)) {f : FuncId} {g : List V → Option (Nat × List (List V))} (hg : OwnOk P f g) : EnvOk P (mkE eq own mem pf (addo po f g) mf) :=
  ⟨h.eq, h.pf, fun f' args s els h1 h3 => by
    simp only [mkE_po, addo_apply] at h3
    split at h3
    · rename_i e; subst e; exact hg args s els h3
    · exact h.po f' args s els h1 h3, h.mf⟩
theorem EnvOk.addm (h : EnvOk P (mkE eq own mem pf po mf)) {f : FuncId} {g : Path → List V → Mem → Toks → Option (V × Mem × Toks)} (hg : MemOk P f g) : EnvOk P (mkE eq own mem pf po (addm mf f g)) :=
  ⟨h.eq, h.pf, h.po, fun f' q args M K x M' K' h1 h2 h3 => by
    simp only [mkE_mf, addm_apply] at h3
    split at h3
    · rename_i e; subst e; exact hg q args M K x M' K' h3
    · exact h.mf f' q args M K x M' K' h1 h2 h3⟩
/-- A contract for all that is small, out of one for what is small behind it. -/
theorem PureOk.rec {f : FuncId} {g : List V → Option V} (μ : List V → Nat) (h : ∀ n, PureOk P f (fun args => if μ args < n then g args else none) → PureOk P f (fun args => if μ args = n then g args else none)) : PureOk P f g := by
  have all : ∀ n, PureOk P f (fun args => if μ args < n then g args else none) := by
    intro n
    induction n with
    | zero => intro args r hr; simp at hr
    | succ n ih =>
      intro args r hr
      simp only at hr
      split at hr
      · rename_i hlt
        by_cases e : μ args = n
        · exact h n ih args r (by simp only; rw [if_pos e]; exact hr)
        · exact ih args r (by simp only; rw [if_pos (by omega)]; exact hr)
      · cases hr
  intro args r hr
  exact all (μ args + 1) args r (by simp only; rw [if_pos (by omega)]; exact hr)
end

/-! ### Trees -/
inductive Ex where
  | mk (k i : Int) (kids : List Ex)
def Ex.k : Ex → Int | .mk k _ _ => k
def Ex.i : Ex → Int | .mk _ i _ => i
def Ex.kids : Ex → List Ex | .mk _ _ l => l
@[simp] theorem Ex.k_mk (k i : Int) (l : List Ex) : (Ex.mk k i l).k = k := rfl
@[simp] theorem Ex.i_mk (k i : Int) (l : List Ex) : (Ex.mk k i l).i = i := rfl
@[simp] theorem Ex.kids_mk (k i : Int) (l : List Ex) : (Ex.mk k i l).kids = l := rfl
@[simp] theorem Ex.eta (e : Ex) : Ex.mk e.k e.i e.kids = e := by cases e; rfl
mutual
def encC : Ex → List V
  | .mk k i l => [.int .i64 k, .int .i64 i, .sl (encL l) .no]
def encL : List Ex → List (List V)
  | [] => []
  | e :: l => encC e :: encL l
end
def enc (e : Ex) : V := .agg (encC e)
theorem encC_eq (e : Ex) : encC e = [.int .i64 e.k, .int .i64 e.i, .sl (encL e.kids) .no] := by cases e; rw [encC]; rfl
@[simp] theorem enc_eq (e : Ex) : enc e = .agg [.int .i64 e.k, .int .i64 e.i, .sl (encL e.kids) .no] := by rw [enc, encC_eq]
@[simp] theorem encL_nil : encL [] = [] := by rw [encL]
@[simp] theorem encL_cons (e : Ex) (l : List Ex) : encL (e :: l) = [.int .i64 e.k, .int .i64 e.i, .sl (encL e.kids) .no] :: encL l := by rw [encL, encC_eq]
theorem encL_map (l : List Ex) : encL l = l.map encC := by
  induction l with
  | nil => rw [encL]; rfl
  | cons e l ih => rw [encL, ih]; rfl
@[simp] theorem encL_length (l : List Ex) : (encL l).length = l.length := by rw [encL_map]; simp
@[simp] theorem encL_getElem (l : List Ex) (n : Nat) (h : n < (encL l).length) : (encL l)[n] = [.int .i64 (l[n]'(by simpa using h)).k, .int .i64 (l[n]'(by simpa using h)).i, .sl (encL (l[n]'(by simpa using h)).kids) .no] := by
  simp only [encL_map, List.getElem_map, encC_eq]
theorem wrap64 {n : Int} (h : -9223372036854775808 ≤ n) (h' : n ≤ 9223372036854775807) : IntKind.i64.wrap n = n := by
  unfold IntKind.wrap
  simp [IntKind.signed, IntKind.bits]
  omega
theorem wrap_succ {j n : Nat} (h : n ≤ 9223372036854775807) (hj : j < n) : IntKind.i64.wrap ((j : Int) + 1) = (j : Int) + 1 := wrap64 (by omega) (by omega)
theorem all_take_succ {α : Type} (l : List α) (f : α → Bool) (j : Nat) (h : j < l.length) : (l.take (j + 1)).all f = ((l.take j).all f && f l[j]) := by
  rw [List.take_add_one, List.all_append]; simp [h]
theorem encL_append (l m : List Ex) : encL (l ++ m) = encL l ++ encL m := by simp [encL_map]
@[simp] theorem lenL_encL (l : List Ex) : lenL 3 (encL l) = True := eq_true fun el h => by
  rw [encL_map] at h
  obtain ⟨e, _, rfl⟩ := List.mem_map.1 h
  rw [encC_eq]; rfl
@[simp] theorem fitL_encL (l : List Ex) : fitL 3 (encL l) = true := fitL_of fun el h => by
  rw [encL_map] at h
  obtain ⟨e, _, rfl⟩ := List.mem_map.1 h
  rw [encC_eq]
  refine ⟨rfl, fun y hy => ?_⟩
  simp only [List.mem_cons, List.not_mem_nil, or_false] at hy
  rcases hy with rfl | rfl | rfl <;> rfl
@[simp] theorem encL_er (l : List Ex) : (encL l).map (List.map V.er) = encL l := by
  rw [encL_map, List.map_map]
  refine List.map_congr_left fun e _ => ?_
  simp [encC_eq, V.er]
theorem encL_len3 (l : List Ex) : ∀ el ∈ encL l, el.length = 3 := fun el h => by
  rw [encL_map] at h
  obtain ⟨e, _, rfl⟩ := List.mem_map.1 h
  rw [encC_eq]; rfl
mutual
def decC : List V → Option Ex
  | [.int .i64 k, .int .i64 i, .sl els .no] => match decL els with
    | some l => some (.mk k i l)
    | none => none
  | _ => none
def decL : List (List V) → Option (List Ex)
  | [] => some []
  | c :: r => match decC c, decL r with
    | some e, some l => some (e :: l)
    | _, _ => none
end
def dec : V → Option Ex
  | .agg cs => decC cs
  | _ => none
mutual
theorem decC_enc : ∀ e : Ex, decC (encC e) = some e
  | .mk k i l => by rw [encC, decC, decL_enc l]
theorem decL_enc : ∀ l : List Ex, decL (encL l) = some l
  | [] => by rw [encL, decL]
  | e :: l => by rw [encL, decL, decC_enc e, decL_enc l]
end
@[simp] theorem decL_encL (l : List Ex) : decL (encL l) = some l := decL_enc l
@[simp] theorem decL_nil : decL [] = some [] := by rw [decL]
@[simp] theorem decL_cons (c : List V) (r : List (List V)) : decL (c :: r) = match decC c, decL r with | some e, some l => some (e :: l) | _, _ => none := by rw [decL]
@[simp] theorem dec_agg (k i : Int) (els : List (List V)) : dec (.agg [.int .i64 k, .int .i64 i, .sl els .no]) = match decL els with | some l => some (.mk k i l) | none => none := by rw [dec, decC]
@[simp] theorem decC_lit (k i : Int) (els : List (List V)) : decC [.int .i64 k, .int .i64 i, .sl els .no] = match decL els with | some l => some (.mk k i l) | none => none := by rw [decC]
theorem dec_enc (e : Ex) : dec (enc e) = some e := decC_enc e
mutual
theorem decC_inv : ∀ (cs : List V) (e : Ex), decC cs = some e → cs = encC e
  | cs, e, h => by
    unfold decC at h
    split at h
    · rename_i k i els
      split at h
      · rename_i l hl
        cases h
        rw [encC, decL_inv els l hl]
      · cases h
    · cases h
theorem decL_inv : ∀ (els : List (List V)) (l : List Ex), decL els = some l → els = encL l
  | [], l, h => by rw [decL] at h; cases h; rw [encL]
  | c :: r, l, h => by
    rw [decL] at h
    split at h
    · rename_i e l' h1 h2
      cases h
      rw [encL, decC_inv c e h1, decL_inv r l' h2]
    · cases h
end
theorem dec_inv {v : V} {e : Ex} (h : dec v = some e) : v = enc e := by
  unfold dec at h
  split at h
  · rename_i cs; rw [enc, decC_inv cs e h]
  · cases h
end
end Go.Proofs.YtaacfmakfkaddaaDoor.Ax
