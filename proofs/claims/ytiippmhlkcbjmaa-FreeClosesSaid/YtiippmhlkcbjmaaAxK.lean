/- Abstract execution, part K: a region is sound in whatever order; statements; functions. -/
import Derived.Test.YtiippmhlkcbjmaaAxJ
set_option linter.unusedVariables false
set_option linter.unusedSimpArgs false
namespace Go.Proofs.Ytiippmhlkcbjmaa.Ax
open Go

section
variable {P : Program} {E : Env} {N : Nat} {p : Path} {ds : List Deferred} {G : Ghost} {σ : St} {a : Act} {w : World}

theorem WF.bump {M : Mem} {cnt : Nat → Nat} (h : WF p M cnt) (d : Option Nat) {M' : Mem} (hM : ∀ id, ¬ nid cnt p d <:+ id → M id = none → M' id = none) : WF p M' (bump cnt d) := fun k c id hk hc hid => by
  have hns : ¬ nid cnt p d <:+ id := fun hq => by
    have := suffix_eq hid hq (by simp [nid])
    simp only [nid, List.cons.injEq] at this
    obtain ⟨e1, e2, _⟩ := this
    simp only [Ax.bump] at hc
    rw [if_pos e2] at hc
    subst e2; omega
  refine hM id hns (h k c id hk ?_ hid)
  simp only [Ax.bump] at hc
  split at hc <;> omega
theorem WF.new {M : Mem} {cnt : Nat → Nat} {K : Toks} (h : WF p M cnt) (pr : Prop) (d : Option Nat) (vf : Path → V) (b : Option Box) (ow : Bool) : WF p (coreNew p pr d vf b ow M K cnt).M (coreNew p pr d vf b ow M K cnt).cnt := by
  refine h.bump d fun id hid hn => ?_
  rcases new_M (p := p) (pr := pr) (d := d) (vf := vf) (b := b) (ow := ow) M K cnt with e | ⟨bb, e⟩
  · rw [e]; exact hn
  · rw [e, upd_ne _ _ (fun e' => hid (by rw [e']; exact List.suffix_refl _))]; exact hn
theorem WF.op (hE : EnvOk P E) {M : Mem} {K : Toks} {cnt : Nat → Nat} (h : WF p M cnt) (ρ : Operand → V) (d : Option Nat) (op : Op) (hp : (opCore P E p ρ M K cnt d op).pre) : WF p (opCore P E p ρ M K cnt d op).M (opCore P E p ρ M K cnt d op).cnt := by
  cases op with
  | alloc t =>
    simp only [opCore]
    split
    · exact h.new _ _ _ _ _
    · exact h
  | box t x => exact h.new _ _ _ _ _
  | buildSlice t n ps => simp only [opCore]; split <;> exact h
  | store t x y =>
    simp only [opCore, coreStore] at hp ⊢
    split at hp
    · rename_i id off hx
      try simp only [hx]
      split at hp
      · rename_i cs hm
        try simp only [hm]
        refine fun k c q hk hc hq => ?_
        have hn := h k c q hk hc hq
        have : q ≠ id := fun e => by subst e; rw [hn] at hm; cases hm
        rw [upd_ne _ _ this]; exact hn
      · exact hp.elim
    · exact hp.elim
  | makeSlice t x y =>
    simp only [opCore, coreMake]
    split
    · split
      · split
        · exact h.new _ _ _ _ _
        · exact h.new _ _ _ _ _
      · exact h
    · exact h
  | call c =>
    obtain ⟨callee, args, ts⟩ := c
    cases callee with
    | invoke r m => exact h
    | builtin b =>
      by_cases hb : b = .append
      · subst hb
        simp only [opCore]
        split
        · unfold coreAppend
          repeat' (first | exact h | exact h.new _ _ _ _ _ | split)
        · exact h
      · cases b <;> first | exact absurd rfl hb | exact h
    | value f =>
      simp only [opCore] at hp ⊢
      split at hp
      · rename_i g caps hg
        try simp only [hg]
        unfold coreCall at hp ⊢
        split at hp
        · rename_i h1
          try simp only [if_pos h1]
          split
          · exact h.new _ _ _ _ _
          · exact h
        · rename_i h1
          try simp only [if_neg h1]
          split at hp
          · rename_i h2
            try simp only [if_pos h2]
            split at hp
            · rename_i x M' K' hmf
              try simp only [hmf]
              exact h.bump d ((hE.mf g _ _ _ _ x M' K' (by simpa using h1) h2 hmf).2.1)
            · exact hp.elim
          · rename_i h2
            try simp only [if_neg h2]
            split <;> exact h
      · exact hp.elim
  | _ => exact h
theorem WF.step (hE : EnvOk P E) (ops : Array Oper) (o : Oper) (h : WF p σ.M σ.cnt) (hp : (gStep P E N p ops o σ).pre) : WF p (gStep P E N p ops o σ).st.M (gStep P E N p ops o σ).st.cnt := by
  rw [gStep_st]
  simp only
  rw [gStep_pre] at hp
  unfold stepC gCore at hp ⊢
  split at hp
  · rename_i e; try simp only [e]
    exact h.op hE _ _ _ hp
  · rename_i e; try simp only [e]
    exact h
  · exact hp.elim

/-- An operation that may change places with all that stand ahead is done first. -/
theorem runOps_front (hE : EnvOk P E) (ops : Array Oper) {Kf : St → Prop} (x : Oper) (post : List Oper) : ∀ (pre : List Oper) (σ : St), (∀ y ∈ pre, compat E ops y x = true) → WF p σ.M σ.cnt → runOps P E N p ops (pre ++ x :: post) σ Kf → runOps P E N p ops (x :: (pre ++ post)) σ Kf
  | [], σ, _, _, h => h
  | y :: pre, σ, hc, hw, h => by
    obtain ⟨h1, h2⟩ := h
    have hw1 := hw.step hE ops y h1
    obtain ⟨h3, h4⟩ := runOps_front hE ops x post pre _ (fun z hz => hc z (by simp [hz])) hw1 h2
    obtain ⟨c1, c2, c3⟩ := comm (hc y (by simp)) hw h1 h3
    exact ⟨c1, c2, by rw [c3]; exact h4⟩

def reach (ops : Array Oper) : Nat → Nat → Nat → Bool
  | 0, _, _ => false
  | f + 1, x, y => match ops[x]? with
    | some o => o.after.any fun e => Region.binds .any e && (e.on == y || reach ops f e.on y)
    | none => false
theorem reach_mem {ops : Array Oper} {S : Nat → Prop} (hS : ∀ z, S z → ∀ o, ops[z]? = some o → ∀ e ∈ o.after, Region.binds .any e = true → S e.on) : ∀ (f x y : Nat), (∀ o, ops[x]? = some o → ∀ e ∈ o.after, Region.binds .any e = true → S e.on) → reach ops f x y = true → S y
  | 0, _, _, _, h => by cases h
  | f + 1, x, y, hx, h => by
    unfold reach at h
    split at h
    · rename_i o ho
      obtain ⟨i, hi, h1⟩ := Array.any_eq_true.1 h
      simp only [Bool.and_eq_true, Bool.or_eq_true, beq_iff_eq] at h1
      have hs := hx o ho o.after[i] (by simp) h1.1
      rcases h1.2 with h2 | h2
      · rw [← h2]; exact hs
      · exact reach_mem hS f _ y (fun o' ho' => hS _ hs o' ho') h2
    · cases h

/-- What lies behind each operation, in bits. -/
def maskOf (acc : List Nat) : List Edge → Nat
  | [] => 0
  | e :: es => (if Region.binds .any e = true then (1 <<< e.on) ||| acc.getD e.on 0 else 0) ||| maskOf acc es
def masks : List Oper → List Nat → List Nat
  | [], acc => acc
  | o :: os, acc => masks os (acc ++ [maskOf acc o.after.toList])
theorem maskOf_spec {acc : List Nat} {y : Nat} : ∀ {es : List Edge}, (maskOf acc es).testBit y = true → ∃ e ∈ es, Region.binds .any e = true ∧ (e.on = y ∨ (acc.getD e.on 0).testBit y = true)
  | [], h => by simp [maskOf] at h
  | e :: es, h => by
    simp only [maskOf, Nat.testBit_or, Bool.or_eq_true] at h
    rcases h with h | h
    · split at h
      · rename_i hb
        rw [Nat.testBit_or, Bool.or_eq_true] at h
        refine ⟨e, by simp, hb, h.imp (fun h => ?_) id⟩
        rw [Nat.one_shiftLeft, Nat.testBit_two_pow] at h
        simpa using h
      · simp at h
    · obtain ⟨e', he, h2⟩ := maskOf_spec h
      exact ⟨e', by simp [he], h2⟩
theorem masks_spec (ops : Array Oper) : ∀ (os : List Oper) (acc : List Nat) (pre : List Oper), pre ++ os = ops.toList → acc.length = pre.length → (∀ (i y : Nat), (acc.getD i 0).testBit y = true → ∃ f, reach ops f i y = true) → ∀ (i y : Nat), ((masks os acc).getD i 0).testBit y = true → ∃ f, reach ops f i y = true
  | [], acc, pre, _, _, h, i, y, hi => h i y hi
  | o :: os, acc, pre, he, hl, h, i, y, hi => by
    refine masks_spec ops os (acc ++ [maskOf acc o.after.toList]) (pre ++ [o]) (by simpa using he) (by simp [hl]) (fun i y hi => ?_) i y hi
    rw [List.getD_eq_getElem?_getD, List.getElem?_append] at hi
    split at hi
    · exact h i y (by rw [List.getD_eq_getElem?_getD]; exact hi)
    · rename_i hlt
      by_cases e0 : i - acc.length = 0
      · rw [e0] at hi
        simp only [List.getElem?_cons_zero, Option.getD_some] at hi
        have hi' : i = pre.length := by omega
        have ho : ops[i]? = some o := by
          rw [← Array.getElem?_toList, ← he, hi']; simp
        obtain ⟨e, hem, hb, hr⟩ := maskOf_spec hi
        rcases hr with hr | hr
        · refine ⟨1, ?_⟩
          simp only [reach, ho]
          exact Array.any_eq_true'.2 ⟨e, by simpa using hem, by simp [hb, hr]⟩
        · obtain ⟨f, hf⟩ := h _ _ hr
          refine ⟨f + 1, ?_⟩
          simp only [reach, ho]
          exact Array.any_eq_true'.2 ⟨e, by simpa using hem, by simp [hb, hf]⟩
      · obtain ⟨m, hm⟩ := Nat.exists_eq_succ_of_ne_zero e0
        rw [hm] at hi
        simp at hi
def okOrdM (E : Env) (ops : Array Oper) (ms : List Nat) : Bool := (List.range ops.size).all fun x => match ops[x]? with
  | none => true
  | some ox => ox.after.all (fun e => !Region.binds .any e || decide (e.on < x)) && (List.range x).all fun y => match ops[y]? with
    | none => true
    | some oy => (ms.getD x 0).testBit y || compat E ops oy ox
def okOrd (E : Env) (ops : Array Oper) : Bool := okOrdM E ops (masks ops.toList [])
theorem mask_reach {ops : Array Oper} {x y : Nat} (h : ((masks ops.toList []).getD x 0).testBit y = true) : ∃ f, reach ops f x y = true :=
  masks_spec ops ops.toList [] [] rfl rfl (fun i y hi => by simp at hi) x y h

def left (n : Nat) (listed : Array Bool) : List Nat := (List.range n).filter fun i => !listed.getD i true
theorem left_split {n i : Nat} (hi : i < n) (listed : Array Bool) (hl : listed.size = n) (hf : listed.getD i true = false) :
    ∃ pre post, left n listed = pre ++ i :: post ∧ left n (listed.setIfInBounds i true) = pre ++ post ∧ (∀ y ∈ pre, y < i ∧ listed.getD y true = false) := by
  have hr : List.range n = List.range i ++ i :: List.range' (i + 1) (n - (i + 1)) := by
    have : n = i + (1 + (n - (i + 1))) := by omega
    rw [List.range_eq_range', List.range_eq_range']
    conv => lhs; rw [this]
    rw [← List.range'_append_1, show 1 + (n - (i + 1)) = (n - (i + 1)) + 1 by omega, List.range'_succ]
    simp
  have hne : ∀ j, j ≠ i → (listed.setIfInBounds i true).getD j true = listed.getD j true := fun j hj => by
    simp only [Array.getD_eq_getD_getElem?, Array.getElem?_setIfInBounds_ne (Ne.symm hj)]
  refine ⟨(List.range i).filter fun j => !listed.getD j true, (List.range' (i + 1) (n - (i + 1))).filter fun j => !listed.getD j true, ?_, ?_, fun y hy => ?_⟩
  · unfold left; rw [hr, List.filter_append, List.filter_cons, if_pos (by simp only [hf]; rfl)]
  · unfold left; rw [hr, List.filter_append, List.filter_cons, if_neg (by simp [Array.getD_eq_getD_getElem?, hl, hi])]
    congr 1
    · exact List.filter_congr fun j hj => by rw [hne j (by have := List.mem_range.1 hj; omega)]
    · exact List.filter_congr fun j hj => by rw [hne j (by have := List.mem_range'_1.1 hj; omega)]
  · have := List.mem_filter.1 hy
    exact ⟨List.mem_range.1 this.1, by simpa using this.2⟩
theorem runAny (hE : EnvOk P E) (ops : Array Oper) (hok : okOrd E ops = true) {Kf : St → Prop} {Q : Exit → Act → World → Prop} : ∀ (fuel : Nat) (listed : Array Bool) (G : Ghost) (σ : St) (a : Act) (w : World), listed.size = ops.size →
    (left ops.size listed).length ≤ fuel → (∀ z, listed.getD z false = true → ∀ o, ops[z]? = some o → ∀ e ∈ o.after, Region.binds .any e = true → listed.getD e.on false = true) →
    Rel N p ds G σ a w → runOps P E N p ops ((left ops.size listed).filterMap fun i => ops[i]?) σ Kf →
    (∀ G' σ' a' w', Tr p G σ.M σ.K w G' σ'.M σ'.K w' → Rel N p ds G' σ' a' w' → Kf σ' → Q .normal a' w') → wpAny P .any ops Q fuel listed a w := by
  intro fuel
  have hsub : ∀ (listed : Array Bool) (i : Nat), i ∈ Region.ready .any ops listed → i < ops.size ∧ listed.getD i true = false ∧ ∃ o, ops[i]? = some o ∧ ∀ e ∈ o.after, Region.binds .any e = true → listed.getD e.on false = true := fun listed i hi => by
    have h := List.mem_filter.1 hi
    have h1 := List.mem_range.1 h.1
    have h2 := h.2
    simp only [Bool.and_eq_true, Bool.not_eq_true'] at h2
    refine ⟨h1, h2.1, ops[i], by simp [h1], fun e he hb => ?_⟩
    have h3 := h2.2
    rw [show ops[i]? = some ops[i] by simp [h1]] at h3
    simp only [Option.map_some, Option.getD_some, Array.all_eq_true'] at h3
    have := h3 e he
    simpa [hb] using this
  have hdone : ∀ (listed : Array Bool) (G : Ghost) (σ : St) (a : Act) (w : World), left ops.size listed = [] → Rel N p ds G σ a w → runOps P E N p ops ((left ops.size listed).filterMap fun i => ops[i]?) σ Kf →
      (∀ G' σ' a' w', Tr p G σ.M σ.K w G' σ'.M σ'.K w' → Rel N p ds G' σ' a' w' → Kf σ' → Q .normal a' w') → Q .normal a w := fun listed G σ a w hl hR hr hK => by
    rw [hl] at hr
    exact hK G σ a w (.refl _ _ _ _ _) hR hr
  induction fuel with
  | zero =>
    intro listed G σ a w hsz hlen hcl hR hr hK
    have hl : left ops.size listed = [] := List.eq_nil_of_length_eq_zero (by omega)
    refine ⟨?_, hdone listed G σ a w hl hR hr hK⟩
    refine List.eq_nil_iff_forall_not_mem.2 fun i hi => ?_
    obtain ⟨h1, h2, _⟩ := hsub listed i hi
    have : i ∈ left ops.size listed := List.mem_filter.2 ⟨List.mem_range.2 h1, by simp [h2]⟩
    rw [hl] at this; cases this
  | succ fuel ih =>
    intro listed G σ a w hsz hlen hcl hR hr hK
    refine ⟨fun hre => ?_, fun i hi => ?_⟩
    · refine hdone listed G σ a w ?_ hR hr hK
      -- the first that is left would be ready
      cases hl : left ops.size listed with
      | nil => rfl
      | cons i rest =>
        exfalso
        have hmem : i ∈ left ops.size listed := by rw [hl]; simp
        have hm := List.mem_filter.1 hmem
        have hin := List.mem_range.1 hm.1
        have hf : listed.getD i true = false := by simpa using hm.2
        obtain ⟨pre, post, e1, _, e3⟩ := left_split hin listed hsz hf
        have hpre : pre = [] := by
          cases pre with
          | nil => rfl
          | cons y pre =>
            rw [e1] at hl
            simp only [List.cons_append, List.cons.injEq] at hl
            have := (e3 y (by simp)).1
            omega
        subst hpre
        have hready : i ∈ Region.ready .any ops listed := by
          refine List.mem_filter.2 ⟨List.mem_range.2 hin, ?_⟩
          simp only [hf, Bool.not_false, Bool.true_and]
          rw [show ops[i]? = some ops[i] by simp [hin]]
          simp only [Option.map_some, Option.getD_some, Array.all_eq_true']
          intro e he
          cases hb : Region.binds .any e with
          | false => rfl
          | true =>
            have h1 := List.all_eq_true.1 hok i (List.mem_range.2 hin)
            rw [show ops[i]? = some ops[i] by simp [hin]] at h1
            simp only [Bool.and_eq_true, Array.all_eq_true'] at h1
            have h2 := h1.1 e he
            simp only [hb, Bool.not_true, Bool.false_or, decide_eq_true_eq] at h2
            have h3 : e.on ∉ left ops.size listed := fun hon => by
              have hon' := List.mem_filter.1 hon
              obtain ⟨pre', post', f1, _, f3⟩ := left_split (List.mem_range.1 hon'.1) listed hsz (by simpa using hon'.2)
              rw [f1] at hl
              cases pre' with
              | nil => simp only [List.nil_append, List.cons.injEq] at hl; omega
              | cons y pre' => simp only [List.cons_append, List.cons.injEq] at hl; have := (f3 y (by simp)).1; omega
            simp only [Bool.not_true, Bool.false_or]
            have hlt : e.on < listed.size := by rw [hsz]; omega
            cases hg : listed.getD e.on false with
            | true => rfl
            | false =>
              exact absurd (List.mem_filter.2 ⟨List.mem_range.2 (by omega), by
                have : listed.getD e.on true = false := by
                  simp only [Array.getD_eq_getD_getElem?] at hg ⊢
                  rw [show listed[e.on]? = some listed[e.on] by simp [hlt]] at hg ⊢
                  exact hg
                simp [this]⟩) h3
        rw [hre] at hready; cases hready
    · obtain ⟨hin, hf, o, ho, hdeps⟩ := hsub listed i hi
      obtain ⟨pre, post, e1, e2, e3⟩ := left_split hin listed hsz hf
      rw [e1, List.filterMap_append, List.filterMap_cons] at hr
      simp only [ho] at hr
      have hcomp : ∀ y ∈ pre.filterMap fun i => ops[i]?, compat E ops y o = true := fun y hy => by
        obtain ⟨j, hj, hjo⟩ := List.mem_filterMap.1 hy
        obtain ⟨hji, hjf⟩ := e3 j hj
        have h1 := List.all_eq_true.1 hok i (List.mem_range.2 hin)
        rw [ho] at h1
        simp only [Bool.and_eq_true] at h1
        have h2 := List.all_eq_true.1 h1.2 j (List.mem_range.2 hji)
        rw [hjo] at h2
        simp only [Bool.or_eq_true] at h2
        rcases h2 with h2 | h2
        rotate_left
        · exact h2
        · obtain ⟨fu, h2⟩ := mask_reach h2
          have := reach_mem (S := fun z => listed.getD z false = true) hcl fu i j (fun o' ho' => by rw [ho] at ho'; cases ho'; exact hdeps) h2
          have hlt : j < listed.size := by rw [hsz]; omega
          simp only [Array.getD_eq_getD_getElem?] at this hjf
          rw [show listed[j]? = some listed[j] by simp [hlt]] at this hjf
          simp only [Option.getD_some] at this hjf
          rw [hjf] at this; cases this
      obtain ⟨r1, r2⟩ := runOps_front hE ops o _ _ σ hcomp hR.wf hr
      refine gstep_sound hE hR ops i o ho r1 fun G' a' w' ht hR' => ?_
      refine ih (listed.setIfInBounds i true) G' _ a' w' (by simpa using hsz) ?_ (fun z hz o' ho' e he hb => ?_) hR' ?_ (fun G2 σ2 a2 w2 ht2 => hK G2 σ2 a2 w2 (ht.trans ht2))
      · rw [e2]; rw [e1] at hlen; simp at hlen ⊢; omega
      · have keep : ∀ t, listed.getD t false = true → (listed.setIfInBounds i true).getD t false = true := fun t ht => by
          simp only [Array.getD_eq_getD_getElem?, Array.getElem?_setIfInBounds] at ht ⊢
          have htl : t < listed.size := by
            rcases Nat.lt_or_ge t listed.size with h | h
            · exact h
            · rw [Array.getElem?_eq_none h] at ht; cases ht
          split
          · rename_i e; rw [if_pos (by rw [e]; exact htl)]; rfl
          · exact ht
        by_cases hzi : z = i
        · subst hzi; rw [ho] at ho'; cases ho'; exact keep _ (hdeps e he hb)
        · refine keep _ (hcl z ?_ o' ho' e he hb)
          simp only [Array.getD_eq_getD_getElem?, Array.getElem?_setIfInBounds_ne (Ne.symm hzi)] at hz ⊢
          exact hz
      · rw [e2, List.filterMap_append]; exact r2

end
end Go.Proofs.Ytiippmhlkcbjmaa.Ax
