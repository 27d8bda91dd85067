/- Abstract execution, part F: one operation is sound. -/
import Derived.Test.YtiippmhlkcbjmaaAxE
set_option linter.unusedVariables false
set_option linter.unusedSimpArgs false
namespace Go.Proofs.Ytiippmhlkcbjmaa.Ax
open Go

section
variable {P : Program} {E : Env} {N : Nat} {p : Path} {ds : List Deferred} {G : Ghost} {σ : St} {a : Act} {w : World}

theorem run_v {s : Sem Value} {v : Value} {w' : World} (h : s.run P w = .ok v w') : (do pure (Next.value (← s)) : Sem Next).run P w = .ok (.value v) w' := by
  simp only [Sem.run_bind, h, Result.andThen_ok]; rfl
theorem of_sv {s : Sem Value} {r : R} (h : SV P G w s r) (hp : r.pre) : ∃ v, (do pure (Next.value (← s)) : Sem Next).run P w = .ok (.value v) w ∧ Rep G v r.v := by
  obtain ⟨v, hv, hr⟩ := h hp
  exact ⟨v, run_v hv, hr⟩
theorem rep_nil {x : Value} {x' : V} (hx : Rep G x x') (hp : (rNil x').pre) : ∃ v, (match x with
    | .pointer none | .nilIface | .nilFunc => runtimePanic .nilDeref
    | .func (.method name) first captured =>
      match (first[0]? : Option Value) with
      | some .nilIface => runtimePanic .nilDeref
      | some (.iface t w) => do
        if (← nilAhead ((← program).types.size + Made.depth) t w name) != some false then
          unsupported (.noEntry "op/nilCheck.the method's receiver behind this interface value is a nil pointer, or cannot be seen to be none, and the arguments act or may panic (ledger 612)")
        pure (.value (.func (.method name) first captured))
      | _ => pure (.value (.func (.method name) first captured))
    | x => pure (.value x) : Sem Next).run P w = .ok (.value v) w ∧ Rep G v (rNil x').v := by
  cases hx with
  | ptr id off b hl => exact ⟨_, rfl, .ptr id off b hl⟩
  | cptr b o cs off vs hfx hrep => exact ⟨_, rfl, .cptr b o cs off vs hfx hrep⟩
  | fn f arr cs hl h => exact ⟨_, rfl, .fn f arr cs hl h⟩
  | _ => exact hp.elim
theorem ivO_map (x : Option Operand) (hR : Rel N p ds G σ a w) : ivO (x.map a.eval) (x.map σ.ev) := by
  cases x with
  | none => trivial
  | some x => intro k n hx; have := hR.eval x; rw [hx] at this; exact rep_int_inv this

theorem rop_sound (hE : EnvOk P E) (h : Rel N p ds G σ a w) (o : Oper) (hp : (rop P E σ.ev σ.M o.op).pre) :
    ∃ v, (execOp a.eval o).run P w = .ok (.value v) w ∧ Rep G v (rop P E σ.ev σ.M o.op).v := by
  obtain ⟨dst, op, type, pos, after, guard⟩ := o
  cases op with
  | move x => exact ⟨_, rfl, h.eval x⟩
  | assign x => exact ⟨_, rfl, h.eval x⟩
  | pick c x y =>
    obtain ⟨v, hv, hr⟩ := sv_pick (P := P) (w := w) (h.eval c) (h.eval x) (h.eval y) hp
    refine ⟨v, ?_, hr⟩
    simp only [execOp]
    simp only [Sem.run_bind, Sem.run_pure] at hv ⊢
    cases hb : (asBool (a.eval c)).run P w with
    | ok t w' => rw [hb] at hv; simp only [Result.andThen_ok] at hv ⊢; cases hv; rfl
    | halt x w' => rw [hb] at hv; simp at hv
  | load t x =>
    have hs := sv_load (P := P) h.sim t (h.eval x)
    simp only [rop] at hp ⊢
    split at hp
    · rename_i hf
      simp only [if_pos hf]
      have hc : SV P G w (Instr.loadAt t (a.eval x)) (rLoadC P t (σ.ev x)) := fun hp' => by
        unfold rLoadC at hp' ⊢
        split at hp'
        · rename_i cs off e
          rw [e] at hs
          exact hs hp'
        · exact hp'.elim
      exact of_sv hc hp
    · rename_i hf
      simp only [if_neg hf]
      exact of_sv hs hp
  | build t ps =>
    refine of_sv (sv_build t (by simp) fun i x x' hx hx' => ?_) hp
    simp only [Array.toList_map, List.getElem?_map] at hx hx'
    obtain ⟨y, hy, rfl⟩ := Option.map_eq_some_iff.1 hx
    rw [hy] at hx'; simp at hx'; subst hx'
    exact ⟨rfl, h.eval y.2⟩
  | nilCheck x => exact rep_nil (h.eval x) hp
  | binOp op t x y yt => exact of_sv (sv_bin hE.eq op t x y (h.eval x) (h.eval y)) hp
  | unOp op t x => exact of_sv (sv_un op (h.eval x)) hp
  | convert s d x => exact of_sv (sv_conv h.sim s d (h.eval x)) hp
  | makeInterface t x => exact of_sv (sv_iface t (h.eval x)) hp
  | makeFunc fn first caps =>
    cases fn with
    | func f =>
      obtain rfl : first = #[] := hp
      refine ⟨.func (.func f) #[] (caps.map a.eval), by simp [execOp, Instr.makeFunc], rep_fn ?_⟩
      have := repL_eval h caps.toList
      simpa using this
    | _ => exact hp.elim
  | slice t x lo hi mx =>
    cases mx with
    | none => exact of_sv (sv_slice t (h.eval x) (ivO_map lo h) (ivO_map hi h)) hp
    | some m => exact hp.elim
  | fieldAddr s x f => exact of_sv (sv_field s f (h.eval x)) hp
  | field s x f => exact of_sv (sv_part s f (h.eval x)) hp
  | indexAddr t x i => exact of_sv (sv_ixAddr t (h.eval x) (h.eval i)) hp
  | index t x i => exact of_sv (sv_ix t (h.eval x) (h.eval i)) hp
  | typeAssert x xt t ok => exact of_sv (sv_assert xt t ok (h.eval x)) hp
  | extract x i => exact of_sv (sv_extract i (h.eval x)) hp
  | call c =>
    obtain ⟨callee, args, ts⟩ := c
    cases callee with
    | builtin b =>
      obtain ⟨v, hv, hr⟩ := sv_builtin (P := P) (w := w) b ts type (args.map fun | .const _ => true | _ => false) (repL_eval h args.toList) hp
      refine ⟨v, ?_, hr⟩
      have e : (args.toList.map a.eval).toArray = args.map a.eval := by apply Array.ext'; rw [Array.toList_map]
      rw [e] at hv
      show (do let d ← resolve a.eval ⟨.builtin b, args, ts⟩ type; invoke d.target d.args : Sem Next).run P w = _
      rw [Sem.run_bind]
      exact hv
    | _ => exact hp.elim
  | _ => exact hp.elim

/-- What an operation without a call comes to. -/
def Done (P : Program) (N : Nat) (p : Path) (ds : List Deferred) (G : Ghost) (σ : St) (a : Act) (w : World) (o : Oper) (c : Core) : Prop :=
  ∃ v w' G', ((execOp a.eval o).run P w = .ok (.value v) w' ∨ ((execOp a.eval o).run P w = .ok .skip w' ∧ v = undef)) ∧ Rep G' v c.v ∧ Tr p G σ.M σ.K w G' c.M c.K w' ∧
    Rel N p ds G' { σ with M := c.M, K := c.K, cnt := c.cnt } a w'
theorem Rel.eta (h : Rel N p ds G σ a w) : Rel N p ds G { σ with M := σ.M, K := σ.K, cnt := σ.cnt } a w := h
theorem done_reg (hE : EnvOk P E) (h : Rel N p ds G σ a w) (o : Oper) (hp : (rop P E σ.ev σ.M o.op).pre) : Done P N p ds G σ a w o (coreR (rop P E σ.ev σ.M o.op) σ.M σ.K σ.cnt) := by
  obtain ⟨v, hv, hr⟩ := rop_sound hE h o hp
  exact ⟨v, w, G, .inl hv, hr, .refl _ _ _ _ _, h⟩

theorem done_box (h : Rel N p ds G σ a w) (o : Oper) (t : TypeId) (x : Value) (x' : V) (hx : Rep G x x') (hj : x'.isJunk = false) (he : (execOp a.eval o).run P w = .ok (.value (.pointer (some ⟨w.heap.size, 0, none⟩))) (w.alloc (.cells x.cells t)))
    (pre : Prop) : Done P N p ds G σ a w o (coreNew p pre o.dst (fun id => .ptr id 0) (some (.cells x'.cells)) false σ.M σ.K σ.cnt) := by
  have hf := (h.fresh o.dst (nid σ.cnt p o.dst) (List.suffix_refl _)).1
  have hs := h.sim.alloc_box hf x.cells t x'.cells (rep_cells hx hj)
  have ht := Tr.alloc_box h.sim (p := nid σ.cnt p o.dst) (List.suffix_refl _) hf x.cells t x'.cells
  exact ⟨_, _, _, .inl he, .ptr _ 0 _ (by simp [Ghost.addLoc]), ht.mono (Rel.pre_suffix _ _ _), h.next o.dst ht hs⟩
theorem done_alloc (h : Rel N p ds G σ a w) (o : Oper) (t : TypeId) (ho : o.op = .alloc t) (hp : (opCore P E p σ.ev σ.M σ.K σ.cnt o.dst o.op).pre) : Done P N p ds G σ a w o (opCore P E p σ.ev σ.M σ.K σ.cnt o.dst o.op) := by
  rw [ho] at hp ⊢
  simp only [opCore] at hp ⊢
  cases hz : zval P t with
  | none => rw [hz] at hp; exact hp.elim
  | some z =>
    rw [hz] at hp
    simp only at hp ⊢
    obtain ⟨z0, hz0, hr, _⟩ := zval_some hz G w
    refine done_box h o t z0 z hr hp ?_ _
    obtain ⟨dst, op, type, pos, after, guard⟩ := o
    simp only at ho; subst ho
    refine run_v ?_
    simp only [Instr.alloc, Sem.run_bind, hz0, Result.andThen_ok, newVar, newRow]
    rfl
theorem done_boxOp (h : Rel N p ds G σ a w) (o : Oper) (t : TypeId) (x : Operand) (ho : o.op = .box t x) (hp : (opCore P E p σ.ev σ.M σ.K σ.cnt o.dst o.op).pre) : Done P N p ds G σ a w o (opCore P E p σ.ev σ.M σ.K σ.cnt o.dst o.op) := by
  rw [ho] at hp ⊢
  refine done_box h o t (a.eval x) (σ.ev x) (h.eval x) hp ?_ _
  obtain ⟨dst, op, type, pos, after, guard⟩ := o
  simp only at ho; subst ho
  exact run_v rfl

theorem one_cell {v : Value} {x : V} (hr : Rep G v x) (hx : x.one = true) : v.oneCell' = true := by
  cases hr <;> first | rfl | (simp [V.one] at hx)
theorem isJunk_of_cells {x : V} (h : x.cells.all V.one = true) : x.isJunk = false := by
  cases x <;> first | rfl | (simp [V.cells, V.one] at h)
theorem done_store (h : Rel N p ds G σ a w) (o : Oper) (t : TypeId) (x y : Operand) (ho : o.op = .store t x y) (hp : (opCore P E p σ.ev σ.M σ.K σ.cnt o.dst o.op).pre) : Done P N p ds G σ a w o (opCore P E p σ.ev σ.M σ.K σ.cnt o.dst o.op) := by
  rw [ho] at hp ⊢
  simp only [opCore, coreStore] at hp ⊢
  have hx := h.eval x
  cases hx' : σ.ev x <;> rw [hx'] at hp hx <;> try exact hp.elim
  rename_i id off
  simp only at hp ⊢
  cases hm : σ.M id with
  | none => rw [hm] at hp; exact hp.elim
  | some bx =>
    cases bx with
    | mp es => rw [hm] at hp; exact hp.elim
    | cells cs =>
      rw [hm] at hp
      obtain ⟨h0, h1, h2, h3⟩ := hp
      obtain ⟨inf, hi, hsz⟩ := info_of_cells h0
      generalize hax : a.eval x = ax at hx
      cases hx with | ptr _ _ b hl =>
      obtain ⟨b', arr, T, hl', hh, hr, hf⟩ := h.sim.box id cs hm
      rw [hl] at hl'; cases hl'
      have hrc := rep_cells (h.eval y) (isJunk_of_cells h2)
      have hlen : (a.eval y).cells.toList.length = P.cellsOf t := hrc.1.trans h1
      have har : arr.size = cs.length := by have := hr.1; simpa using this
      have h1c : ∀ v ∈ (a.eval y).cells.toList, v.oneCell' = true := fun v hv => by
        obtain ⟨i, hi⟩ := List.mem_iff_getElem?.1 hv
        obtain ⟨c, hc, hrep⟩ := hrc.get' hi
        exact one_cell hrep (List.all_eq_true.1 h2 c (List.mem_of_getElem? hc))
      have hst := run_storeCells_at P b off T (a.eval y).cells.toList 0 arr w hh (by rw [hlen]; omega) h1c
      simp only [Nat.add_zero] at hst
      have hnew := repL_splice hr hrc off
      have hs := h.sim.store hm hl hh (arr.toList.take off ++ (a.eval y).cells.toList ++ arr.toList.drop (off + (a.eval y).cells.toList.length)).toArray (splice cs off (σ.ev y).cells) (by simpa using hnew)
      have ht := Tr.store (K := σ.K) (w := w) p hm hl (arr.toList.take off ++ (a.eval y).cells.toList ++ arr.toList.drop (off + (a.eval y).cells.toList.length)).toArray (splice cs off (σ.ev y).cells)
      refine ⟨undef, _, G, .inr ⟨?_, rfl⟩, rep_tup (.nil G), ht, h.same (.refl G) rfl rfl hs⟩
      obtain ⟨dst, op, type, pos, after, guard⟩ := o
      simp only at ho; subst ho
      have hsz' : (a.eval y).cells.size = P.cellsOf t := by simpa using hlen
      simp only [execOp, Instr.storeAt, hax, Instr.sureAddr, storeVar, Sem.run_bind, Sem.run_pure, Result.andThen_ok, run_sizeOf hi, hsz', ne_eq, not_true_eq_false, if_false, hst]
theorem repL_erMap {l : List Value} {c : List V} (h : RepL G l c) : RepL G l (c.map V.er) := repL_er h

/-- Cells that lie one behind the other. -/
theorem flat_get {α : Type} {s : Nat} : ∀ {ls : List (List α)}, (∀ l ∈ ls, l.length = s) → ∀ {i j : Nat} {l : List α} {x : α}, ls[i]? = some l → l[j]? = some x → ls.flatten[i * s + j]? = some x
  | l0 :: ls, hs, 0, j, l, x, hl, hx => by
    simp at hl; subst hl
    rw [List.flatten_cons, Nat.zero_mul, Nat.zero_add, List.getElem?_append_left (List.getElem?_eq_some_iff.1 hx).1]
    exact hx
  | l0 :: ls, hs, i + 1, j, l, x, hl, hx => by
    have h0 := hs l0 (by simp)
    rw [List.flatten_cons, List.getElem?_append_right (by rw [h0, Nat.add_mul]; omega), h0, show (i + 1) * s + j - s = i * s + j by rw [Nat.add_mul]; omega]
    exact flat_get (fun l hl => hs l (by simp [hl])) (by simpa using hl) hx
theorem flat_len {α : Type} {s : Nat} : ∀ {ls : List (List α)}, (∀ l ∈ ls, l.length = s) → ls.flatten.length = ls.length * s
  | [], _ => by simp
  | l :: ls, hs => by rw [List.flatten_cons, List.length_append, hs l (by simp), flat_len fun l hl => hs l (by simp [hl]), List.length_cons, Nat.add_mul]; omega
/-- A slice over cells that are fixed. -/
theorem rep_slice {b o c s : Nat} {els : List (List V)} {vs : List (List Value)} (tk : Tk) (hl : vs.length = els.length) (hs : ∀ el ∈ els, el.length = s) (hr : ∀ (i : Nat) v el, vs[i]? = some v → els[i]? = some el → RepL G v el)
    (hfx : ∀ (i : Nat) v, vs.flatten[i]? = some v → G.fx b (o + i) = some v) (hc : els.length ≤ c) (hm : c ≤ 9223372036854775807) (hex : tk = .ex → c = els.length) (htk : ∀ p s', tk = .own p s' → o = 0 ∧ s' = s ∧ G.tl p = some (b, c, s, els.length)) :
    Rep G (.slice (some ⟨b, o, none⟩) els.length c) (.sl els tk) := by
  have hvs : ∀ v ∈ vs, v.length = s := fun v hv => by
    obtain ⟨i, hi⟩ := List.mem_iff_getElem?.1 hv
    have hlt : i < els.length := by rw [← hl]; exact (List.getElem?_eq_some_iff.1 hi).1
    rw [(hr i v els[i] hi (by simp [hlt])).1]
    exact hs _ (by simp)
  have key : ∀ (i j : Nat) el x, els[i]? = some el → el[j]? = some x → ∃ v u, vs[i]? = some v ∧ v[j]? = some u ∧ Rep G u x := fun i j el x h1 h2 => by
    have hlt : i < vs.length := by rw [hl]; exact (List.getElem?_eq_some_iff.1 h1).1
    obtain ⟨u, hu, hru⟩ := (hr i vs[i] el (by simp [hlt]) h1).get h2
    exact ⟨vs[i], u, by simp [hlt], hu, hru⟩
  refine .sl b o c s els tk (fun i j => ((vs[i]?.getD [])[j]?).getD undef) hs hc hm (fun i j el x h1 h2 => ?_) (fun i j el x h1 h2 => ?_) hex htk
  · obtain ⟨v, u, e1, e2, _⟩ := key i j el x h1 h2
    simp only [e1, Option.getD_some, e2]
    rw [Nat.add_assoc]
    exact hfx _ _ (flat_get hvs e1 e2)
  · obtain ⟨v, u, e1, e2, hru⟩ := key i j el x h1 h2
    simp only [e1, Option.getD_some, e2]
    exact hru
end
end Go.Proofs.Ytiippmhlkcbjmaa.Ax
