/- Kinds of arguments: rows of records, tables, worlds. -/
import Derived.Test.YtaacfmakfkaddaaDoorAxR
import Derived.WideShapes
import Derived.SizedLaws
set_option linter.unusedVariables false
set_option linter.unusedSimpArgs false
namespace Go.Proofs.YtaacfmakfkaddaaDoor.Ax
section
open Go

/-- A record in the cells of a slice. -/
structure Rw (α : Type) where
  enc : α → List V
  dec : List V → Option α
  inv : ∀ v a, dec v = some a → v = enc a
  ok : ∀ a, dec (enc a) = some a
section
variable {α : Type}
def Rw.encL (R : Rw α) (l : List α) : List (List V) := l.map R.enc
def Rw.decL (R : Rw α) : List (List V) → Option (List α)
  | [] => some []
  | c :: r => (R.dec c).bind fun a => (R.decL r).map (a :: ·)
theorem Rw.decL_inv (R : Rw α) : ∀ (els : List (List V)) (l : List α), R.decL els = some l → els = R.encL l
  | [], l, h => by simp [Rw.decL] at h; subst h; rfl
  | c :: r, l, h => by
    simp only [Rw.decL] at h
    obtain ⟨a, ha, h⟩ := Option.bind_eq_some_iff.1 h
    obtain ⟨m, hm, rfl⟩ := Option.map_eq_some_iff.1 h
    rw [R.inv _ _ ha, R.decL_inv _ _ hm]; rfl
@[simp] theorem Rw.decL_encL (R : Rw α) (l : List α) : R.decL (R.encL l) = some l := by
  induction l with
  | nil => rfl
  | cons a l ih => show R.decL (R.enc a :: R.encL l) = _; simp [Rw.decL, R.ok, ih]
@[simp] theorem Rw.encL_nil (R : Rw α) : R.encL [] = [] := rfl
@[simp] theorem Rw.encL_cons (R : Rw α) (a : α) (l : List α) : R.encL (a :: l) = R.enc a :: R.encL l := rfl
@[simp] theorem Rw.encL_length (R : Rw α) (l : List α) : (R.encL l).length = l.length := by simp [Rw.encL]
@[simp] theorem Rw.encL_getElem (R : Rw α) (l : List α) (n : Nat) (h : n < (R.encL l).length) : (R.encL l)[n] = R.enc (l[n]'(by simpa using h)) := by simp [Rw.encL]
theorem Rw.encL_append (R : Rw α) (l m : List α) : R.encL (l ++ m) = R.encL l ++ R.encL m := by simp [Rw.encL]
theorem Rw.encL_take_succ (R : Rw α) (l : List α) (j : Nat) (h : j < l.length) : R.encL (l.take (j + 1)) = R.encL (l.take j) ++ [R.enc l[j]] := by
  rw [List.take_add_one, R.encL_append]; simp [h]
theorem Rw.fitL_encL (R : Rw α) {s : Nat} (h : ∀ a, (R.enc a).length = s ∧ ∀ y ∈ R.enc a, V.one y = true) (l : List α) : fitL s (R.encL l) = true := fitL_of fun el hel => by
  obtain ⟨a, _, rfl⟩ := List.mem_map.1 hel; exact h a
theorem Rw.lenL_encL (R : Rw α) {s : Nat} (h : ∀ a, (R.enc a).length = s) (l : List α) : lenL s (R.encL l) = True := eq_true fun el hel => by
  obtain ⟨a, _, rfl⟩ := List.mem_map.1 hel; exact h a
def kRs (R : Rw α) : Kd (List α) := ⟨fun l => .sl (R.encL l) .no, fun v => match v with | .sl els .no => R.decL els | _ => none, fun v a h => by
  split at h
  · rw [R.decL_inv _ _ h]
  · cases h⟩
@[simp] theorem kRs_enc (R : Rw α) (l : List α) : (kRs R).enc l = .sl (R.encL l) .no := rfl
@[simp] theorem kRs_dec (R : Rw α) (els : List (List V)) : (kRs R).dec (.sl els .no) = R.decL els := rfl
def kRw (R : Rw α) : Kd α := ⟨fun a => .agg (R.enc a), fun v => match v with | .agg cs => R.dec cs | _ => none, fun v a h => by
  split at h
  · rw [R.inv _ _ h]
  · cases h⟩
@[simp] theorem kRw_enc (R : Rw α) (a : α) : (kRw R).enc a = .agg (R.enc a) := rfl
@[simp] theorem kRw_dec (R : Rw α) (cs : List V) : (kRw R).dec (.agg cs) = R.dec cs := rfl
end

/-! ### Tables, worlds -/
structure Tb where
  id : Int
  args : Int
  vals : List Int
def encTb (t : Tb) : List V := [.int .i64 t.id, .int .i64 t.args, .sl (encI .i64 t.vals) .no]
def decTb : List V → Option Tb
  | [.int .i64 a, .int .i64 b, .sl els .no] => (decI .i64 els).map (Tb.mk a b)
  | _ => none
theorem decTb_inv (v : List V) (a : Tb) (h : decTb v = some a) : v = encTb a := by
  unfold decTb at h
  split at h
  · obtain ⟨l, hl, rfl⟩ := Option.map_eq_some_iff.1 h
    rw [decI_inv _ _ _ hl]; rfl
  · cases h
def rTb : Rw Tb := ⟨encTb, decTb, decTb_inv, fun a => by simp [encTb, decTb]⟩
@[simp] theorem rTb_enc (t : Tb) : rTb.enc t = [.int .i64 t.id, .int .i64 t.args, .sl (encI .i64 t.vals) .no] := rfl
@[simp] theorem rTb_dec (a b : Int) (els : List (List V)) : rTb.dec [.int .i64 a, .int .i64 b, .sl els .no] = (decI .i64 els).map (Tb.mk a b) := rfl
@[simp] theorem lenL_tb (l : List Tb) : lenL 3 (rTb.encL l) = True := rTb.lenL_encL (fun _ => rfl) l
structure Wo where
  size : Int
  funcs : List Tb
  preds : List Tb
def encWo (w : Wo) : List V := [.int .i64 w.size, .sl (rTb.encL w.funcs) .no, .sl (rTb.encL w.preds) .no]
def decWo : List V → Option Wo
  | [.int .i64 a, .sl f .no, .sl p .no] => (rTb.decL f).bind fun f => (rTb.decL p).map (Wo.mk a f)
  | _ => none
theorem decWo_inv (v : List V) (a : Wo) (h : decWo v = some a) : v = encWo a := by
  unfold decWo at h
  split at h
  · obtain ⟨f, hf, h⟩ := Option.bind_eq_some_iff.1 h
    obtain ⟨l, hl, rfl⟩ := Option.map_eq_some_iff.1 h
    rw [rTb.decL_inv _ _ hl, rTb.decL_inv _ _ hf]; rfl
  · cases h
def rWo : Rw Wo := ⟨encWo, decWo, decWo_inv, fun a => by simp [encWo, decWo]⟩
@[simp] theorem rWo_enc (w : Wo) : rWo.enc w = [.int .i64 w.size, .sl (rTb.encL w.funcs) .no, .sl (rTb.encL w.preds) .no] := rfl
@[simp] theorem rWo_dec (a : Int) (f p : List (List V)) : rWo.dec [.int .i64 a, .sl f .no, .sl p .no] = (rTb.decL f).bind fun f => (rTb.decL p).map (Wo.mk a f) := rfl
end
section
open Go Go.RowKit Go.ChangeShapes Go.WideShapes

section
variable {H : Type} (eH : TypeId × Value → H) (P : Program) (W : World) (base : Nat) (spare : Nat → Bool) (held : Bool)
/-- What reads as a datum of this type, within the form's reach, stands for such an object. -/
def OpenAt {α : Type} (n : Nat) (t : TypeId) (e : α → List V) (ok : α → Prop) : Prop :=
  ∀ cs x, DataW.trod eH P W base spare held n t cs = some x → (∀ w ∈ x.1.weights P t, w ≤ reachBytes) → ∃ a, RepL (gh (cellsOf W)) cs (e a) ∧ ok a
end
section
variable {H : Type} {eH : TypeId × Value → H} {P : Program} {W : World} {base : Nat} {spare : Nat → Bool} {held : Bool}
def inK (k : IntKind) (n : Int) : Prop := k.min ≤ n ∧ n ≤ k.max
theorem OpenAt.map {α β : Type} {n : Nat} {t : TypeId} {e : α → List V} {ok : α → Prop} (h : OpenAt eH P W base spare held n t e ok) (f : α → β) {e' : β → List V} {ok' : β → Prop} (he : ∀ a, e' (f a) = e a) (hk : ∀ a, ok a → ok' (f a)) : OpenAt eH P W base spare held n t e' ok' := fun cs x hx hw => by
  obtain ⟨a, h1, h2⟩ := h cs x hx hw
  exact ⟨f a, by rw [he]; exact h1, hk a h2⟩
theorem at_int {k : IntKind} {t : TypeId} (ht : P.underlying t = some (.int k)) (n : Nat) : OpenAt eH P W base spare held n t (fun m : Int => [.int k m]) (inK k) := fun cs x hx _ => by
  obtain ⟨m, rfl, rfl, hw⟩ := DataW.trod_int ht hx
  simp only [Lit.wf, Bool.and_eq_true, decide_eq_true_eq] at hw
  exact ⟨m, .cons (.int _ _) (.nil _), hw⟩
theorem weightsAll_mem {t : TypeId} : ∀ {l : List (DataW H)} {d : DataW H}, d ∈ l → ∀ n ∈ d.weights P t, n ∈ DataW.weightsAll P t l
  | d0 :: l, d, hd, n, hn => by
    simp only [DataW.weightsAll, List.mem_append]
    rcases List.mem_cons.1 hd with rfl | h
    · exact .inl hn
    · exact .inr (weightsAll_mem h n hn)
theorem at_rows {α : Type} {e : α → List V} {ok : α → Prop} {tS t : TypeId} {s : Nat} (hS : P.underlying tS = some (.slice t)) (hc : P.cellsOf t = s) (hs : 0 < s) (hl : ∀ a, (e a).length = s) {n : Nat}
    (ih : ∀ m, m < n → OpenAt eH P W base spare held m t e ok) : OpenAt eH P W base spare held n tS (fun l : List α => [.sl (l.map e) .no]) (fun l => (∀ a ∈ l, ok a) ∧ l.length * P.bytesOf t ≤ reachBytes) := by
  intro cs x h hw
  rcases DataW.trod_slice hS h with ⟨rfl, rfl⟩ | ⟨a, len, cap, elems, rest, m, rfl, rfl, rfl, hb, hlc, hcm, hel, hat, _⟩
  · exact ⟨[], .cons (.sl0 _ _) (.nil _), by simp, by simp⟩
  · have hw0 : elems.length * P.bytesOf t ≤ reachBytes := by
      have := hw ((elems.length + rest.length) * P.bytesOf t) (by simp [DataW.weights, hS])
      exact Nat.le_trans (Nat.mul_le_mul_right _ (Nat.le_add_right _ _)) this
    have key : ∀ i, i < len → ∃ al, ok al ∧ ∃ csi : List Value, csi.length = s ∧ (∀ j, j < s → W.cell? ((a.add (i * s)).add j) = csi[j]?) ∧ RepL (gh (cellsOf W)) csi (e al) := fun i hi => by
      have h1 := hat i hi
      rw [hc] at h1
      have hi' : i < elems.length := by omega
      rw [List.getElem?_eq_getElem hi'] at h1
      obtain ⟨csi, h2, h3⟩ := Option.bind_eq_some_iff.1 h1
      obtain ⟨al, hr, hok⟩ := ih m (Nat.lt_succ_self m) csi _ h3 fun w hwm => hw w (by
        have h4 : (elems[i]).1 ∈ elems.map (·.1) := List.mem_map.2 ⟨_, List.getElem_mem hi', rfl⟩
        simp only [DataW.weights, hS, List.mem_cons, List.mem_append]
        exact .inr (.inl (weightsAll_mem h4 w hwm)))
      obtain ⟨_, h4, h5⟩ := World.cells?_some h2
      exact ⟨al, hok, csi, h4, h5, hr⟩
    obtain ⟨l, hll, hp⟩ := list_of len key
    obtain ⟨b, o, spot⟩ := a
    refine ⟨l, .cons ?_ (.nil _), fun x hx => ?_, by rw [hll, ← hel]; exact hw0⟩
    rotate_left
    · obtain ⟨i, hi⟩ := List.mem_iff_getElem?.1 hx; exact (hp i x hi).1
    cases l with
    | nil => simp at hll; subst hll; exact .sl0 _ _
    | cons a0 l0 =>
      have hsp : spot = none := by
        obtain ⟨_, csi, h1, h2, _⟩ := hp 0 a0 rfl
        have h3 := h2 0 hs
        rw [List.getElem?_eq_getElem (by omega)] at h3
        simpa [Addr.add] using World.cell?_spot h3
      subst hsp
      generalize hL : a0 :: l0 = L at *
      have hlen : len = (L.map e).length := by simp [hll]
      rw [hlen]
      refine .sl b o cap s _ .no (fun i j => (W.cell? ⟨b, o + i * s + j, none⟩).getD undef) (fun el hel => ?_) (by rw [← hlen]; exact hlc) (by unfold maxLen at hcm; omega) (fun i j el x h1 h2 => ?_) (fun i j el x h1 h2 => ?_) (by simp) (by simp)
      · obtain ⟨al, _, rfl⟩ := List.mem_map.1 hel; exact hl al
      all_goals
        rw [List.getElem?_map] at h1
        obtain ⟨al, hal, rfl⟩ := Option.map_eq_some_iff.1 h1
        obtain ⟨_, csi, g1, g2, g3⟩ := hp i al hal
        have hj : j < s := by rw [← hl al]; exact (List.getElem?_eq_some_iff.1 h2).1
        have g4 := g2 j hj
        rw [Addr.add_lit, Addr.add_lit] at g4
        obtain ⟨u, hu, hru⟩ := g3.get h2
        rw [hu] at g4
      · show W.cell? ⟨b, o + i * s + j, none⟩ = _
        rw [g4]; rfl
      · simp only [g4, Option.getD_some]; exact hru
theorem repL_split {G : Ghost} {cs : List Value} {e : List V} (o c : Nat) (h : RepL G ((cs.drop o).take c) e) {es : List V} (hr : RepL G (cs.drop (o + c)) es) : RepL G (cs.drop o) (e ++ es) := by
  have := h.append hr
  rwa [← List.drop_drop, List.take_append_drop] at this
theorem at_struct3 {α β γ : Type} {tE : TypeId} {f0 f1 f2 : Field} (hE : P.underlying tE = some (.struct #[f0, f1, f2])) {e0 : α → List V} {e1 : β → List V} {e2 : γ → List V} {k0 : α → Prop} {k1 : β → Prop} {k2 : γ → Prop} {n : Nat}
    (o0 : f0.offset = 0) (o1 : f1.offset = P.cellsOf f0.type) (o2 : f2.offset = f1.offset + P.cellsOf f1.type) (oe : P.cellsOf tE = f2.offset + P.cellsOf f2.type)
    (h0 : ∀ m, m < n → OpenAt eH P W base spare held m f0.type e0 k0) (h1 : ∀ m, m < n → OpenAt eH P W base spare held m f1.type e1 k1) (h2 : ∀ m, m < n → OpenAt eH P W base spare held m f2.type e2 k2) :
    OpenAt eH P W base spare held n tE (fun x : α × β × γ => e0 x.1 ++ (e1 x.2.1 ++ e2 x.2.2)) (fun x => k0 x.1 ∧ k1 x.2.1 ∧ k2 x.2.2) := by
  intro cs x h hw
  obtain ⟨xs, m, rfl, rfl, hl, hxl, hf⟩ := DataW.trod_struct hE h
  obtain ⟨x0, x1, x2, rfl⟩ : ∃ c0 c1 c2, xs = [c0, c1, c2] := by
    match xs, hxl with
    | [a, b, c], _ => exact ⟨a, b, c, rfl⟩
  simp only [DataW.weights, hE] at hw
  simp only [List.map_cons, List.map_nil, DataW.weightsEach, List.mem_append, List.append_nil] at hw
  obtain ⟨a0, r0, ok0⟩ := h0 m (Nat.lt_succ_self m) _ x0 (hf 0 f0 rfl) fun w h => hw w (.inl h)
  obtain ⟨a1, r1, ok1⟩ := h1 m (Nat.lt_succ_self m) _ x1 (hf 1 f1 rfl) fun w h => hw w (.inr (.inl h))
  obtain ⟨a2, r2, ok2⟩ := h2 m (Nat.lt_succ_self m) _ x2 (hf 2 f2 rfl) fun w h => hw w (.inr (.inr h))
  refine ⟨(a0, a1, a2), ?_, ok0, ok1, ok2⟩
  have hend : RepL (gh (cellsOf W)) (cs.drop (f2.offset + P.cellsOf f2.type)) [] := by rw [List.drop_eq_nil_of_le (by omega)]; exact .nil _
  have s2 := repL_split _ _ r2 hend
  rw [o2] at s2
  have s1 := repL_split _ _ r1 s2
  rw [o1] at s1
  rw [← Nat.zero_add (P.cellsOf f0.type), ← o0] at s1
  have s0 := repL_split _ _ r0 s1
  rw [o0] at s0
  simpa using s0
/-! ### Expressions -/
mutual
def fineE : Ex → Bool
  | .mk k i l => decide (-9223372036854775808 ≤ k) && decide (k ≤ 9223372036854775807) && decide (-9223372036854775808 ≤ i) && decide (i ≤ 9223372036854775807) && decide (l.length * 40 ≤ 140737488351232) && fineL l
def fineL : List Ex → Bool
  | [] => true
  | e :: l => fineE e && fineL l
end
theorem fineL_all : ∀ l : List Ex, fineL l = true ↔ ∀ e ∈ l, fineE e = true
  | [] => by simp [fineL]
  | e :: l => by rw [fineL, Bool.and_eq_true, fineL_all l]; simp
theorem at_ex {tE tS tI : TypeId} {f0 f1 f2 : Field} (hE : P.underlying tE = some (.struct #[f0, f1, f2])) (hS : P.underlying tS = some (.slice tE)) (hI : P.underlying tI = some (.int .i64)) (e0 : f0.type = tI ∧ f0.offset = 0) (e1 : f1.type = tI ∧ f1.offset = 1) (e2 : f2.type = tS ∧ f2.offset = 2)
    (cE : P.cellsOf tE = 3) (cI : P.cellsOf tI = 1) (cS : P.cellsOf tS = 1) (bE : P.bytesOf tE = 40) : ∀ (n : Nat), OpenAt eH P W base spare held n tE encC (fun e => fineE e = true) := by
  intro n
  induction n using Nat.strongRecOn with
  | _ n ih =>
    have hi : ∀ m, m < n → OpenAt eH P W base spare held m tI (fun m : Int => [V.int .i64 m]) (inK .i64) := fun m _ => at_int hI m
    have hr : ∀ m, m < n → OpenAt eH P W base spare held m tS (fun l : List Ex => [.sl (l.map encC) .no]) (fun l => (∀ a ∈ l, fineE a = true) ∧ l.length * P.bytesOf tE ≤ reachBytes) := fun m hm =>
      at_rows hS cE (by omega) (fun a => by rw [encC_eq]; rfl) fun m' hm' => ih m' (by omega)
    have hs := (at_struct3 (base := base) (spare := spare) (held := held) hE (n := n) e0.2 (by rw [e1.2, e0.1, cI]) (by rw [e2.2, e1.2, e1.1, cI]) (by rw [cE, e2.2, e2.1, cS]) (by rw [e0.1]; exact hi) (by rw [e1.1]; exact hi) (by rw [e2.1]; exact hr))
    refine hs.map (e' := encC) (ok' := fun e => fineE e = true) (fun x => Ex.mk x.1 x.2.1 x.2.2) (fun x => ?_) (fun x h => ?_)
    · rw [encC, encL_map]; rfl
    · obtain ⟨h1, h2, h3, h4⟩ := h
      rw [bE] at h4
      unfold reachBytes at h4
      obtain ⟨a1, a2⟩ := h1
      obtain ⟨b1, b2⟩ := h2
      rw [fineE, (fineL_all _).2 h3]
      simp only [IntKind.min, IntKind.max, IntKind.signed, IntKind.bits] at a1 a2 b1 b2
      simp at a1 a2 b1 b2 ⊢
      omega
/-- An argument. -/
def Opened {α : Type} (t : TypeId) (K : α → V) (ok : α → Prop) (eH : TypeId × Value → H) (P : Program) (W : World) : Prop :=
  ∀ (base : Nat) (v : Value) (d : DataW H) (p : List MemPlace), Value.okWide P W .any base t v → DataW.Trod eH P W 0 (fun _ => true) true t v d p → (∀ w ∈ d.weights P t, w ≤ reachBytes) → ∃ a, Rep (gh (cellsOf W)) v (K a) ∧ ok a
theorem opened_agg {α : Type} {t : TypeId} {fs : Array Field} (ht : P.underlying t = some (.struct fs)) {e : α → List V} {ok : α → Prop} (h : ∀ n, OpenAt eH P W 0 (fun _ => true) true n t e ok) : Opened t (fun a => .agg (e a)) ok eH P W := fun b v d p k ⟨fu, hf⟩ hw => by
  obtain ⟨a, hr, hok⟩ := h fu _ _ hf hw
  obtain ⟨cs, rfl, _⟩ := okWide_struct ht k
  exact ⟨a, rep_agg hr, hok⟩
theorem repL_one {G : Ghost} {v : Value} {x : V} (h : RepL G [v] [x]) : Rep G v x := h.2 0 v x rfl rfl
theorem opened_int {t : TypeId} {k : IntKind} (ht : P.underlying t = some (.int k)) : Opened t (fun n : Int => .int k n) (inK k) eH P W := fun b v d p hk ⟨fu, hf⟩ hw => by
  obtain ⟨a, hr, hok⟩ := at_int ht fu _ _ hf hw
  obtain ⟨n, rfl⟩ := okWide_int ht hk
  exact ⟨a, repL_one hr, hok⟩
theorem Opened.map {α β : Type} {t : TypeId} {K : α → V} {ok : α → Prop} (h : Opened t K ok eH P W) (f : α → β) {K' : β → V} {ok' : β → Prop} (he : ∀ a, K' (f a) = K a) (hk : ∀ a, ok a → ok' (f a)) : Opened t K' ok' eH P W := fun b v d p k hf hw => by
  obtain ⟨a, h1, h2⟩ := h b v d p k hf hw
  exact ⟨f a, by rw [he]; exact h1, hk a h2⟩
end
end
end Go.Proofs.YtaacfmakfkaddaaDoor.Ax
