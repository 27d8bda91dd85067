/- Abstract execution, part Q: contracts over kinds of arguments. -/
import Derived.Test.YtaacfmakfkaddaaDoorAxP
import Derived.WalkKit
import Derived.ProofKit
import Derived.OpenShut
import Derived.Carry
set_option linter.unusedVariables false
set_option linter.unusedSimpArgs false
namespace Go.Proofs.YtaacfmakfkaddaaDoor.Ax
section
open Go

structure Kd (α : Type) where
  enc : α → V
  dec : V → Option α
  inv : ∀ v a, dec v = some a → v = enc a
def kE : Kd Ex := ⟨enc, dec, fun _ _ h => dec_inv h⟩
@[simp] theorem kE_enc (e : Ex) : kE.enc e = enc e := rfl
@[simp] theorem kE_dec (v : V) : kE.dec v = dec v := rfl
def kI (k : IntKind) : Kd Int := ⟨.int k, fun v => match v with | .int k' n => if k' = k then some n else none | _ => none, fun v a h => by
  cases v <;> simp at h
  obtain ⟨rfl, rfl⟩ := h; rfl⟩
@[simp] theorem kI_enc (k : IntKind) (n : Int) : (kI k).enc n = .int k n := rfl
@[simp] theorem kI_dec (k : IntKind) (n : Int) : (kI k).dec (.int k n) = some n := by simp [kI]
def kB : Kd Bool := ⟨.bool, fun v => match v with | .bool b => some b | _ => none, fun v a h => by
  cases v <;> simp at h
  subst h; rfl⟩
@[simp] theorem kB_enc (b : Bool) : kB.enc b = .bool b := rfl
@[simp] theorem kB_dec (b : Bool) : kB.dec (.bool b) = some b := rfl
def kS : Kd ByteArray := ⟨.str, fun v => match v with | .str b => some b | _ => none, fun v a h => by
  cases v <;> simp at h
  subst h; rfl⟩
@[simp] theorem kS_enc (b : ByteArray) : kS.enc b = .str b := rfl
@[simp] theorem kS_dec (b : ByteArray) : kS.dec (.str b) = some b := rfl
def kL : Kd (List Ex) := ⟨fun l => .sl (encL l) .no, fun v => match v with | .sl els .no => decL els | _ => none, fun v a h => by
  split at h
  · rw [decL_inv _ _ h]
  · cases h⟩
@[simp] theorem kL_enc (l : List Ex) : kL.enc l = .sl (encL l) .no := rfl
@[simp] theorem kL_dec (els : List (List V)) : kL.dec (.sl els .no) = decL els := rfl
/-- Slices of numbers. -/
def encI (k : IntKind) (l : List Int) : List (List V) := l.map fun n => [.int k n]
def decI (k : IntKind) : List (List V) → Option (List Int)
  | [] => some []
  | [.int k' n] :: r => if k' = k then (decI k r).map (n :: ·) else none
  | _ => none
theorem decI_inv (k : IntKind) : ∀ (els : List (List V)) (l : List Int), decI k els = some l → els = encI k l
  | [], l, h => by simp [decI] at h; subst h; rfl
  | c :: r, l, h => by
    unfold decI at h
    split at h
    · rename_i e; cases e
    · rename_i k' n r' e
      cases e
      split at h
      · rename_i e; subst e
        obtain ⟨m, hm, rfl⟩ := Option.map_eq_some_iff.1 h
        rw [decI_inv _ _ _ hm]; rfl
      · cases h
    · cases h
@[simp] theorem decI_encI (k : IntKind) (l : List Int) : decI k (encI k l) = some l := by
  induction l with
  | nil => rfl
  | cons n l ih => show decI k ([.int k n] :: encI k l) = _; simp [decI, ih]
@[simp] theorem encI_nil (k : IntKind) : encI k [] = [] := rfl
@[simp] theorem encI_length (k : IntKind) (l : List Int) : (encI k l).length = l.length := by simp [encI]
@[simp] theorem encI_getElem (k : IntKind) (l : List Int) (n : Nat) (h : n < (encI k l).length) : (encI k l)[n] = [.int k (l[n]'(by simpa using h))] := by simp [encI]
@[simp] theorem lenL_encI (k : IntKind) (l : List Int) : lenL 1 (encI k l) = True := eq_true fun el h => by
  obtain ⟨n, _, rfl⟩ := List.mem_map.1 h; rfl
@[simp] theorem fitL_encI (k : IntKind) (l : List Int) : fitL 1 (encI k l) = true := fitL_of fun el h => by
  obtain ⟨n, _, rfl⟩ := List.mem_map.1 h
  exact ⟨rfl, fun y hy => by simp at hy; subst hy; rfl⟩
@[simp] theorem encI_cons (k : IntKind) (n : Int) (l : List Int) : encI k (n :: l) = [V.int k n] :: encI k l := rfl
@[simp] theorem encI_er (k : IntKind) (l : List Int) : (encI k l).map (List.map V.er) = encI k l := by simp [encI, V.er, Function.comp_def]
def kIs (k : IntKind) : Kd (List Int) := ⟨fun l => .sl (encI k l) .no, fun v => match v with | .sl els .no => decI k els | _ => none, fun v a h => by
  split at h
  · rw [decI_inv _ _ _ h]
  · cases h⟩
@[simp] theorem kIs_enc (k : IntKind) (l : List Int) : (kIs k).enc l = .sl (encI k l) .no := rfl
@[simp] theorem kIs_dec (k : IntKind) (els : List (List V)) : (kIs k).dec (.sl els .no) = decI k els := rfl

section
variable {α β γ δ ρ : Type}
def f1 (A : Kd α) (f : α → Option ρ) : List V → Option ρ
  | [a] => (A.dec a).bind f
  | _ => none
def f2 (A : Kd α) (B : Kd β) (f : α → β → Option ρ) : List V → Option ρ
  | [a, b] => (A.dec a).bind fun a => (B.dec b).bind fun b => f a b
  | _ => none
def f3 (A : Kd α) (B : Kd β) (C : Kd γ) (f : α → β → γ → Option ρ) : List V → Option ρ
  | [a, b, c] => (A.dec a).bind fun a => (B.dec b).bind fun b => (C.dec c).bind fun c => f a b c
  | _ => none
def f4 (A : Kd α) (B : Kd β) (C : Kd γ) (D : Kd δ) (f : α → β → γ → δ → Option ρ) : List V → Option ρ
  | [a, b, c, d] => (A.dec a).bind fun a => (B.dec b).bind fun b => (C.dec c).bind fun c => (D.dec d).bind fun d => f a b c d
  | _ => none
variable {A : Kd α} {B : Kd β} {C : Kd γ} {D : Kd δ}
@[simp] theorem f1_ap (f : α → Option ρ) (a : V) : f1 A f [a] = (A.dec a).bind f := rfl
@[simp] theorem f2_ap (f : α → β → Option ρ) (a b : V) : f2 A B f [a, b] = (A.dec a).bind fun a => (B.dec b).bind fun b => f a b := rfl
@[simp] theorem f3_ap (f : α → β → γ → Option ρ) (a b c : V) : f3 A B C f [a, b, c] = (A.dec a).bind fun a => (B.dec b).bind fun b => (C.dec c).bind fun c => f a b c := rfl
@[simp] theorem f4_ap (f : α → β → γ → δ → Option ρ) (a b c d : V) : f4 A B C D f [a, b, c, d] = (A.dec a).bind fun a => (B.dec b).bind fun b => (C.dec c).bind fun c => (D.dec d).bind fun d => f a b c d := rfl
theorem f1_inv {f : α → Option ρ} {args : List V} {r : ρ} (h : f1 A f args = some r) : ∃ a, args = [A.enc a] ∧ f a = some r := by
  unfold f1 at h
  split at h
  · obtain ⟨a, ha, h⟩ := Option.bind_eq_some_iff.1 h
    exact ⟨a, by rw [A.inv _ _ ha], h⟩
  · cases h
theorem f2_inv {f : α → β → Option ρ} {args : List V} {r : ρ} (h : f2 A B f args = some r) : ∃ a b, args = [A.enc a, B.enc b] ∧ f a b = some r := by
  unfold f2 at h
  split at h
  · obtain ⟨a, ha, h⟩ := Option.bind_eq_some_iff.1 h
    obtain ⟨b, hb, h⟩ := Option.bind_eq_some_iff.1 h
    exact ⟨a, b, by rw [A.inv _ _ ha, B.inv _ _ hb], h⟩
  · cases h
theorem f3_inv {f : α → β → γ → Option ρ} {args : List V} {r : ρ} (h : f3 A B C f args = some r) : ∃ a b c, args = [A.enc a, B.enc b, C.enc c] ∧ f a b c = some r := by
  unfold f3 at h
  split at h
  · obtain ⟨a, ha, h⟩ := Option.bind_eq_some_iff.1 h
    obtain ⟨b, hb, h⟩ := Option.bind_eq_some_iff.1 h
    obtain ⟨c, hc, h⟩ := Option.bind_eq_some_iff.1 h
    exact ⟨a, b, c, by rw [A.inv _ _ ha, B.inv _ _ hb, C.inv _ _ hc], h⟩
  · cases h
theorem f4_inv {f : α → β → γ → δ → Option ρ} {args : List V} {r : ρ} (h : f4 A B C D f args = some r) : ∃ a b c d, args = [A.enc a, B.enc b, C.enc c, D.enc d] ∧ f a b c d = some r := by
  unfold f4 at h
  split at h
  · obtain ⟨a, ha, h⟩ := Option.bind_eq_some_iff.1 h
    obtain ⟨b, hb, h⟩ := Option.bind_eq_some_iff.1 h
    obtain ⟨c, hc, h⟩ := Option.bind_eq_some_iff.1 h
    obtain ⟨d, hd, h⟩ := Option.bind_eq_some_iff.1 h
    exact ⟨a, b, c, d, by rw [A.inv _ _ ha, B.inv _ _ hb, C.inv _ _ hc, D.inv _ _ hd], h⟩
  · cases h
end

/-! ### Recursion over a tree -/
section
variable {P : Program} {f : FuncId} {β γ δ : Type} {B : Kd β} {C : Kd γ} {D : Kd δ}
def Okat (P : Program) (f : FuncId) (args : List V) (r : V) : Prop := Callable P f ∧ ∀ q M K, Ctr P f q args M K fun x M' K' => x = r ∧ M' = M ∧ K' = K
theorem PureOk.less {g g' : List V → Option V} (h : PureOk P f g) (hg : ∀ args r, g' args = some r → g args = some r) : PureOk P f g' := fun args r hr => h args r (hg args r hr)
theorem rec1 {F : Ex → Option V} (h : ∀ e, PureOk P f (f1 kE fun x => if SizeOf.sizeOf x < SizeOf.sizeOf e then F x else none) → ∀ r, F e = some r → Okat P f [enc e] r) : PureOk P f (f1 kE F) := by
  have main : ∀ (n : Nat) (e : Ex), SizeOf.sizeOf e < n → ∀ r, F e = some r → Okat P f [enc e] r := by
    intro n
    induction n with
    | zero => intro e he; omega
    | succ n ih =>
      intro e he r hr
      refine h e (fun args r h1 => ?_) r hr
      obtain ⟨x, rfl, h2⟩ := f1_inv h1
      split at h2
      · rename_i hlt; exact ih x (by omega) r h2
      · cases h2
  intro args r h1
  obtain ⟨x, rfl, h2⟩ := f1_inv h1
  exact main _ x (Nat.lt_succ_self _) r h2
theorem rec2 {F : Ex → β → Option V} (h : ∀ e, PureOk P f (f2 kE B fun x b => if SizeOf.sizeOf x < SizeOf.sizeOf e then F x b else none) → ∀ b r, F e b = some r → Okat P f [enc e, B.enc b] r) : PureOk P f (f2 kE B F) := by
  have main : ∀ (n : Nat) (e : Ex), SizeOf.sizeOf e < n → ∀ b r, F e b = some r → Okat P f [enc e, B.enc b] r := by
    intro n
    induction n with
    | zero => intro e he; omega
    | succ n ih =>
      intro e he b r hr
      refine h e (fun args r h1 => ?_) b r hr
      obtain ⟨x, b, rfl, h2⟩ := f2_inv h1
      split at h2
      · rename_i hlt; exact ih x (by omega) b r h2
      · cases h2
  intro args r h1
  obtain ⟨x, b, rfl, h2⟩ := f2_inv h1
  exact main _ x (Nat.lt_succ_self _) b r h2
end
end
section
open Go Go.RowKit Go.ChangeShapes

def cellsOf (W : World) : FX := fun b o => W.cell? ⟨b, o, none⟩
theorem start_sim (W : World) (htb : ∀ b o v, tbl b o = some v → W.cell? ⟨b, o, none⟩ = some v := by intro b o v h; simp [tbl, gtab] at h) : Sim (gh (cellsOf W)) noM noK W :=
  ⟨fun b o v h => h, fun id cs hm => (by cases hm), fun id es hm => (by cases hm), fun id id' b hm => absurd rfl hm, fun t ht => (by cases ht), fun t t' g x x' ht => (by cases ht), htb⟩
theorem calls_of_pure {P : Program} {f : FuncId} {g : List V → Option V} (h : PureOk P f g) {args : List V} {r : V} (hg : g args = some r) (W : World) (argsC : List Value) (hr : RepL (gh (cellsOf W)) argsC args)
    (htb : ∀ b o v, tbl b o = some v → W.cell? ⟨b, o, none⟩ = some v := by intro b o v h; simp [tbl, gtab] at h) :
    Calls P f argsC.toArray W fun e W' => ∃ v G', e = .returned v ∧ Rep G' v r ∧ Below W.heap.size W W' := by
  refine ((h args r hg).2 [] noM noK _ W argsC (start_sim W htb) (fun id _ => ⟨rfl, rfl⟩) hr).mono ?_
  rintro e w' ⟨G', M', K', v, x, rfl, hrep, hs, ht, rfl, rfl, rfl⟩
  exact ⟨v, G', rfl, hrep, below_of ht⟩
theorem list_of {α : Type} {p : Nat → α → Prop} : ∀ (n : Nat), (∀ i, i < n → ∃ a, p i a) → ∃ l : List α, l.length = n ∧ ∀ (i : Nat) a, l[i]? = some a → p i a
  | 0, _ => ⟨[], rfl, fun i a h => by simp at h⟩
  | n + 1, h => by
    obtain ⟨l, hl, hp⟩ := list_of n fun i hi => h i (by omega)
    obtain ⟨a, ha⟩ := h n (by omega)
    refine ⟨l ++ [a], by simp [hl], fun i b hb => ?_⟩
    rw [List.getElem?_append] at hb
    split at hb
    · exact hp i b hb
    · rename_i hi
      have : i = n := by
        by_cases e : i - l.length = 0
        · omega
        · obtain ⟨m, hm⟩ := Nat.exists_eq_succ_of_ne_zero e
          rw [hm] at hb; simp at hb
      subst this
      rw [hl] at hb; simp at hb; subst hb; exact ha
section
variable {H : Type} {enc : TypeId × Value → H} {P : Program} {W : World} {base : Nat} {spare : Nat → Bool} {held : Bool}
/-- An argument reads behind the call as it did. -/
theorem trod_keep {t : TypeId} (hl : laidOutB P = true) (hr : P.readableRec t = true) (hrow : t < P.types.size) {W' : World} {v : Value} {d : DataW H} {ps : List MemPlace}
    (h : DataW.Trod enc P W 0 (fun _ => true) true t v d ps) (hb : Below W.heap.size W W') (hlt : ∀ x ∈ ps, x.block < W.heap.size) {sp : Nat → Bool} (hsp : ∀ x ∈ ps, sp x.block = true) :
    DataW.Trod enc P W' 0 sp true t v d ps := WideElems.Trod_stays hl hr hrow h (fun x hx => hb.same (hlt x hx)) hsp
/-- A row's end: the results are right, of what there was nothing has turned. -/
theorem post_below {f : Func} {s : ChangeSpec} {apart fresh handsOn again : Bool} {W W' : World} {args : Array Value} {v : Value} {ds gs : List (DataW H)} {before pa pv : List MemPlace}
    (hW : DataW.Whole enc P f.params.toList s.vars apart W args.toList ds gs before)
    (hres : ∀ (b : Nat) (sp : Nat → Bool) (hd : Bool), DataW.TrodAll enc P W' b sp hd f.resultTypes.toList (v.resultList f.resultTypes.size) (s.fn H (ds ++ gs)).results [])
    (hargs : ∀ sp : Nat → Bool, (∀ p ∈ before, sp p.block = true) → DataW.TrodAll enc P W' 0 sp true f.params.toList args.toList (s.fn H (ds ++ gs)).args pa)
    (hvars : ∀ sp : Nat → Bool, (∀ p ∈ before, sp p.block = true) → DataW.TrodVars enc P W' sp s.vars (s.fn H (ds ++ gs)).vars pv)
    (hps : before = pa ++ pv) (hb : Below W.heap.size W W')
    (hok : ∀ (j : Nat) (t : TypeId) (r : Value), f.resultTypes[j]? = some t → (v.resultList f.resultTypes.size)[j]? = some r → Value.okWide P W' .any 0 t r) :
    s.post enc P f apart fresh handsOn again W args v W' := by
  have hold : ∀ p ∈ before, (fun b => decide (b < W.heap.size)) p.block = true := fun p hp => by simpa using hW.lt p hp
  have hlt : ∀ p ∈ before, p.block < W.heap.size := fun p hp => hW.lt p hp
  refine ⟨ds, gs, before, [], pa, pv, hW, hres _ _ _, hargs _ hold, hvars _ hold, World.keptBut_mono (fun p hp => ⟨hp, ?_⟩) (hb.frame (· ∈ before)), fun _ => ?_⟩
  · rw [hps, List.mem_append] at hp
    exact Or.inr hp
  · obtain ⟨_, _, _, _, _, hz, hn⟩ := hW
    refine ⟨hok, _, _, ([] ++ pa) ++ pv, ⟨[] ++ pa, pv, trodAll_append (hargs _ (fun _ _ => rfl)) (hres _ _ _), hvars _ (fun _ _ => rfl), rfl, ?_, ?_⟩, ?_⟩
    · intro b off hp
      have hm : MemPlace.cell b off ∈ before := by rw [hps]; simpa using hp
      rw [hb.frozen (p := ⟨b, off, none⟩) (hlt _ hm)]
      exact hz b off hm
    · intro ha
      have := hn ha
      rw [hps] at this
      simpa using this
    · intro p hp _
      rw [hps]
      simpa using hp
end
end
end Go.Proofs.YtaacfmakfkaddaaDoor.Ax
