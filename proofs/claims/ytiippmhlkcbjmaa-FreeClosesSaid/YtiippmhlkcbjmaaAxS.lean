/- Kinds of arguments: rows of records, tables, worlds. -/
import Derived.Test.YtiippmhlkcbjmaaAxQ
set_option linter.unusedVariables false
set_option linter.unusedSimpArgs false
namespace Go.Proofs.Ytiippmhlkcbjmaa.Ax
open Go

/-- A record in the cells of a slice. -/
structure Rw (α : Type) where
  enc : α → List V
  dec : List V → Option α
  inv : ∀ v a, dec v = some a → v = enc a
  ok : ∀ a, dec (enc a) = some a
section
variable {α : Type}
def Rw.encL (R : Rw α) (l : List α) : List (List V) := l.map R.enc
def Rw.decL (R : Rw α) : List (List V) → Option (List α)
  | [] => some []
  | c :: r => (R.dec c).bind fun a => (R.decL r).map (a :: ·)
theorem Rw.decL_inv (R : Rw α) : ∀ (els : List (List V)) (l : List α), R.decL els = some l → els = R.encL l
  | [], l, h => by simp [Rw.decL] at h; subst h; rfl
  | c :: r, l, h => by
    simp only [Rw.decL] at h
    obtain ⟨a, ha, h⟩ := Option.bind_eq_some_iff.1 h
    obtain ⟨m, hm, rfl⟩ := Option.map_eq_some_iff.1 h
    rw [R.inv _ _ ha, R.decL_inv _ _ hm]; rfl
@[simp] theorem Rw.decL_encL (R : Rw α) (l : List α) : R.decL (R.encL l) = some l := by
  induction l with
  | nil => rfl
  | cons a l ih => show R.decL (R.enc a :: R.encL l) = _; simp [Rw.decL, R.ok, ih]
@[simp] theorem Rw.encL_nil (R : Rw α) : R.encL [] = [] := rfl
@[simp] theorem Rw.encL_cons (R : Rw α) (a : α) (l : List α) : R.encL (a :: l) = R.enc a :: R.encL l := rfl
@[simp] theorem Rw.encL_length (R : Rw α) (l : List α) : (R.encL l).length = l.length := by simp [Rw.encL]
@[simp] theorem Rw.encL_getElem (R : Rw α) (l : List α) (n : Nat) (h : n < (R.encL l).length) : (R.encL l)[n] = R.enc (l[n]'(by simpa using h)) := by simp [Rw.encL]
theorem Rw.encL_append (R : Rw α) (l m : List α) : R.encL (l ++ m) = R.encL l ++ R.encL m := by simp [Rw.encL]
theorem Rw.encL_take (R : Rw α) (l : List α) (n : Nat) : (R.encL l).take n = R.encL (l.take n) := by simp [Rw.encL]
theorem Rw.encL_drop (R : Rw α) (l : List α) (n : Nat) : (R.encL l).drop n = R.encL (l.drop n) := by simp [Rw.encL]
theorem Rw.encL_take_succ (R : Rw α) (l : List α) (j : Nat) (h : j < l.length) : R.encL (l.take (j + 1)) = R.encL (l.take j) ++ [R.enc l[j]] := by
  rw [List.take_add_one, R.encL_append]; simp [h]
theorem Rw.fitL_encL (R : Rw α) {s : Nat} (h : ∀ a, (R.enc a).length = s ∧ ∀ y ∈ R.enc a, V.one y = true) (l : List α) : fitL s (R.encL l) = true := fitL_of fun el hel => by
  obtain ⟨a, _, rfl⟩ := List.mem_map.1 hel; exact h a
theorem Rw.lenL_encL (R : Rw α) {s : Nat} (h : ∀ a, (R.enc a).length = s) (l : List α) : lenL s (R.encL l) = True := eq_true fun el hel => by
  obtain ⟨a, _, rfl⟩ := List.mem_map.1 hel; exact h a
def kRs (R : Rw α) : Kd (List α) := ⟨fun l => .sl (R.encL l) .no, fun v => match v with | .sl els .no => R.decL els | _ => none, fun v a h => by
  split at h
  · rw [R.decL_inv _ _ h]
  · cases h⟩
@[simp] theorem kRs_enc (R : Rw α) (l : List α) : (kRs R).enc l = .sl (R.encL l) .no := rfl
@[simp] theorem kRs_dec (R : Rw α) (els : List (List V)) : (kRs R).dec (.sl els .no) = R.decL els := rfl
def kRw (R : Rw α) : Kd α := ⟨fun a => .agg (R.enc a), fun v => match v with | .agg cs => R.dec cs | _ => none, fun v a h => by
  split at h
  · rw [R.inv _ _ h]
  · cases h⟩
@[simp] theorem kRw_enc (R : Rw α) (a : α) : (kRw R).enc a = .agg (R.enc a) := rfl
@[simp] theorem kRw_dec (R : Rw α) (cs : List V) : (kRw R).dec (.agg cs) = R.dec cs := rfl
end

/-! ### Tables, worlds -/
structure Tb where
  id : Int
  args : Int
  vals : List Int
def encTb (t : Tb) : List V := [.int .i64 t.id, .int .i64 t.args, .sl (encI .i64 t.vals) .no]
def decTb : List V → Option Tb
  | [.int .i64 a, .int .i64 b, .sl els .no] => (decI .i64 els).map (Tb.mk a b)
  | _ => none
theorem decTb_inv (v : List V) (a : Tb) (h : decTb v = some a) : v = encTb a := by
  unfold decTb at h
  split at h
  · obtain ⟨l, hl, rfl⟩ := Option.map_eq_some_iff.1 h
    rw [decI_inv _ _ _ hl]; rfl
  · cases h
def rTb : Rw Tb := ⟨encTb, decTb, decTb_inv, fun a => by simp [encTb, decTb]⟩
@[simp] theorem rTb_enc (t : Tb) : rTb.enc t = [.int .i64 t.id, .int .i64 t.args, .sl (encI .i64 t.vals) .no] := rfl
@[simp] theorem rTb_dec (a b : Int) (els : List (List V)) : rTb.dec [.int .i64 a, .int .i64 b, .sl els .no] = (decI .i64 els).map (Tb.mk a b) := rfl
@[simp] theorem lenL_tb (l : List Tb) : lenL 3 (rTb.encL l) = True := rTb.lenL_encL (fun _ => rfl) l
structure Wo where
  size : Int
  funcs : List Tb
  preds : List Tb
def encWo (w : Wo) : List V := [.int .i64 w.size, .sl (rTb.encL w.funcs) .no, .sl (rTb.encL w.preds) .no]
def decWo : List V → Option Wo
  | [.int .i64 a, .sl f .no, .sl p .no] => (rTb.decL f).bind fun f => (rTb.decL p).map (Wo.mk a f)
  | _ => none
theorem decWo_inv (v : List V) (a : Wo) (h : decWo v = some a) : v = encWo a := by
  unfold decWo at h
  split at h
  · obtain ⟨f, hf, h⟩ := Option.bind_eq_some_iff.1 h
    obtain ⟨l, hl, rfl⟩ := Option.map_eq_some_iff.1 h
    rw [rTb.decL_inv _ _ hl, rTb.decL_inv _ _ hf]; rfl
  · cases h
def rWo : Rw Wo := ⟨encWo, decWo, decWo_inv, fun a => by simp [encWo, decWo]⟩
@[simp] theorem rWo_enc (w : Wo) : rWo.enc w = [.int .i64 w.size, .sl (rTb.encL w.funcs) .no, .sl (rTb.encL w.preds) .no] := rfl
@[simp] theorem rWo_dec (a : Int) (f p : List (List V)) : rWo.dec [.int .i64 a, .sl f .no, .sl p .no] = (rTb.decL f).bind fun f => (rTb.decL p).map (Wo.mk a f) := rfl
end Go.Proofs.Ytiippmhlkcbjmaa.Ax
