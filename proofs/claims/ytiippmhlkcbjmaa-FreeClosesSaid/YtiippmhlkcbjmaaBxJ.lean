/- Contracts: the bytes of expressions. -/
import Derived.Test.YtiippmhlkcbjmaaBxI
import Derived.Test.YtiippmhlkcbjmaaBxD
set_option linter.unusedVariables false
set_option linter.unusedSimpArgs false
namespace Go.Proofs.Ytiippmhlkcbjmaa.Ax
open Go Go.Proofs

def headN (e : Ex) : Nat := (e.k * 16777216 + e.i * 256 + e.kids.length).toNat
mutual
def bytE : Ex → List Int
  | .mk k i l => sev (k * 16777216 + i * 256 + l.length).toNat ++ bytL l
def bytL : List Ex → List Int
  | [] => []
  | e :: l => bytE e ++ bytL l
end
theorem bytE_eq (e : Ex) : bytE e = sev (headN e) ++ bytL e.kids := by cases e; rw [bytE]; rfl
theorem bytL_take : ∀ (l : List Ex) (j : Nat) (h : j < l.length), bytL (l.take (j + 1)) = bytL (l.take j) ++ bytE l[j]
  | e :: l, 0, h => by simp [bytL]
  | e :: l, j + 1, h => by simp only [List.take_succ_cons, bytL, List.getElem_cons_succ]; rw [bytL_take l j (by simpa using h), List.append_assoc]
theorem sev_ne (n : Nat) : ∃ a l, sev n = a :: l := by
  by_cases h : 128 ≤ n
  · exact ⟨_, _, sev_ge h⟩
  · exact ⟨_, _, sev_lt (by omega)⟩
theorem bytE_ne (e : Ex) : ∃ a l, bytE e = a :: l := by
  obtain ⟨a, l, h⟩ := sev_ne (headN e)
  exact ⟨a, l ++ bytL e.kids, by rw [bytE_eq, h]; rfl⟩
/-- A node that may be: its head's parts fit. -/
theorem shaped_fits {e : Ex} (h : shapedX e = true) : 0 ≤ e.k ∧ e.k ≤ 255 ∧ 0 ≤ e.i ∧ e.i ≤ 65535 ∧ (0 : Int) ≤ e.kids.length ∧ (e.kids.length : Int) ≤ 255 := by
  unfold shapedX at h
  simp only [Bool.and_eq_true, decide_eq_true_eq] at h
  obtain ⟨⟨h1, h2⟩, h3⟩ := h
  unfold mostOf at h2
  have h4 : e.i ≤ 99 := by
    repeat' split at h2
    all_goals omega
  unfold kidsAre at h3
  repeat' split at h3
  all_goals first | (cases h3; done) | (simp only [Bool.and_eq_true, decide_eq_true_eq] at h3; omega)
theorem head_lt {e : Ex} (h : shapedX e = true) : headN e < 4294967296 := by have := shaped_fits h; unfold headN; omega
theorem sev_len5 {n : Nat} (h : n < 4294967296) : (sev n).length ≤ 5 := sev_len 4 n (Nat.lt_of_lt_of_le h (by decide))
mutual
theorem bytE_len : ∀ e : Ex, allX e = true → (bytE e).length ≤ 5 * cntE e
  | .mk k i l, h => by
    rw [allX_eq, Bool.and_eq_true] at h
    have h1 := sev_len5 (head_lt h.1)
    have h2 := bytL_len l (by simpa using h.2)
    rw [bytE_eq, List.length_append, cntE_eq]
    simp only [Ex.kids_mk] at *
    omega
theorem bytL_len : ∀ l : List Ex, (∀ e ∈ l, allX e = true) → (bytL l).length ≤ 5 * cntL l
  | [], h => by simp [bytL]
  | e :: l, h => by
    have h1 := bytE_len e (h e (by simp))
    have h2 := bytL_len l fun x hx => h x (by simp [hx])
    rw [bytL, cntL, List.length_append]; omega
end
@[simp] def gBytes : List V → Option V := f1 kE fun e => if allX e = true ∧ cntE e ≤ 1000 then some (.sl (encI .u8 (bytE e)) .no) else none
end Go.Proofs.Ytiippmhlkcbjmaa.Ax
