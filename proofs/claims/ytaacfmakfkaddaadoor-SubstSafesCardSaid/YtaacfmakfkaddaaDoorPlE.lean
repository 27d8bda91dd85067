/- Plain law: sets of bits. -/
import Derived.Test.YtaacfmakfkaddaaDoorBxD
import Derived.Test.YtaacfmakfkaddaaDoorBxJ
set_option linter.unusedVariables false
set_option linter.unusedSimpArgs false
namespace Go.Proofs.YtaacfmakfkaddaaDoor.Ax
open Go Go.Proofs

theorem add_or {a b : Nat} (h : a &&& b = 0) : a + b = a ||| b := by
  have ha : a < 2 ^ (a + b) := Nat.lt_of_lt_of_le Nat.lt_two_pow_self (Nat.pow_le_pow_right (by omega) (by omega))
  have hb : b < 2 ^ (a + b) := Nat.lt_of_lt_of_le Nat.lt_two_pow_self (Nat.pow_le_pow_right (by omega) (by omega))
  have hx : BitVec.ofNat (a + b) a &&& BitVec.ofNat (a + b) b = 0#(a + b) := by
    apply BitVec.eq_of_toNat_eq
    rw [BitVec.toNat_and, BitVec.toNat_ofNat, BitVec.toNat_ofNat, Nat.mod_eq_of_lt ha, Nat.mod_eq_of_lt hb, h]
    simp
  have h1 := BitVec.toNat_add_of_and_eq_zero hx
  rw [BitVec.add_eq_or_of_and_eq_zero _ _ hx, BitVec.toNat_or, BitVec.toNat_ofNat, BitVec.toNat_ofNat, Nat.mod_eq_of_lt ha, Nat.mod_eq_of_lt hb] at h1
  exact h1.symm
/-- a without b. -/
def dif (a b : Nat) : Nat := a ^^^ (a &&& b)
@[simp] theorem dif_bit (a b i : Nat) : (dif a b).testBit i = (a.testBit i && !b.testBit i) := by
  unfold dif
  rw [Nat.testBit_xor, Nat.testBit_and]
  cases a.testBit i <;> cases b.testBit i <;> rfl
theorem dif_lt {a b n : Nat} (h : a < 2 ^ n) : dif a b < 2 ^ n := Nat.xor_lt_two_pow h (Nat.lt_of_le_of_lt Nat.and_le_left h)
theorem dif_add {a b : Nat} (h : ∀ i, b.testBit i = true → a.testBit i = true) : dif a b + b = a := by
  rw [add_or]
  · apply Nat.eq_of_testBit_eq
    intro i
    rw [Nat.testBit_or, dif_bit]
    have := h i
    cases ha : a.testBit i <;> cases hb : b.testBit i <;> simp_all
  · apply Nat.eq_of_testBit_eq
    intro i
    rw [Nat.testBit_and, dif_bit]
    cases a.testBit i <;> cases b.testBit i <;> simp
theorem bit_pow (n i : Nat) : (2 ^ n).testBit i = decide (n = i) := Nat.testBit_two_pow
theorem or_lt {a b : Nat} (ha : a < 18446744073709551616) (hb : b < 18446744073709551616) : a ||| b < 18446744073709551616 := by
  have := Nat.or_lt_two_pow (n := 64) (by simpa using ha) (by simpa using hb)
  simpa using this
theorem pow_lt {n : Nat} (h : n < 64) : 2 ^ n < 18446744073709551616 := by
  have := Nat.pow_lt_pow_right (a := 2) (by omega) h
  simpa using this
theorem dif_lt64 {a b : Nat} (ha : a < 18446744073709551616) : dif a b < 18446744073709551616 := by
  have := dif_lt (n := 64) (b := b) (by simpa using ha)
  simpa using this
theorem ndiff_dif {a b : Nat} (ha : a < 18446744073709551616) (hb : b < 18446744073709551616) : ndiff a b = dif a b := by
  apply Nat.eq_of_testBit_eq
  intro i
  rw [ndiff_bit ha hb, dif_bit]
theorem or_pow {s n : Nat} (h : s.testBit n = false) : s + 2 ^ n = s ||| 2 ^ n := by
  refine add_or ?_
  apply Nat.eq_of_testBit_eq
  intro i
  rw [Nat.testBit_and, bit_pow]
  by_cases e : n = i
  · subst e; simp [h]
  · simp [e]
theorem sub_pow {s n : Nat} (h : s.testBit n = true) : s - 2 ^ n = dif s (2 ^ n) := by
  have := dif_add (a := s) (b := 2 ^ n) (fun i hi => by rw [bit_pow] at hi; have := of_decide_eq_true hi; subst this; exact h)
  omega
theorem dif_no {s n : Nat} (h : s.testBit n = false) : dif s (2 ^ n) = s := by
  apply Nat.eq_of_testBit_eq
  intro i
  rw [dif_bit, bit_pow]
  by_cases e : n = i
  · subst e; simp [h]
  · simp [e]
theorem or_has {s n : Nat} (h : s.testBit n = true) : s ||| 2 ^ n = s := by
  apply Nat.eq_of_testBit_eq
  intro i
  rw [Nat.testBit_or, bit_pow]
  by_cases e : n = i
  · subst e; simp [h]
  · simp [e]
/-- Whether a number is one of a set. -/
def hasB (s : Nat) (n : Int) : Bool := decide (0 ≤ n) && decide (n < 64) && s.testBit n.toNat
theorem and_pow (s n : Nat) : s &&& 2 ^ n = if s.testBit n = true then 2 ^ n else 0 := by
  apply Nat.eq_of_testBit_eq
  intro i
  rw [Nat.testBit_and, bit_pow]
  by_cases e : n = i
  · subst e; cases h : s.testBit n <;> simp [Nat.testBit_two_pow]
  · simp only [e, decide_false, Bool.and_false]
    split
    · rw [bit_pow]; simp [e]
    · simp
theorem dec_bit (s n : Nat) : decide (s / 2 ^ n % 2 = 1) = s.testBit n := Nat.testBit_eq_decide_div_mod_eq.symm

/-- The set of one number. -/
def pw (n : Nat) : Nat := 2 ^ n
theorem pw_bit (n i : Nat) : (pw n).testBit i = decide (n = i) := bit_pow n i
theorem pw_lt {n : Nat} (h : n < 64) : pw n < 18446744073709551616 := pow_lt h
theorem pw_pos (n : Nat) : 0 < pw n := Nat.two_pow_pos n
theorem pw_succ (n : Nat) : pw (n + 1) = pw n * 2 := Nat.pow_succ 2 n
def powV (n : Int) : Nat := if 0 ≤ n ∧ n ≤ 63 then pw n.toNat else 0
def withN (s : Nat) (n : Int) : Nat := if 0 ≤ n ∧ n < 64 then s ||| pw n.toNat else s
def withoutN (s : Nat) (n : Int) : Nat := if 0 ≤ n ∧ n < 64 then dif s (pw n.toNat) else s
theorem withN_lt {s : Nat} {n : Int} (h : s < 18446744073709551616) : withN s n < 18446744073709551616 := by
  unfold withN; split
  · exact or_lt h (pw_lt (by omega))
  · exact h
theorem withoutN_lt {s : Nat} {n : Int} (h : s < 18446744073709551616) : withoutN s n < 18446744073709551616 := by
  unfold withoutN; split
  · exact dif_lt64 h
  · exact h
theorem with_eq {s : Nat} {n : Int} : withN s n = if hasB s n = true then s else s + powV n := by
  unfold withN hasB powV
  by_cases h : 0 ≤ n ∧ n < 64
  · rw [if_pos h, decide_eq_true h.1, decide_eq_true h.2, if_pos (show 0 ≤ n ∧ n ≤ 63 by omega)]
    cases hb : s.testBit n.toNat
    · simp only [Bool.and_false, Bool.false_eq_true, if_false]; exact (or_pow hb).symm
    · simp only [Bool.and_self, if_true]; exact or_has hb
  · rw [if_neg h, if_neg (show ¬ (0 ≤ n ∧ n ≤ 63) by omega)]
    split <;> rfl
theorem without_eq {s : Nat} {n : Int} : withoutN s n = if hasB s n = true then s - powV n else s := by
  unfold withoutN hasB powV
  by_cases h : 0 ≤ n ∧ n < 64
  · rw [if_pos h, decide_eq_true h.1, decide_eq_true h.2, if_pos (show 0 ≤ n ∧ n ≤ 63 by omega)]
    cases hb : s.testBit n.toNat
    · simp only [Bool.and_false, Bool.false_eq_true, if_false]; exact dif_no hb
    · simp only [Bool.and_self, if_true]; exact (sub_pow hb).symm
  · rw [if_neg h, if_neg (show ¬ (0 ≤ n ∧ n ≤ 63) by omega)]
    split <;> rfl
/-- The numbers of a set below a bound. -/
def upTo (b j : Nat) : Nat := b % 2 ^ j
theorem upTo_bit (b j i : Nat) : (upTo b j).testBit i = (decide (i < j) && b.testBit i) := Nat.testBit_mod_two_pow b j i
theorem upTo_all {b : Nat} (h : b < 18446744073709551616) : upTo b 64 = b := Nat.mod_eq_of_lt h
theorem upTo_zero (b : Nat) : upTo b 0 = 0 := Nat.mod_one b
theorem upTo_succ (b j : Nat) : upTo b (j + 1) = if b.testBit j = true then upTo b j ||| pw j else upTo b j := by
  apply Nat.eq_of_testBit_eq
  intro i
  rw [upTo_bit]
  split
  · rename_i h
    rw [Nat.testBit_or, upTo_bit, pw_bit]
    by_cases e : j = i
    · subst e; simp [h]
    · simp only [e, decide_false, Bool.or_false]
      congr 1
      exact decide_eq_decide.2 (by omega)
  · rename_i h
    rw [upTo_bit]
    by_cases e : j = i
    · subst e; simp [h]
    · congr 1
      exact decide_eq_decide.2 (by omega)

/-! ### The sets of an expression -/
def isQb (e : Ex) : Bool := decide (e.k = 7) || decide (e.k = 10)
def binP (k i : Int) : Nat := if k = 7 ∨ k = 10 then pw i.toNat else 0
mutual
/-- Free. -/
def frE : Ex → Nat
  | .mk k i l => if k = 1 then pw i.toNat else dif (frL l) (binP k i)
def frL : List Ex → Nat
  | [] => 0
  | e :: l => frE e ||| frL l
end
mutual
/-- Bound. -/
def boE : Ex → Nat
  | .mk k i l => binP k i ||| boL l
def boL : List Ex → Nat
  | [] => 0
  | e :: l => boE e ||| boL l
end
mutual
/-- Occurring as a term. -/
def ocE : Ex → Nat
  | .mk k i l => if k = 1 then pw i.toNat else ocL l
def ocL : List Ex → Nat
  | [] => 0
  | e :: l => ocE e ||| ocL l
end
mutual
/-- The occurrences of variables, each with the variables that are bound there. -/
def occE : Ex → Nat → List (Int × Nat)
  | .mk k i l, b => if k = 1 then [(i, b)] else occL l (b ||| binP k i)
def occL : List Ex → Nat → List (Int × Nat)
  | [], _ => []
  | e :: l, b => occE e b ++ occL l b
end
theorem frE_eq (e : Ex) : frE e = if e.k = 1 then pw e.i.toNat else dif (frL e.kids) (binP e.k e.i) := by cases e; rw [frE]; rfl
theorem boE_eq (e : Ex) : boE e = binP e.k e.i ||| boL e.kids := by cases e; rw [boE]; rfl
theorem ocE_eq (e : Ex) : ocE e = if e.k = 1 then pw e.i.toNat else ocL e.kids := by cases e; rw [ocE]; rfl
theorem occE_eq (e : Ex) (b : Nat) : occE e b = if e.k = 1 then [(e.i, b)] else occL e.kids (b ||| binP e.k e.i) := by cases e; rw [occE]; rfl
theorem frL_take (l : List Ex) (j : Nat) (h : j < l.length) : frL (l.take (j + 1)) = frL (l.take j) ||| frE l[j] := by
  induction l generalizing j with
  | nil => simp at h
  | cons e l ih =>
    cases j with
    | zero => simp [frL]
    | succ j => simp only [List.take_succ_cons, frL, List.getElem_cons_succ]; rw [ih j (by simpa using h), Nat.or_assoc]
theorem boL_take (l : List Ex) (j : Nat) (h : j < l.length) : boL (l.take (j + 1)) = boL (l.take j) ||| boE l[j] := by
  induction l generalizing j with
  | nil => simp at h
  | cons e l ih =>
    cases j with
    | zero => simp [boL]
    | succ j => simp only [List.take_succ_cons, boL, List.getElem_cons_succ]; rw [ih j (by simpa using h), Nat.or_assoc]
theorem ocL_take (l : List Ex) (j : Nat) (h : j < l.length) : ocL (l.take (j + 1)) = ocL (l.take j) ||| ocE l[j] := by
  induction l generalizing j with
  | nil => simp at h
  | cons e l ih =>
    cases j with
    | zero => simp [ocL]
    | succ j => simp only [List.take_succ_cons, ocL, List.getElem_cons_succ]; rw [ih j (by simpa using h), Nat.or_assoc]
theorem occL_take (l : List Ex) (b j : Nat) (h : j < l.length) : occL (l.take (j + 1)) b = occL (l.take j) b ++ occE l[j] b := by
  induction l generalizing j with
  | nil => simp at h
  | cons e l ih =>
    cases j with
    | zero => simp [occL]
    | succ j => simp only [List.take_succ_cons, occL, List.getElem_cons_succ]; rw [ih j (by simpa using h), List.append_assoc]
theorem binP_lt {e : Ex} (h : allX e = true) : binP e.k e.i < 18446744073709551616 := by
  unfold binP
  split
  · rename_i hk
    have := shaped_var h (.inr hk)
    exact pw_lt (by omega)
  · omega
theorem sets_lt (n : Nat) : ∀ e : Ex, SizeOf.sizeOf e < n → allX e = true → frE e < 18446744073709551616 ∧ boE e < 18446744073709551616 ∧ ocE e < 18446744073709551616 := by
  induction n with
  | zero => intro e h; omega
  | succ n ih =>
    intro e he ha
    have hk : ∀ l : List Ex, (∀ x ∈ l, x ∈ e.kids) → frL l < 18446744073709551616 ∧ boL l < 18446744073709551616 ∧ ocL l < 18446744073709551616 := by
      intro l hl
      induction l with
      | nil => simp [frL, boL, ocL]
      | cons x l ihl =>
        have hx := ih x (by have := mem_lt (hl x (by simp)); omega) (allX_kids ha x (hl x (by simp)))
        have hr := ihl fun y hy => hl y (by simp [hy])
        rw [frL, boL, ocL]
        exact ⟨or_lt hx.1 hr.1, or_lt hx.2.1 hr.2.1, or_lt hx.2.2 hr.2.2⟩
    obtain ⟨h1, h2, h3⟩ := hk e.kids fun _ h => h
    rw [frE_eq, boE_eq, ocE_eq]
    refine ⟨?_, or_lt (binP_lt ha) h2, ?_⟩
    · split
      · rename_i hv; have := shaped_var ha (.inl hv); exact pw_lt (by omega)
      · exact dif_lt64 h1
    · split
      · rename_i hv; have := shaped_var ha (.inl hv); exact pw_lt (by omega)
      · exact h3
theorem frE_lt {e : Ex} (h : allX e = true) : frE e < 18446744073709551616 := (sets_lt _ e (Nat.lt_succ_self _) h).1
theorem boE_lt {e : Ex} (h : allX e = true) : boE e < 18446744073709551616 := (sets_lt _ e (Nat.lt_succ_self _) h).2.1
theorem ocE_lt {e : Ex} (h : allX e = true) : ocE e < 18446744073709551616 := (sets_lt _ e (Nat.lt_succ_self _) h).2.2
/-- What one that looks for variables does at each. -/
def stp1 (pr : Int → Nat → Bool) (x : Int) (b s : Nat) : Nat := if pr x b = true then s ||| pw x.toNat else s
def runO (st : Int → Nat → Nat → Nat) (l : List (Int × Nat)) (s : Nat) : Nat := l.foldl (fun s x => st x.1 x.2 s) s
theorem runO_append (st : Int → Nat → Nat → Nat) (l m : List (Int × Nat)) (s : Nat) : runO st (l ++ m) s = runO st m (runO st l s) := by simp [runO]
def prF (x : Int) (b : Nat) : Bool := !hasB b x
mutual
theorem free_run : ∀ (e : Ex) (b s : Nat), allX e = true → runO (stp1 prF) (occE e b) s = s ||| dif (frE e) b
  | .mk k i l, b, s, ha => by
    rw [occE, frE]
    by_cases hk : k = 1
    · rw [if_pos hk, if_pos hk]
      have hv := shaped_var ha (.inl hk)
      simp only [Ex.i_mk] at hv
      show stp1 prF i b s = _
      unfold stp1 prF hasB
      rw [decide_eq_true hv.1, decide_eq_true (show i < 64 by omega)]
      cases hb : b.testBit i.toNat
      · simp only [Bool.and_false, Bool.not_false, if_true]
        congr 1
        apply Nat.eq_of_testBit_eq
        intro j
        rw [dif_bit, pw_bit]
        by_cases e : i.toNat = j
        · subst e; simp [hb]
        · simp [e]
      · have : dif (pw i.toNat) b = 0 := by
          apply Nat.eq_of_testBit_eq
          intro j
          rw [dif_bit, pw_bit]
          by_cases e : i.toNat = j
          · subst e; simp [hb]
          · simp [e]
        rw [this]; simp
    · rw [if_neg hk, if_neg hk, free_runL l _ s (allX_kids ha)]
      congr 1
      apply Nat.eq_of_testBit_eq
      intro j
      rw [dif_bit, dif_bit, dif_bit, Nat.testBit_or]
      cases (frL l).testBit j <;> cases b.testBit j <;> cases (binP k i).testBit j <;> rfl
theorem free_runL : ∀ (l : List Ex) (b s : Nat), (∀ e ∈ l, allX e = true) → runO (stp1 prF) (occL l b) s = s ||| dif (frL l) b
  | [], b, s, _ => by simp [occL, frL, runO, dif]
  | e :: l, b, s, h => by
    rw [occL, frL, runO_append, free_run e b s (h e (by simp)), free_runL l b _ fun x hx => h x (by simp [hx])]
    apply Nat.eq_of_testBit_eq
    intro j
    simp only [Nat.testBit_or, dif_bit]
    cases s.testBit j <;> cases (frE e).testBit j <;> cases (frL l).testBit j <;> cases b.testBit j <;> rfl
end
def prA (_ : Int) (_ : Nat) : Bool := true
mutual
theorem all_run : ∀ (e : Ex) (b s : Nat), runO (stp1 prA) (occE e b) s = s ||| ocE e
  | .mk k i l, b, s => by
    rw [occE, ocE]
    by_cases hk : k = 1
    · rw [if_pos hk, if_pos hk]; rfl
    · rw [if_neg hk, if_neg hk, all_runL l _ s]
theorem all_runL : ∀ (l : List Ex) (b s : Nat), runO (stp1 prA) (occL l b) s = s ||| ocL l
  | [], b, s => by simp [occL, ocL, runO]
  | e :: l, b, s => by rw [occL, ocL, runO_append, all_run e b s, all_runL l b, Nat.or_assoc]
end
end Go.Proofs.YtaacfmakfkaddaaDoor.Ax
