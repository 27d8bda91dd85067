/- Plain law: what has binders called anew keeps its shape. -/
import Derived.Test.YtaacfmakfkaddaaDoorPlP
set_option linter.unusedVariables false
set_option linter.unusedSimpArgs false
namespace Go.Proofs.YtaacfmakfkaddaaDoor.Ax
open Go Go.Proofs

def SameS (a b : Ex) : Prop := b.k = a.k ∧ cntE b = cntE a ∧ depE b = depE a ∧ allX b = true
theorem optL_same {F : Ex → Option Ex} : ∀ {L Y : List Ex}, (∀ y ∈ L, ∀ z, F y = some z → SameS y z) → optL F L = some Y → Y.map isT = L.map isT ∧ cntL Y = cntL L ∧ depL Y = depL L ∧ ∀ z ∈ Y, allX z = true
  | [], Y, _, h => by
    rw [optL] at h; cases h
    exact ⟨rfl, rfl, rfl, fun z h => by cases h⟩
  | a :: L, Y, hF, h => by
    obtain ⟨b, M, h1, h2, rfl⟩ := optL_cons h
    obtain ⟨a1, a2, a3, a4⟩ := hF a (by simp) b h1
    obtain ⟨b1, b2, b3, b4⟩ := optL_same (fun y hy => hF y (by simp [hy])) h2
    refine ⟨?_, by rw [cntL, cntL, a2, b2], by rw [depL, depL, a3, b3], fun z hz => ?_⟩
    · rw [List.map_cons, List.map_cons, b1]
      congr 1
      unfold isT; rw [a1]
    · rcases List.mem_cons.1 hz with rfl | hz
      · exact a4
      · exact b4 z hz
theorem pcK_some {F : Ex → Option Ex} {k i : Int} {L : List Ex} {b : Ex} (h : pcK F k i L = some b) : ∃ Y, optL F L = some Y ∧ b = .mk k i Y := by
  unfold pcK at h
  obtain ⟨Y, h1, h2⟩ := Option.map_eq_some_iff.1 h
  exact ⟨Y, h1, h2.symm⟩
theorem rn_same (x : Int) (o : Nat) : ∀ (n : Nat) (e b : Ex), cntE e < n → allX e = true → rnE x o e = some b → SameS e b
  | 0, e, b, hn, _, _ => by omega
  | n + 1, e, b, hn, ha, h => by
    have hkids : ∀ y ∈ e.kids, ∀ z, rnE x o y = some z → SameS y z := fun y hy z hz => by
      have := cnt_mem hy
      exact rn_same x o n y z (by omega) (allX_kids ha y hy) hz
    have hsh : shapedX e = true := by rw [allX_eq, Bool.and_eq_true] at ha; exact ha.1
    have hii : 0 ≤ e.i ∧ e.i ≤ mostOf e.k := by
      have hs := hsh
      unfold shapedX at hs
      simp only [Bool.and_eq_true, decide_eq_true_eq] at hs
      exact hs.1
    have emk : Ex.mk e.k e.i e.kids = e := by cases e; rfl
    have plain : pcK (rnE x o) e.k e.i e.kids = some b → SameS e b := fun h => by
      obtain ⟨Y, h1, rfl⟩ := pcK_some h
      obtain ⟨e1, e2, e3, e4⟩ := optL_same hkids h1
      refine ⟨rfl, by rw [cntE, cntE_eq e, e2], by rw [depE, depE_eq e, e3], ?_⟩
      rw [allX_eq, Bool.and_eq_true, List.all_eq_true]
      exact ⟨shaped_id e1.symm hii.1 hii.2 (by rw [emk]; exact hsh), e4⟩
    rw [rnE_eq ha] at h
    by_cases hq : isQ e = true
    · rw [if_pos hq] at h
      by_cases c1 : e.i = x ∨ hasB (frE (kid0 e)) x = false
      · rw [if_pos c1] at h; cases h
        exact ⟨rfl, rfl, rfl, ha⟩
      · rw [if_neg c1] at h
        by_cases c2 : hasB o e.i = true
        · rw [if_pos c2] at h
          by_cases c3 : leastN (rnU x o e) < 0
          · rw [if_pos c3] at h; cases h
          · rw [if_neg c3] at h
            obtain ⟨Y, h1, rfl⟩ := pcK_some h
            obtain ⟨s1, s2, s3⟩ := rnK_small ha hq c3
            have hk0 := q_kids ha hq
            have hka : allX (kid0 e) = true := allX_kids ha _ (by rw [hk0]; simp [kid0])
            have hr := least_range (rnU x o e)
            have hz : 0 ≤ leastN (rnU x o e) ∧ leastN (rnU x o e) ≤ 63 := ⟨by omega, hr.2⟩
            obtain ⟨p1, p2⟩ := psF_size (kid0 e) hka (varF_vr e.i (leastN (rnU x o e)))
            have p3 := (psF_shape (kid0 e) hka (termF_vr (i := e.i) hz)).2
            obtain ⟨e1, e2, e3, e4⟩ := optL_same (L := [rnK x o e]) (fun y hy z hz => by
              obtain rfl : y = rnK x o e := List.mem_singleton.1 hy
              exact rn_same x o n _ z (by omega) s3 hz) h1
            have t1 : Y.map isT = e.kids.map isT := by
              rw [e1, hk0]; unfold rnK; simp [p3]
            have q1 : cntE (rnK x o e) = cntE (kid0 e) := p1
            have q2 : depE (rnK x o e) = depE (kid0 e) := p2
            refine ⟨rfl, ?_, ?_, ?_⟩
            · rw [cntE, cntE_eq e, e2, hk0, cntL, cntL, q1]; rfl
            · rw [depE, depE_eq e, e3, hk0, depL, depL, q2]; rfl
            · rw [allX_eq, Bool.and_eq_true, List.all_eq_true]
              have hk : e.k = 7 ∨ e.k = 10 := by simpa [isQ] using hq
              exact ⟨shaped_id t1.symm hz.1 (by rw [most_var (.inr hk)]; exact hz.2) (by rw [emk]; exact hsh), e4⟩
        · rw [if_neg c2] at h
          exact plain h
    · rw [if_neg hq] at h
      exact plain h
theorem rn_right {x : Int} {o : Nat} {e b : Ex} (h : rightE e = 0) (hb : rnE x o e = some b) : rightE b = 0 := by
  obtain ⟨h1, h2, h3⟩ := right_zero h
  obtain ⟨e1, e2, e3, e4⟩ := rn_same x o _ e b (Nat.lt_succ_self _) h3 hb
  rw [nodesN_eq] at h1
  exact right_of (by rw [nodesN_eq]; omega) (by omega) e4
/-- Put in, whatever is caught: binders are called anew. -/
def safV (a : Ex) (x : Int) (t : Ex) (ask : Int) : V := if ask = 0 then (match rnE x (vaE t) a with
  | none => .tup [enc ex0, .int .i64 51]
  | some b => .tup [enc (if rightE (psF (sgF x t) b) = 0 then psF (sgF x t) b else ex0), .int .i64 (rightE (psF (sgF x t) b))]) else .tup [enc ex0, .int .i64 ask]
end Go.Proofs.YtaacfmakfkaddaaDoor.Ax
