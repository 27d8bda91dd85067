/- Plain law: the common form names what is alike. -/
import Derived.Test.YtaacfmakfkaddaaDoorPlK
import Derived.Test.YtaacfmakfkaddaaDoorPlL
import Derived.Test.YtaacfmakfkaddaaDoorCxJ
set_option linter.unusedVariables false
set_option linter.unusedSimpArgs false
namespace Go.Proofs.YtaacfmakfkaddaaDoor.Ax
open Go Go.Proofs

/-! ### It has the same shape -/
theorem shaped_id {k i i' : Int} {l m : List Ex} (h : l.map isT = m.map isT) (h0 : 0 ≤ i') (h1 : i' ≤ mostOf k) (hs : shapedX (.mk k i l) = true) : shapedX (.mk k i' m) = true := by
  rw [shaped_same (m := m) h, shaped_G] at hs
  rw [shaped_G]
  unfold shG at hs ⊢
  have e : kidsAre (.mk k i' m) = kidsAre (.mk k i m) := rfl
  rw [e]
  simp only [Bool.and_eq_true, decide_eq_true_eq] at hs ⊢
  exact ⟨⟨h0, h1⟩, hs.2⟩
theorem most_var {k : Int} (h : k = 1 ∨ k = 7 ∨ k = 10) : mostOf k = 63 := by unfold mostOf; rw [if_pos h]
mutual
theorem cn_same : ∀ (a : Ex) (p n : List Int) (A : Nat) (x : Ex), allX a = true → p.length = n.length → Nn n → cnE a p n A = some x → x.k = a.k ∧ cntE x = cntE a ∧ depE x = depE a ∧ allX x = true
  | .mk k i l, p, n, A, x, ha, hp, hn, h => by
    rw [allX_eq, Bool.and_eq_true, List.all_eq_true] at ha
    rw [cnE] at h
    by_cases hk : k = 7 ∨ k = 10
    · rw [if_pos hk] at h
      by_cases hz : leastN (usedN A n) < 0
      · rw [if_pos hz] at h; cases h
      · rw [if_neg hz] at h
        obtain ⟨m, hm, rfl⟩ := Option.map_eq_some_iff.1 h
        have hr := least_range (usedN A n)
        obtain ⟨e1, e2, e3, e4⟩ := cn_sameL l _ _ A m ha.2 (by simp [hp]) (nn_snoc hn (by omega) hr.2) hm
        refine ⟨rfl, by rw [cntE, cntE, e2], by rw [depE, depE, e3], ?_⟩
        rw [allX_eq, Bool.and_eq_true, List.all_eq_true]
        exact ⟨shaped_id e1.symm (by omega) (by rw [most_var (.inr hk)]; exact hr.2) ha.1, e4⟩
    · rw [if_neg hk] at h
      obtain ⟨m, hm, rfl⟩ := Option.map_eq_some_iff.1 h
      obtain ⟨e1, e2, e3, e4⟩ := cn_sameL l _ _ A m ha.2 hp hn hm
      refine ⟨rfl, by rw [cntE, cntE, e2], by rw [depE, depE, e3], ?_⟩
      rw [allX_eq, Bool.and_eq_true, List.all_eq_true]
      refine ⟨?_, e4⟩
      have hs := ha.1
      have hi : 0 ≤ i ∧ i ≤ mostOf k := by
        unfold shapedX at hs
        simp only [Bool.and_eq_true, decide_eq_true_eq] at hs
        exact hs.1
      by_cases c : k = 1 ∧ 0 ≤ pl p i
      · rw [if_pos c]
        have hpl := pl_range p i
        have hg := hn _ (getD_mem (n := n) (i := (pl p i).toNat) (by omega))
        exact shaped_id e1.symm hg.1 (by rw [most_var (.inl c.1)]; exact hg.2) hs
      · rw [if_neg c]
        exact shaped_id e1.symm hi.1 hi.2 hs
theorem cn_sameL : ∀ (l : List Ex) (p n : List Int) (A : Nat) (m : List Ex), (∀ e ∈ l, allX e = true) → p.length = n.length → Nn n → cnL l p n A = some m → m.map isT = l.map isT ∧ cntL m = cntL l ∧ depL m = depL l ∧ ∀ e ∈ m, allX e = true
  | [], p, n, A, m, ha, hp, hn, h => by
    rw [cnL] at h; cases h
    exact ⟨rfl, rfl, rfl, fun e h => by cases h⟩
  | e :: l, p, n, A, m, ha, hp, hn, h => by
    rw [cnL] at h
    obtain ⟨x, hx, h1⟩ := Option.bind_eq_some_iff.1 h
    obtain ⟨m', hm, rfl⟩ := Option.map_eq_some_iff.1 h1
    obtain ⟨a1, a2, a3, a4⟩ := cn_same e p n A x (ha e (by simp)) hp hn hx
    obtain ⟨b1, b2, b3, b4⟩ := cn_sameL l p n A m' (fun y hy => ha y (by simp [hy])) hp hn hm
    refine ⟨?_, by rw [cntL, cntL, a2, b2], by rw [depL, depL, a3, b3], ?_⟩
    · rw [List.map_cons, List.map_cons, b1]
      congr 1
      unfold isT; rw [a1]
    · intro y hy
      rcases List.mem_cons.1 hy with rfl | hy
      · exact a4
      · exact b4 y hy
end
theorem cn_right {a x : Ex} {A : Nat} (h : rightE a = 0) (hx : cnE a [] [] A = some x) : rightE x = 0 := by
  obtain ⟨h1, h2, h3⟩ := right_zero h
  obtain ⟨_, e2, e3, e4⟩ := cn_same a [] [] A x h3 rfl (fun z h => by simp at h) hx
  exact right_of (by rw [nodesN_eq] at h1 ⊢; omega) (by omega) e4

/-! ### What is alike has one common form -/
theorem alk_mk (k i k' i' : Int) (l l' : List Ex) (p q : List Int) : alkE (.mk k i l) (.mk k' i' l') p q = (decide (k = k') && decide (l.length = l'.length) &&
    (if k = 1 then decide (pl p i = pl q i') && (decide (0 ≤ pl p i) || decide (i = i'))
     else if k = 7 ∨ k = 10 then alkL l l' (p ++ [i]) (q ++ [i']) else decide (i = i') && alkL l l' p q)) := by rw [alkE]; rfl
mutual
theorem alk_cn : ∀ (a b : Ex) (p q n : List Int) (A : Nat), allX a = true → allX b = true → alkE a b p q = true → cnE a p n A = cnE b q n A
  | .mk k i l, .mk k' i' l', p, q, n, A, ha, hb, h => by
    rw [alk_mk] at h
    simp only [Bool.and_eq_true, decide_eq_true_eq] at h
    obtain ⟨⟨rfl, hl⟩, h⟩ := h
    have ka : ∀ y ∈ l, allX y = true := allX_kids ha
    have kb : ∀ y ∈ l', allX y = true := allX_kids hb
    rw [cnE, cnE]
    by_cases h1 : k = 1
    · obtain rfl : l = [] := kids_none ha h1
      obtain rfl : l' = [] := kids_none hb h1
      rw [if_pos h1] at h
      simp only [Bool.and_eq_true, Bool.or_eq_true, decide_eq_true_eq] at h
      obtain ⟨e, h⟩ := h
      have hk : ¬ (k = 7 ∨ k = 10) := by omega
      rw [if_neg hk, if_neg hk, ← e, cnL, cnL]
      rcases h with h | h
      · rw [if_pos ⟨h1, h⟩, if_pos ⟨h1, h⟩]
      · rw [h]
    · rw [if_neg h1] at h
      by_cases hk : k = 7 ∨ k = 10
      · rw [if_pos hk] at h
        rw [if_pos hk, if_pos hk, alk_cnL l l' _ _ (n ++ [leastN (usedN A n)]) A ka kb hl h]
      · rw [if_neg hk, Bool.and_eq_true, decide_eq_true_eq] at h
        rw [if_neg hk, if_neg hk, alk_cnL l l' _ _ n A ka kb hl h.2, if_neg (fun c => h1 c.1), if_neg (fun c => h1 c.1), h.1]
theorem alk_cnL : ∀ (l m : List Ex) (p q n : List Int) (A : Nat), (∀ y ∈ l, allX y = true) → (∀ y ∈ m, allX y = true) → l.length = m.length → alkL l m p q = true → cnL l p n A = cnL m q n A
  | [], [], p, q, n, A, _, _, _, _ => by rw [cnL, cnL]
  | e :: l, f :: m, p, q, n, A, ha, hb, hl, h => by
    rw [alkL, Bool.and_eq_true] at h
    rw [cnL, cnL, alk_cn e f p q n A (ha e (by simp)) (hb f (by simp)) h.1, alk_cnL l m p q n A (fun y hy => ha y (by simp [hy])) (fun y hy => hb y (by simp [hy])) (by simpa using hl) h.2]
end
/-! ### Both ways round -/
mutual
theorem alk_join : ∀ (a b x : Ex) (p q n : List Int), alkE a x p n = true → alkE b x q n = true → alkE a b p q = true
  | .mk k i l, .mk k' i' l', .mk k2 i2 l2, p, q, n, h, g => by
    rw [alk_mk] at h g ⊢
    simp only [Bool.and_eq_true, decide_eq_true_eq] at h g ⊢
    obtain ⟨⟨rfl, hl⟩, h⟩ := h
    obtain ⟨⟨rfl, gl⟩, g⟩ := g
    refine ⟨⟨rfl, by omega⟩, ?_⟩
    by_cases h1 : k' = 1
    · rw [if_pos h1] at h g ⊢
      simp only [Bool.and_eq_true, Bool.or_eq_true, decide_eq_true_eq] at h g ⊢
      exact ⟨by omega, by omega⟩
    · rw [if_neg h1] at h g ⊢
      by_cases hk : k' = 7 ∨ k' = 10
      · rw [if_pos hk] at h g ⊢
        exact alk_joinL l l' l2 _ _ _ hl gl h g
      · rw [if_neg hk, Bool.and_eq_true, decide_eq_true_eq] at h g ⊢
        exact ⟨by omega, alk_joinL l l' l2 _ _ _ hl gl h.2 g.2⟩
theorem alk_joinL : ∀ (l m o : List Ex) (p q n : List Int), l.length = o.length → m.length = o.length → alkL l o p n = true → alkL m o q n = true → alkL l m p q = true
  | [], [], [], p, q, n, _, _, _, _ => by simp [alkL]
  | [], _ :: _, [], _, _, _, _, h, _, _ => by simp at h
  | [], [], _ :: _, _, _, _, h, _, _, _ => by simp at h
  | [], _ :: _, _ :: _, _, _, _, h, _, _, _ => by simp at h
  | _ :: _, [], [], _, _, _, h, _, _, _ => by simp at h
  | _ :: _, [], _ :: _, _, _, _, _, h, _, _ => by simp at h
  | _ :: _, _ :: _, [], _, _, _, h, _, _, _ => by simp at h
  | e :: l, f :: m, z :: o, p, q, n, h1, h2, h, g => by
    rw [alkL, Bool.and_eq_true] at h g ⊢
    exact ⟨alk_join e f z p q n h.1 g.1, alk_joinL l m o p q n (by simpa using h1) (by simpa using h2) h.2 g.2⟩
end
/-! ### A tree and its common form -/
theorem plR_none : ∀ (l : List Int) (x : Int), x ∉ l → plR l x = -1
  | [], x, _ => rfl
  | v :: r, x, h => by
    rw [plR, if_neg (fun e => h (by rw [e]; simp))]
    exact plR_none r x fun hx => h (by simp [hx])
theorem pl_none {l : List Int} {x : Int} (h : x ∉ l) : pl l x = -1 := plR_none _ _ (by simpa using h)
theorem pl_at : ∀ {n : List Int}, n.Nodup → ∀ {j : Nat} (hj : j < n.length), pl n n[j] = j := by
  intro n
  refine snoc_ind (p := fun n => n.Nodup → ∀ {j : Nat} (hj : j < n.length), pl n n[j] = j) ?_ ?_ n
  · intro _ j hj; simp at hj
  · intro n z ih hn j hj
    rw [List.nodup_append] at hn
    by_cases c : j < n.length
    · have e : (n ++ [z])[j] = n[j] := List.getElem_append_left c
      rw [e, pl_snoc, if_neg (fun h => hn.2.2 _ (List.getElem_mem c) z (by simp) h.symm)]
      exact ih hn.1 c
    · have e1 : j = n.length := by simp at hj; omega
      subst e1
      simp [pl_snoc]
def NewN (n : List Int) (A : Nat) : Prop := Nn n ∧ n.Nodup ∧ ∀ z ∈ n, A.testBit z.toNat = false
theorem newN_next {n : List Int} {A : Nat} (h : NewN n A) (hz : ¬ leastN (usedN A n) < 0) : NewN (n ++ [leastN (usedN A n)]) A := by
  obtain ⟨h1, h2, h3⟩ := h
  have hr := least_range (usedN A n)
  have hf := least_free hz
  have hb := used_bit (A := A) h1 (z := leastN (usedN A n)) (by omega)
  rw [hf] at hb
  have hn : ¬ (A.testBit (leastN (usedN A n)).toNat = true ∨ leastN (usedN A n) ∈ n) := fun c => by have := hb.2 c; cases this
  refine ⟨nn_snoc h1 (by omega) hr.2, ?_, fun z hz => ?_⟩
  · rw [List.nodup_append]
    exact ⟨h2, by simp, fun a ha b hb2 e => hn (.inr (by rw [List.mem_singleton.1 hb2] at e; rw [← e]; exact ha))⟩
  · rcases List.mem_append.1 hz with hz | hz
    · exact h3 z hz
    · rw [List.mem_singleton.1 hz]
      cases hA : A.testBit (leastN (usedN A n)).toNat with
      | false => rfl
      | true => exact absurd (.inl hA) hn
theorem pl_snoc_neg {l : List Int} {i v : Int} : pl (l ++ [i]) v < 0 ↔ ¬ i = v ∧ pl l v < 0 := by
  rw [pl_snoc]
  split
  · rename_i h; exact ⟨fun c => by omega, fun c => absurd h c.1⟩
  · rename_i h; exact ⟨fun c => ⟨h, c⟩, fun c => c.2⟩
mutual
theorem cn_alk : ∀ (a : Ex) (p n : List Int) (A : Nat) (x : Ex), allX a = true → p.length = n.length → NewN n A → (∀ v : Int, hasB (frE a) v = true → pl p v < 0 → A.testBit v.toNat = true) → cnE a p n A = some x → alkE a x p n = true
  | .mk k i l, p, n, A, x, ha, hp, hn, hA, h => by
    have ka : ∀ y ∈ l, allX y = true := allX_kids ha
    rw [cnE] at h
    by_cases hk : k = 7 ∨ k = 10
    · have h1 : ¬ k = 1 := by omega
      rw [if_pos hk] at h
      by_cases hz : leastN (usedN A n) < 0
      · rw [if_pos hz] at h; cases h
      · rw [if_neg hz] at h
        obtain ⟨m, hm, rfl⟩ := Option.map_eq_some_iff.1 h
        obtain ⟨e1, e2⟩ := cn_alkL l (p ++ [i]) (n ++ [leastN (usedN A n)]) A m ka (by simp [hp]) (newN_next hn hz) (fun v hv hpl => by
          rw [pl_snoc_neg] at hpl
          refine hA v ?_ hpl.2
          rw [has_node h1, hv, has_bin (bin_in ha)]
          simp [hpl.1]) hm
        rw [alk_mk, if_neg h1, if_pos hk, e2]
        simp [e1]
    · rw [if_neg hk] at h
      obtain ⟨m, hm, rfl⟩ := Option.map_eq_some_iff.1 h
      by_cases h1 : k = 1
      · obtain rfl : l = [] := kids_none ha h1
        rw [cnL] at hm; cases hm
        have hv := shaped_var ha (.inl h1)
        simp only [Ex.i_mk] at hv
        rw [alk_mk, if_pos h1]
        have hpl := pl_range p i
        by_cases c : 0 ≤ pl p i
        · rw [if_pos ⟨h1, c⟩]
          have hj : (pl p i).toNat < n.length := by omega
          have e : n.getD (pl p i).toNat 0 = n[(pl p i).toNat] := by rw [List.getD_eq_getElem?_getD, List.getElem?_eq_getElem hj]; rfl
          have e2 := pl_at hn.2.1 hj
          rw [e, e2]
          have e3 : pl p i = ((pl p i).toNat : Int) := by omega
          simp [← e3, c]
        · rw [if_neg (fun z => c z.2)]
          have hf : hasB (frE (.mk k i [])) i = true := by rw [frE, if_pos h1, hasB_one hv]; simp
          have hb := hA i hf (by omega)
          have hni : i ∉ n := fun hm => by have := hn.2.2 i hm; rw [hb] at this; cases this
          rw [pl_none hni]
          have : pl p i = -1 := by omega
          simp [this]
      · obtain ⟨e1, e2⟩ := cn_alkL l p n A m ka hp hn (fun v hv hpl => by
          refine hA v ?_ hpl
          rw [has_node h1, hv, has_bin (bin_in ha)]
          simp [hk]) hm
        rw [alk_mk, if_neg h1, if_neg hk, e2, if_neg (fun c => h1 c.1)]
        simp [e1]
theorem cn_alkL : ∀ (l : List Ex) (p n : List Int) (A : Nat) (m : List Ex), (∀ e ∈ l, allX e = true) → p.length = n.length → NewN n A → (∀ v : Int, hasB (frL l) v = true → pl p v < 0 → A.testBit v.toNat = true) → cnL l p n A = some m → l.length = m.length ∧ alkL l m p n = true
  | [], p, n, A, m, ha, hp, hn, hA, h => by
    rw [cnL] at h; cases h
    exact ⟨rfl, by rw [alkL]; simp⟩
  | e :: l, p, n, A, m, ha, hp, hn, hA, h => by
    rw [cnL] at h
    obtain ⟨x, hx, h1⟩ := Option.bind_eq_some_iff.1 h
    obtain ⟨m', hm, rfl⟩ := Option.map_eq_some_iff.1 h1
    have e1 := cn_alk e p n A x (ha e (by simp)) hp hn (fun v hv hpl => hA v (by rw [has_cons, hv]; rfl) hpl) hx
    obtain ⟨e2, e3⟩ := cn_alkL l p n A m' (fun y hy => ha y (by simp [hy])) hp hn (fun v hv hpl => hA v (by rw [has_cons, hv]; simp) hpl) hm
    exact ⟨by simp [e2], by rw [alkL, e1, e3]; rfl⟩
end
/-! ### What is alike leaves free alike -/
mutual
theorem alk_fr : ∀ (a b : Ex) (p q : List Int), allX a = true → allX b = true → alkE a b p q = true → ∀ v : Int, (hasB (frE a) v = true ∧ pl p v < 0) ↔ (hasB (frE b) v = true ∧ pl q v < 0)
  | .mk k i l, .mk k' i' l', p, q, ha, hb, h, v => by
    rw [alk_mk] at h
    simp only [Bool.and_eq_true, decide_eq_true_eq] at h
    obtain ⟨⟨rfl, hl⟩, h⟩ := h
    have ka : ∀ y ∈ l, allX y = true := allX_kids ha
    have kb : ∀ y ∈ l', allX y = true := allX_kids hb
    by_cases h1 : k = 1
    · rw [if_pos h1] at h
      simp only [Bool.and_eq_true, Bool.or_eq_true, decide_eq_true_eq] at h
      have va := shaped_var ha (.inl h1)
      have vb := shaped_var hb (.inl h1)
      simp only [Ex.i_mk] at va vb
      rw [frE, if_pos h1, frE, if_pos h1, hasB_one va, hasB_one vb, decide_eq_true_eq, decide_eq_true_eq]
      constructor
      · rintro ⟨e, e2⟩
        subst e
        rcases h.2 with h2 | h2
        · omega
        · subst h2; exact ⟨rfl, by omega⟩
      · rintro ⟨e, e2⟩
        subst e
        rcases h.2 with h2 | h2
        · omega
        · subst h2; exact ⟨rfl, by omega⟩
    · rw [if_neg h1] at h
      rw [has_node h1, has_node h1, has_bin (bin_in ha), has_bin (bin_in hb)]
      by_cases hk : k = 7 ∨ k = 10
      · rw [if_pos hk] at h
        have ih := alk_frL l l' (p ++ [i]) (q ++ [i']) ka kb hl h v
        rw [pl_snoc_neg, pl_snoc_neg] at ih
        simp only [Bool.and_eq_true, Bool.not_eq_true', decide_eq_false_iff_not]
        simp only [hk, true_and]
        constructor
        · rintro ⟨⟨h1, h2⟩, h3⟩
          obtain ⟨g1, g2, g3⟩ := ih.1 ⟨h1, h2, h3⟩
          exact ⟨⟨g1, g2⟩, g3⟩
        · rintro ⟨⟨h1, h2⟩, h3⟩
          obtain ⟨g1, g2, g3⟩ := ih.2 ⟨h1, h2, h3⟩
          exact ⟨⟨g1, g2⟩, g3⟩
      · rw [if_neg hk, Bool.and_eq_true, decide_eq_true_eq] at h
        have ih := alk_frL l l' p q ka kb hl h.2 v
        simpa [hk] using ih
theorem alk_frL : ∀ (l m : List Ex) (p q : List Int), (∀ y ∈ l, allX y = true) → (∀ y ∈ m, allX y = true) → l.length = m.length → alkL l m p q = true → ∀ v : Int, (hasB (frL l) v = true ∧ pl p v < 0) ↔ (hasB (frL m) v = true ∧ pl q v < 0)
  | [], [], p, q, _, _, _, _, v => by simp [frL, hasB]
  | e :: l, f :: m, p, q, ha, hb, hl, h, v => by
    rw [alkL, Bool.and_eq_true] at h
    have h1 := alk_fr e f p q (ha e (by simp)) (hb f (by simp)) h.1 v
    have h2 := alk_frL l m p q (fun y hy => ha y (by simp [hy])) (fun y hy => hb y (by simp [hy])) (by simpa using hl) h.2 v
    rw [has_cons, has_cons, Bool.or_eq_true, Bool.or_eq_true, or_and_right, or_and_right, h1, h2]
end
theorem alk_fr0 {a b : Ex} (ha : allX a = true) (hb : allX b = true) (h : alkE a b [] [] = true) : frE a = frE b := by
  refine fr_bits (frE_lt ha) (frE_lt hb) fun v => ?_
  have := alk_fr a b [] [] ha hb h v
  simp only [pl_nil, and_true, show ((-1 : Int) < 0) = True from by simp] at this
  cases h1 : hasB (frE a) v <;> cases h2 : hasB (frE b) v <;> simp_all
/-- The common form. -/
def canX (a : Ex) : Option Ex := pcE a names0 (frE a)
theorem canX_eq {a : Ex} (ha : allX a = true) : canX a = cnE a [] [] (frE a) := pc_cn0 a (frE a) ha
theorem newN0 (A : Nat) : NewN [] A := ⟨fun z h => by simp at h, List.nodup_nil, fun z h => by simp at h⟩
theorem can_good {a x : Ex} (ha : rightE a = 0) (h : canX a = some x) : rightE x = 0 ∧ alkE a x [] [] = true ∧ canX x = some x := by
  have h3 : allX a = true := (right_zero ha).2.2
  rw [canX_eq h3] at h
  have hr := cn_right ha h
  have hx : allX x = true := (right_zero hr).2.2
  have hk := cn_alk a [] [] (frE a) x h3 rfl (newN0 _) (fun v hv _ => by
    have := hasB_range hv
    rwa [hasB_in this] at hv) h
  refine ⟨hr, hk, ?_⟩
  rw [canX_eq hx, ← alk_fr0 h3 hx hk, ← alk_cn a x [] [] [] (frE a) h3 hx hk]
  exact h
theorem can_alike {a b x y : Ex} (ha : rightE a = 0) (hb : rightE b = 0) (hx : canX a = some x) (hy : canX b = some y) : alkE a b [] [] = decide (ordE x y = 0) := by
  have ha3 : allX a = true := (right_zero ha).2.2
  have hb3 : allX b = true := (right_zero hb).2.2
  obtain ⟨_, a2, _⟩ := can_good ha hx
  obtain ⟨_, b2, _⟩ := can_good hb hy
  cases hk : alkE a b [] [] with
  | true =>
    have e : x = y := by
      rw [canX_eq ha3] at hx
      rw [canX_eq hb3, ← alk_fr0 ha3 hb3 hk, ← alk_cn a b [] [] [] (frE a) ha3 hb3 hk, hx] at hy
      exact Option.some.inj hy
    rw [e, ordE_self]; rfl
  | false =>
    symm
    rw [decide_eq_false_iff_not]
    intro c
    have e := ord_eq x y c
    subst e
    rw [alk_join a b x [] [] [] a2 b2] at hk
    cases hk
end Go.Proofs.YtaacfmakfkaddaaDoor.Ax
