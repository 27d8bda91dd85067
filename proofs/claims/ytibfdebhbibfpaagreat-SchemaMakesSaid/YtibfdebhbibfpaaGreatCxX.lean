/- The law SchemaPuts, walked. -/
import Derived.Test.YtibfdebhbibfpaaGreatCxV
import Derived.Test.YtibfdebhbibfpaaGreatCxO
set_option linter.unusedVariables false
set_option linter.unusedSimpArgs false
namespace Go.Proofs.YtibfdebhbibfpaaGreat.Ax
open Go Go.Proofs

mutual
/-- What stands for a variable is swapped. -/
theorem sw_put {x : Int} {t u : Ex} : ∀ (a : Ex) (may : Bool), allX a = true → catE (vaE t) x a = 0 → catE (vaE u) x a = 0 → (hasB (frE a) x = true → may = true) → swE t u (vaE t ||| vaE u) (psF (sgF x t) a) (psF (sgF x u) a) may = true
  | .mk k i l, may, ha, h1, h2, hm => by
    cases hf : hasB (frE (.mk k i l)) x with
    | false => rw [psF_not ha hf, psF_not ha hf]; exact sw_self _ _ _ _ _
    | true =>
      have hmay := hm hf
      subst hmay
      by_cases hk : k = 1
      · have hl : l = [] := kids_none ha hk
        subst hk hl
        have hv := shaped_var ha (.inl rfl)
        simp only [Ex.i_mk] at hv
        rw [frE, if_pos rfl, hasB_one hv] at hf
        have hi : i = x := of_decide_eq_true hf
        have e1 : ∀ z : Ex, psF (sgF x z) (.mk 1 i []) = z := fun z => by rw [psF, if_pos rfl]; unfold sgF; rw [if_pos hi]; rfl
        rw [e1, e1, swE_eq]
        unfold hitB
        rw [ordE_self, ordE_self]; rfl
      · have hq : ¬ ((k = 7 ∨ k = 10) ∧ i = x) := fun h => by
          rw [has_node hk, has_bin (bin_in ha)] at hf
          simp [h.1, h.2] at hf
        obtain ⟨a1, a2⟩ := cat_zero h1 hf
        obtain ⟨b1, b2⟩ := cat_zero h2 hf
        rw [psF, psF, if_neg hk, if_neg hk, quF_sg hq, quF_sg hq, swE]
        have hn : ((decide (k = 7) || decide (k = 10)) && hasB (vaE t ||| vaE u) i) = false := by
          by_cases hb : k = 7 ∨ k = 10
          · rw [hasB_or, bin_not hb (bin_in ha hb) a1, bin_not hb (bin_in ha hb) b1]; simp
          · have : (decide (k = 7) || decide (k = 10)) = false := by simpa using hb
            rw [this]; rfl
        simp only [Ex.k_mk, Ex.i_mk, Ex.kids_mk]
        have hs := sw_putL l (kidsX ha) a2 b2
        rw [hn]
        simp [psL_len, hs]
theorem sw_putL {x : Int} {t u : Ex} : ∀ (l : List Ex), (∀ e ∈ l, allX e = true) → catL (vaE t) x l = 0 → catL (vaE u) x l = 0 → swL t u (vaE t ||| vaE u) (psL (sgF x t) l) (psL (sgF x u) l) true = true
  | [], _, _, _ => by simp only [psL, swL]
  | e :: l, ha, h1, h2 => by
    obtain ⟨a1, a2⟩ := catL_cons h1
    obtain ⟨b1, b2⟩ := catL_cons h2
    simp only [psL]
    rw [swL, sw_put e _ (ha e (by simp)) a1 b1 (fun _ => rfl), sw_putL l (fun y hy => ha y (by simp [hy])) a2 b2]; rfl
end
theorem sw_mk {a b t u : Ex} (h1 : rightE a = 0) (h2 : rightE b = 0) (h3 : rightE t = 0) (h4 : rightE u = 0) (h5 : isT a = false) (h6 : isT b = false) (h7 : isT t = true) (h8 : isT u = true) : swErr a b t u = 0 := by
  unfold swErr sortE
  rw [if_neg (by simp [firstBad, h1, h2, h3, h4])]
  simp [sortsOk, h5, h6, h7, h8]
end Go.Proofs.YtibfdebhbibfpaaGreat.Ax
