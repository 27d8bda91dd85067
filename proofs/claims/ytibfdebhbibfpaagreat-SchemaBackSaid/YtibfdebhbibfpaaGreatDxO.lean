/- SchemaBack. -/
import Derived.Test.YtibfdebhbibfpaaGreatDxN
set_option linter.unusedVariables false
set_option linter.unusedSimpArgs false
namespace Go.Proofs.YtibfdebhbibfpaaGreat.Ax
open Go Go.Proofs

theorem sort_ft {a t : Ex} (h : sortE [a, t] (srtS 4) = 0) : rightE a = 0 ∧ rightE t = 0 ∧ isT a = false ∧ isT t = true := by
  obtain ⟨hall, hso⟩ := sortE_ok h
  simp [srtS, sortsOk] at hso
  exact ⟨hall a (by simp), hall t (by simp), hso.1, hso.2⟩
theorem sort_mk {a t : Ex} (h1 : rightE a = 0) (h2 : rightE t = 0) (h3 : isT a = false) (h4 : isT t = true) : sortE [a, t] (srtS 4) = 0 := by
  have hf : firstBad [a, t] = 0 := by
    rw [firstBad, if_neg (by simpa using h1), firstBad, if_neg (by simpa using h2)]; rfl
  unfold sortE
  rw [hf, if_neg (by omega)]
  simp [srtS, sortsOk, h3, h4]
theorem mk_side_ok {k : Int} {l : List Ex} {x : Int} (h : mkErr k l x = 0) : sideB k l x = true := by
  obtain ⟨hk, hp, hs⟩ := mk_ok h
  cases hb : sideB k l x with
  | true => rfl
  | false => have := mk_side hk hp hs hb; omega
theorem back_four {a t : Ex} {x : Int} (h : mkErr 4 [a, t] x = 0) : validB 4 (instE 4 [a, t] x) = true := by
  obtain ⟨hk, hp, hs⟩ := mk_ok h
  obtain ⟨ra, rt, ta, tt⟩ := sort_ft hs
  have hx : 0 ≤ x ∧ x ≤ 63 := ⟨hp.2.1, hp.2.2.1⟩
  have ha := (right_zero ra).2.2
  have hi : instE 4 [a, t] x = impX (allQ x a) (psF (sgF x t) a) := by unfold instE psX; simp
  have hg : gs 4 (instE 4 [a, t] x) = ([a, (rsE a (psF (sgF x t) a) x).getD (.mk 1 x [])], x) := by
    rw [hi]; unfold gs; simp
  unfold validB
  rw [hg]
  rw [good_iff]
  cases hf : hasB (frE a) x with
  | true =>
    rw [(st_some tt a ha hf).2]
    exact ⟨h, rfl⟩
  | false =>
    rw [rs_none hf]
    have e1 : psF (sgF x t) a = a := psF_not ha hf
    have e2 : psF (sgF x (.mk 1 x [])) a = a := psF_own ha
    have hi2 : instE 4 [a, .mk 1 x []] x = impX (allQ x a) (psF (sgF x (.mk 1 x [])) a) := by unfold instE psX; simp
    refine ⟨?_, ?_⟩
    · show mkErr 4 [a, .mk 1 x []] x = 0
      have hs2 := sort_mk ra (var_right hx) ta (show isT (.mk 1 x []) = true from rfl)
      have hp2 : Prt 4 [a, .mk 1 x []] x := ⟨rfl, hp.2.1, hp.2.2.1, .inl rfl⟩
      have hb2 : sideB 4 [a, .mk 1 x []] x = true := by
        show ffB (.mk 1 x []) x a = true
        rw [ffB_eq hx ra (var_right hx) rfl, var_va, cat_self x hx a ha]; rfl
      have h3 := (mk_right hk hp hs (mk_side_ok h)).symm.trans h
      rw [hi, e1] at h3
      rw [mk_right hk hp2 hs2 hb2, hi2, e2]
      exact h3
    · show instE 4 [a, .mk 1 x []] x = instE 4 [a, t] x
      rw [hi, hi2, e1, e2]
theorem back_law {k : Int} {l : List Ex} {x : Int} (h : mkErr k l x = 0) : validB k (instE k l x) = true ∧ wantF (instE k l x) = 0 := by
  obtain ⟨hk, hp, hs⟩ := mk_ok h
  have hr := mk_inst h
  refine ⟨?_, ?_⟩
  · have hl := hp.1
    have hx := hp.2.2.2
    rcases seven hk with rfl | rfl | rfl | rfl | rfl | rfl | rfl
    · obtain ⟨a, b, rfl⟩ := len_two hl
      obtain rfl : x = 0 := by rcases hx with h | h; cases h; exact h
      unfold validB; rw [good_iff]; exact ⟨h, rfl⟩
    · obtain ⟨a, b, c, rfl⟩ := len_three hl
      obtain rfl : x = 0 := by rcases hx with h | h; cases h; exact h
      unfold validB; rw [good_iff]; exact ⟨h, rfl⟩
    · obtain ⟨a, b, rfl⟩ := len_two hl
      obtain rfl : x = 0 := by rcases hx with h | h; cases h; exact h
      unfold validB; rw [good_iff]; exact ⟨h, rfl⟩
    · obtain ⟨a, b, rfl⟩ := len_two hl
      exact back_four h
    · obtain ⟨a, b, rfl⟩ := len_two hl
      unfold validB; rw [good_iff]; exact ⟨h, rfl⟩
    · obtain ⟨a, rfl⟩ := len_one hl
      obtain rfl : x = 0 := by rcases hx with h | h; cases h; exact h
      unfold validB; rw [good_iff]; exact ⟨h, rfl⟩
    · obtain ⟨a, b, c, d, rfl⟩ := len_four hl
      obtain rfl : x = 0 := by rcases hx with h | h; cases h; exact h
      unfold validB; rw [good_iff]; exact ⟨h, rfl⟩
  · unfold wantF
    rw [if_neg (by simpa using hr)]
    have : isT (instE k l x) = false := by
      rcases seven hk with rfl | rfl | rfl | rfl | rfl | rfl | rfl <;> rfl
    rw [this]; rfl
theorem whN_mem {e : Ex} {k : Int} (hk : okK k) (h : validB k e = true) : k ∈ whN e 7 := by
  have key : ∀ j : Nat, ∀ i : Nat, i < j → validB ((i : Int) + 1) e = true → ((i : Int) + 1) ∈ whN e j := by
    intro j
    induction j with
    | zero => intro i hi; omega
    | succ j ih =>
      intro i hi hv
      rw [whN]
      by_cases c : i = j
      · subst c; rw [if_pos hv]; simp
      · exact List.mem_append_left _ (ih i (by omega) hv)
  obtain ⟨h1, h2⟩ := hk
  obtain ⟨n, rfl⟩ : ∃ n : Nat, k = (n : Int) + 1 := ⟨(k - 1).toNat, by omega⟩
  exact key 7 n (by omega) h
def anyI (k : Int) (l : List Int) : Bool := l.any fun n => decide (n = k)
theorem anyI_take (k : Int) (l : List Int) (j : Nat) (h : j < l.length) : anyI k (l.take (j + 1)) = (anyI k (l.take j) || decide (l[j] = k)) := by
  have ht : l.take (j + 1) = l.take j ++ [l[j]] := by rw [List.take_add_one, List.getElem?_eq_getElem h]; rfl
  unfold anyI
  rw [ht, List.any_append, List.any_cons, List.any_nil, Bool.or_false]
set_option maxHeartbeats 4000000 in
theorem ok_SchemaBack : PureOk Tryz.prog 7 (f2 (kI .i64) kPa fun _ _ => some (.bool true)) := by
  intro args r h
  obtain ⟨k, ⟨l, x⟩, rfl, ⟨⟩⟩ := f2_inv h; clear h
  have hE := (((((((EnvOk.nil (P := Tryz.prog) (eq := fun _ => false) (own := fun _ => false) (mem := fun _ => false) EqOk.none).addf ok_rMake).addf ok_sMake).addf ok_IsS).addf ok_PartsS).addf ok_WhichS).addf ok_rLike)
  refine ⟨⟨Tryz.f7, Tryz.func7, by decide, rfl⟩, pure_of_T Tryz.func7 rfl (by simp [Tryz.ntmps7]) fun q => ?_⟩
  by_cases m : mkErr k l x = 0
  rotate_left
  · have hm := mkRes_bad rfl m
    repeat' (first | (with_reducible refine T.sq fun K hK => ?_) | ((first | ((with_reducible refine T.reg hE ?hd ?_); (case hd => kernel_rfl)) | ((with_reducible refine T.any hE mixed ?hd ?hok ?_); (case hd => kernel_rfl); (case hok => kernel_rfl))); simp [*]; (repeat' (split; all_goals (rename_i hc; try simp [*])))) | ((with_reducible refine T.ret ?_); refine fin_pure ?_; simp [*]; try (change Hold _)) | (with_reducible refine T.block ?_) | ((with_reducible refine T.skip ?_); simp [*]) | ((with_reducible refine T.exit ?_); simp [*]) | ((with_reducible refine T.br fun K1 K2 hK1 hK2 => ?_); simp [*]; try ((refine Br.intro (fun hc => ?_) (fun hc => ?_)) <;> (try simp at hc))) | (with_reducible refine Cont.go (by assumption) _ ?_) | (with_reducible refine Cnt.go (by assumption) ?_))
    all_goals (unfold Hold; first | rfl | (simp [*]; done))
  have hm := mkRes_good m
  obtain ⟨hvb, hw⟩ := back_law m
  obtain ⟨hk, _, _⟩ := mk_ok m
  have he : ptErr k (instE k l x) = 0 := by unfold ptErr; rw [if_pos (show 1 ≤ k ∧ k ≤ 7 from hk), if_neg (by simpa using hw), if_pos hvb]
  have hpt := ptRes_good he
  have his : isR k (instE k l x) = .tup [.bool true, .int .i64 0] := by unfold isR; rw [he]; rfl
  obtain ⟨hg1, hg2⟩ := good_iff.1 hvb
  have hm2 := mkRes_good hg1
  rw [hg2] at hm2
  have hwv : whV (instE k l x) = .tup [.sl (encI .i64 (whN (instE k l x) 7)) .no, .int .i64 0] := by unfold whV; rw [if_pos hw]
  have hmem := whN_mem hk hvb
  have hwl := whN_len (instE k l x) 7
  have ho := ordE_self (instE k l x)
  clear m hvb hw hk he hg1 hg2
  generalize instE k l x = X at *
  generalize gs k X = P at *
  obtain ⟨l2, x2⟩ := P
  generalize whN X 7 = L at *
  simp only at hpt hm2
  have hany : anyI k L = true := List.any_eq_true.2 ⟨k, hmem, by simp⟩
  clear hmem
  repeat' (first | (with_reducible refine T.sq fun K hK => ?_) | ((first | ((with_reducible refine T.reg hE ?hd ?_); (case hd => kernel_rfl)) | ((with_reducible refine T.any hE mixed ?hd ?hok ?_); (case hd => kernel_rfl); (case hok => kernel_rfl))); simp [*]; (repeat' (split; all_goals (rename_i hc; try simp [*])))) | ((with_reducible refine T.ret ?_); refine fin_pure ?_; simp [*]; try (change Hold _)) | (with_reducible refine T.block ?_) | ((with_reducible refine T.skip ?_); simp [*]) | ((with_reducible refine T.exit ?_); simp [*]) | ((with_reducible refine T.br fun K1 K2 hK1 hK2 => ?_); simp [*]; try ((refine Br.intro (fun hc => ?_) (fun hc => ?_)) <;> (try simp at hc))) | (with_reducible refine Cont.go (by assumption) _ ?_) | (with_reducible refine Cnt.go (by assumption) ?_))
  refine T.loop (fun n σ => ∃ j : Nat, n = L.length - j ∧ σ.get 0 = .int .i64 k ∧ σ.get 7 = .ptr (0 :: 9 :: q) 0 ∧ σ.M (0 :: 9 :: q) = some (.cells (encC X)) ∧ σ.get 13 = .ptr (0 :: 15 :: q) 0 ∧ σ.M (0 :: 15 :: q) = some (.cells (encC X)) ∧ σ.get 9 = .bool true ∧ σ.get 10 = .int .i64 0 ∧ σ.get 12 = .int .i64 0 ∧ σ.get 14 = .int .i64 0 ∧ σ.get 16 = .int .i64 0 ∧ σ.get 17 = .bool (anyI k (L.take j)) ∧ σ.get 65 = .sl (encI .i64 L) .no ∧ σ.get 66 = .int .i64 L.length ∧ σ.get 67 = .int .i64 j ∧ j ≤ L.length) L.length ⟨0, by simp [*, encC_eq, anyI]⟩ ?_
  rintro n σ ⟨j, rfl, g0, g1, m1, g2, m2, g3, g4, g5, g6, g7, g8, g9, g10, g11, g12⟩
  rw [encC_eq] at m1 m2
  by_cases hj : j < L.length
  · have hw : IntKind.i64.wrap ((j : Int) + 1) = (j : Int) + 1 := wrap64 (by omega) (by omega)
    have ht := anyI_take k L j hj
    clear hany
    cases hb : anyI k (L.take j) with
    | true =>
      rw [hb, Bool.true_or] at ht
      rw [hb] at g8
      clear hb
      repeat' (first | (with_reducible refine T.sq fun K hK => ?_) | ((first | ((with_reducible refine T.reg hE ?hd ?_); (case hd => kernel_rfl)) | ((with_reducible refine T.any hE mixed ?hd ?hok ?_); (case hd => kernel_rfl); (case hok => kernel_rfl))); simp [*]; (repeat' (split; all_goals (rename_i hc; try simp [*])))) | ((with_reducible refine T.ret ?_); refine fin_pure ?_; simp [*]; try (change Hold _)) | (with_reducible refine T.block ?_) | ((with_reducible refine T.skip ?_); simp [*]) | ((with_reducible refine T.exit ?_); simp [*]) | ((with_reducible refine T.br fun K1 K2 hK1 hK2 => ?_); simp [*]; try ((refine Br.intro (fun hc => ?_) (fun hc => ?_)) <;> (try simp at hc))) | (with_reducible refine Cont.go (by assumption) _ ?_) | (with_reducible refine Cnt.go (by assumption) ?_))
      exact ⟨_, by omega, j + 1, rfl, by simp [encC_eq], by first | exact ht | exact ht.symm, by omega, by omega⟩
    | false =>
      rw [hb, Bool.false_or] at ht
      rw [hb] at g8
      clear hb
      by_cases c : L[j] = k
      · rw [decide_eq_true c] at ht
        repeat' (first | (with_reducible refine T.sq fun K hK => ?_) | ((first | ((with_reducible refine T.reg hE ?hd ?_); (case hd => kernel_rfl)) | ((with_reducible refine T.any hE mixed ?hd ?hok ?_); (case hd => kernel_rfl); (case hok => kernel_rfl))); simp [*]; (repeat' (split; all_goals (rename_i hc; try simp [*])))) | ((with_reducible refine T.ret ?_); refine fin_pure ?_; simp [*]; try (change Hold _)) | (with_reducible refine T.block ?_) | ((with_reducible refine T.skip ?_); simp [*]) | ((with_reducible refine T.exit ?_); simp [*]) | ((with_reducible refine T.br fun K1 K2 hK1 hK2 => ?_); simp [*]; try ((refine Br.intro (fun hc => ?_) (fun hc => ?_)) <;> (try simp at hc))) | (with_reducible refine Cont.go (by assumption) _ ?_) | (with_reducible refine Cnt.go (by assumption) ?_))
        exact ⟨_, by omega, j + 1, rfl, by simp [encC_eq], by first | exact ht | exact ht.symm, by omega, by omega⟩
      · rw [decide_eq_false c] at ht
        repeat' (first | (with_reducible refine T.sq fun K hK => ?_) | ((first | ((with_reducible refine T.reg hE ?hd ?_); (case hd => kernel_rfl)) | ((with_reducible refine T.any hE mixed ?hd ?hok ?_); (case hd => kernel_rfl); (case hok => kernel_rfl))); simp [*]; (repeat' (split; all_goals (rename_i hc; try simp [*])))) | ((with_reducible refine T.ret ?_); refine fin_pure ?_; simp [*]; try (change Hold _)) | (with_reducible refine T.block ?_) | ((with_reducible refine T.skip ?_); simp [*]) | ((with_reducible refine T.exit ?_); simp [*]) | ((with_reducible refine T.br fun K1 K2 hK1 hK2 => ?_); simp [*]; try ((refine Br.intro (fun hc => ?_) (fun hc => ?_)) <;> (try simp at hc))) | (with_reducible refine Cont.go (by assumption) _ ?_) | (with_reducible refine Cnt.go (by assumption) ?_))
        exact ⟨_, by omega, j + 1, rfl, by simp [encC_eq], by first | exact ht | exact ht.symm, by omega, by omega⟩
  · have w8 : j = L.length := by omega
    rw [w8, List.take_length, hany] at g8
    repeat' (first | (with_reducible refine T.sq fun K hK => ?_) | ((first | ((with_reducible refine T.reg hE ?hd ?_); (case hd => kernel_rfl)) | ((with_reducible refine T.any hE mixed ?hd ?hok ?_); (case hd => kernel_rfl); (case hok => kernel_rfl))); simp [*]; (repeat' (split; all_goals (rename_i hc; try simp [*])))) | ((with_reducible refine T.ret ?_); refine fin_pure ?_; simp [*]; try (change Hold _)) | (with_reducible refine T.block ?_) | ((with_reducible refine T.skip ?_); simp [*]) | ((with_reducible refine T.exit ?_); simp [*]) | ((with_reducible refine T.br fun K1 K2 hK1 hK2 => ?_); simp [*]; try ((refine Br.intro (fun hc => ?_) (fun hc => ?_)) <;> (try simp at hc))) | (with_reducible refine Cont.go (by assumption) _ ?_) | (with_reducible refine Cnt.go (by assumption) ?_))
    all_goals (unfold Hold; first | rfl | (simp [*]; done))
end Go.Proofs.YtibfdebhbibfpaaGreat.Ax
