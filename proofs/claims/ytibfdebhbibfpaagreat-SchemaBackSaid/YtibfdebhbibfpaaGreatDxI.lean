/- Contracts: parts are looked for, by the program. -/
import Derived.Test.YtibfdebhbibfpaaGreatDxH
set_option linter.unusedVariables false
set_option linter.unusedSimpArgs false
namespace Go.Proofs.YtibfdebhbibfpaaGreat.Ax
open Go Go.Proofs

theorem kids_eqs {e : Ex} (h : allX e = true) (hk : e.k = 4) : ∃ a b, e.kids = [a, b] := by
  rw [allX_eq, Bool.and_eq_true] at h
  have h1 := h.1
  unfold shapedX kidsAre at h1
  rw [Bool.and_eq_true] at h1
  have h2 := h1.2
  rw [if_neg (by omega), if_neg (by omega), if_pos hk] at h2
  simp only [Bool.and_eq_true, decide_eq_true_eq] at h2
  have h3 : e.kids.length = 2 := by omega
  exact len_two h3
def arK (k : Int) : Nat := if k = 6 ∨ k = 4 then 2 else if k = 7 then 1 else 0
theorem ar_len {e : Ex} (h : allX e = true) : arK e.k ≤ e.kids.length := by
  unfold arK
  split
  · rename_i c
    rcases c with c | c
    · obtain ⟨a, b, hl⟩ := kids_two h (.inl c); rw [hl]; simp
    · obtain ⟨a, b, hl⟩ := kids_eqs h c; rw [hl]; simp
  · split
    · rename_i c
      obtain ⟨a, hl⟩ := kids_one h (.inr (.inl c)); rw [hl]; simp
    · omega
def aKV (e : Ex) (ks ps : List Int) : V := match atK e ks ps with
  | some b => .tup [enc b, .bool true]
  | none => .tup [enc ex0, .bool false]
def okAt (e : Ex) (ks ps : List Int) : Prop := allX e = true ∧ ks.length = ps.length ∧ ps.length ≤ 8 ∧ ∀ (i : Nat) (h : i < ks.length) (h2 : i < ps.length), 0 ≤ ps[i] ∧ ps[i] < (arK ks[i] : Nat)
noncomputable instance (e : Ex) (ks ps : List Int) : Decidable (okAt e ks ps) := Classical.propDecidable _
@[simp] noncomputable def gAtK : List V → Option V := f3 kE (kIs .i64) (kIs .i64) fun e ks ps => if okAt e ks ps then some (aKV e ks ps) else none
theorem atK_step (e : Ex) (ks ps : List Int) (j : Nat) (h1 : j < ks.length) (h2 : j < ps.length) : atK e (ks.drop j) (ps.drop j) = if e.k = ks[j] then atK (kd e ps[j].toNat) (ks.drop (j + 1)) (ps.drop (j + 1)) else none := by
  rw [List.drop_eq_getElem_cons h1, List.drop_eq_getElem_cons h2, atK]
set_option maxHeartbeats 1000000 in
theorem ok_sAt : PureOk Tryz.prog 115 gAtK := by
  intro args r h
  obtain ⟨e, ks, ps, rfl, hr⟩ := f3_inv h; clear h
  split at hr
  · rename_i hm
    obtain ⟨ha, hl, hl8, hok⟩ := hm
    cases hr
    have hE := (EnvOk.nil (P := Tryz.prog) (eq := fun _ => false) (own := fun _ => false) (mem := fun _ => false) EqOk.none)
    refine ⟨⟨Tryz.f115, Tryz.func115, by decide, rfl⟩, pure_of_T Tryz.func115 rfl (by simp [Tryz.ntmps115]) fun q => ?_⟩
    repeat' (first | (with_reducible refine T.sq fun K hK => ?_) | ((first | ((with_reducible refine T.reg hE ?hd ?_); (case hd => kernel_rfl)) | ((with_reducible refine T.any hE mixed ?hd ?hok ?_); (case hd => kernel_rfl); (case hok => kernel_rfl))); simp [*]; (repeat' (split; all_goals (rename_i hc; try simp [*])))) | ((with_reducible refine T.ret ?_); refine fin_pure ?_; simp [*]; try (change Hold _)) | (with_reducible refine T.block ?_) | ((with_reducible refine T.skip ?_); simp [*]) | ((with_reducible refine T.exit ?_); simp [*]) | ((with_reducible refine T.br fun K1 K2 hK1 hK2 => ?_); simp [*]; try ((refine Br.intro (fun hc => ?_) (fun hc => ?_)) <;> (try simp at hc))) | (with_reducible refine Cont.go (by assumption) _ ?_) | (with_reducible refine Cnt.go (by assumption) ?_))
    refine T.loop (fun n σ => ∃ (j : Nat) (c : Ex), n = ps.length - j ∧ σ.get 1 = .sl (encI .i64 ks) .no ∧ σ.get 3 = .ptr (0 :: 5 :: q) 0 ∧ σ.M (0 :: 5 :: q) = some (.cells (encC c)) ∧ σ.get 6 = .ptr (0 :: 8 :: q) 0 ∧ (∃ c0 c1 c2, σ.M (0 :: 8 :: q) = some (.cells [c0, c1, c2])) ∧ σ.get 10 = .sl (encI .i64 ps) .no ∧ σ.get 11 = .int .i64 ps.length ∧ σ.get 12 = .int .i64 j ∧ j ≤ ps.length ∧ allX c = true ∧ Hold (aKV e ks ps = aKV c (ks.drop j) (ps.drop j))) ps.length ⟨0, e, by simp, by simp [*], by simp [*], by simp [*, encC_eq], by simp [*], by simp [*], by simp [*], by simp [*], by simp [*], by omega, ha, rfl⟩ ?_
    rintro n σ ⟨j, c, rfl, g1, g2, m1, g3, ⟨c0, c1, c2, m2⟩, g4, g5, g6, g7, g8, g9⟩
    rw [encC_eq] at m1
    by_cases hj : j < ps.length
    · have hjk : j < ks.length := by omega
      have hw : IntKind.i64.wrap ((j : Int) + 1) = (j : Int) + 1 := wrap64 (by omega) (by omega)
      have hjki : (j : Int) < (ks.length : Int) := by omega
      have hst := atK_step c ks ps j hjk hj
      by_cases c3 : c.k = ks[j]
      · have har := ar_len g8
        obtain ⟨hp0, hp1⟩ := hok j hjk hj
        rw [← c3] at hp1
        obtain ⟨m, hm⟩ := Int.eq_ofNat_of_zero_le hp0
        have hmc : m < c.kids.length := by omega
        have hmci : (m : Int) < (c.kids.length : Int) := by omega
        have hkd : kd c m = c.kids[m] := by unfold kd; simp [List.getD_eq_getElem?_getD, hmc]
        have hn : Hold (aKV e ks ps = aKV c.kids[m] (ks.drop (j + 1)) (ps.drop (j + 1))) := by
          unfold Hold aKV at *
          rw [g9, hst, if_pos c3, hm, Int.toNat_natCast, hkd]
        have hac := allX_kid g8 m hmc
        clear hst g9 hok har hp0 hp1 hkd
        repeat' (first | (with_reducible refine T.sq fun K hK => ?_) | ((first | ((with_reducible refine T.reg hE ?hd ?_); (case hd => kernel_rfl)) | ((with_reducible refine T.any hE mixed ?hd ?hok ?_); (case hd => kernel_rfl); (case hok => kernel_rfl))); simp [*]; (repeat' (split; all_goals (rename_i hc; try simp [*])))) | ((with_reducible refine T.ret ?_); refine fin_pure ?_; simp [*]; try (change Hold _)) | (with_reducible refine T.block ?_) | ((with_reducible refine T.skip ?_); simp [*]) | ((with_reducible refine T.exit ?_); simp [*]) | ((with_reducible refine T.br fun K1 K2 hK1 hK2 => ?_); simp [*]; try ((refine Br.intro (fun hc => ?_) (fun hc => ?_)) <;> (try simp at hc))) | (with_reducible refine Cont.go (by assumption) _ ?_) | (with_reducible refine Cnt.go (by assumption) ?_))
        exact ⟨_, by omega, j + 1, rfl, c.kids[m], by simp [encC_eq], by omega, by omega, hac, hn⟩
      · have hn : Hold (aKV e ks ps = .tup [enc ex0, .bool false]) := by
          unfold Hold aKV at *
          rw [g9, hst, if_neg c3]
        clear hst g9 hok
        repeat' (first | (with_reducible refine T.sq fun K hK => ?_) | ((first | ((with_reducible refine T.reg hE ?hd ?_); (case hd => kernel_rfl)) | ((with_reducible refine T.any hE mixed ?hd ?hok ?_); (case hd => kernel_rfl); (case hok => kernel_rfl))); simp [*]; (repeat' (split; all_goals (rename_i hc; try simp [*])))) | ((with_reducible refine T.ret ?_); refine fin_pure ?_; simp [*]; try (change Hold _)) | (with_reducible refine T.block ?_) | ((with_reducible refine T.skip ?_); simp [*]) | ((with_reducible refine T.exit ?_); simp [*]) | ((with_reducible refine T.br fun K1 K2 hK1 hK2 => ?_); simp [*]; try ((refine Br.intro (fun hc => ?_) (fun hc => ?_)) <;> (try simp at hc))) | (with_reducible refine Cont.go (by assumption) _ ?_) | (with_reducible refine Cnt.go (by assumption) ?_))
        all_goals (unfold Hold at *; rw [hn]; try simp [ex0])
    · have w8 : j = ps.length := by omega
      have hn : Hold (aKV e ks ps = .tup [enc c, .bool true]) := by
        unfold Hold aKV at *
        rw [g9, w8, List.drop_length]
        cases ks.drop ps.length <;> rfl
      clear g9 hok
      repeat' (first | (with_reducible refine T.sq fun K hK => ?_) | ((first | ((with_reducible refine T.reg hE ?hd ?_); (case hd => kernel_rfl)) | ((with_reducible refine T.any hE mixed ?hd ?hok ?_); (case hd => kernel_rfl); (case hok => kernel_rfl))); simp [*]; (repeat' (split; all_goals (rename_i hc; try simp [*])))) | ((with_reducible refine T.ret ?_); refine fin_pure ?_; simp [*]; try (change Hold _)) | (with_reducible refine T.block ?_) | ((with_reducible refine T.skip ?_); simp [*]) | ((with_reducible refine T.exit ?_); simp [*]) | ((with_reducible refine T.br fun K1 K2 hK1 hK2 => ?_); simp [*]; try ((refine Br.intro (fun hc => ?_) (fun hc => ?_)) <;> (try simp at hc))) | (with_reducible refine Cont.go (by assumption) _ ?_) | (with_reducible refine Cnt.go (by assumption) ?_))
      all_goals (unfold Hold at *; rw [hn]; try simp)
  · cases hr
/-! ### What stands for a variable -/
def stV (a b : Ex) (x : Int) : V := if a.k = 1 ∧ a.i = x then .tup [enc b, .bool (isT b)] else match stE a b x with
  | some t => .tup [enc t, .bool true]
  | none => .tup [enc ex0, .bool false]
def okSt (a b : Ex) : Prop := allX a = true ∧ rightE b = 0
noncomputable instance (a b : Ex) : Decidable (okSt a b) := Classical.propDecidable _
theorem right_kid {e : Ex} (h : rightE e = 0) (j : Nat) (hj : j < e.kids.length) : rightE e.kids[j] = 0 := by
  obtain ⟨h1, h2, h3⟩ := right_zero h
  rw [nodesN_eq] at h1
  have := cntE_kid (e := e) j hj
  have := depE_kid (e := e) j hj
  exact right_of (by rw [nodesN_eq]; omega) (by omega) (allX_kid h3 j hj)
@[simp] noncomputable def gStands : List V → Option V := f3 kE kE (kI .i64) fun a b x => if okSt a b then some (stV a b x) else none
theorem st_ok (a b : Ex) (x : Int) : ∃ t ok, stV a b x = .tup [enc t, .bool ok] ∧ (ok = true → stE a b x = some t) ∧ (ok = false → stE a b x = none) := by
  unfold stV
  by_cases c : a.k = 1 ∧ a.i = x
  · rw [if_pos c]
    refine ⟨b, isT b, rfl, fun h => ?_, fun h => ?_⟩
    · rw [stE_eq, if_pos c, if_pos h]
    · rw [stE_eq, if_pos c, if_neg (by simp [h])]
  · rw [if_neg c]
    cases h : stE a b x with
    | some t => exact ⟨t, true, rfl, (fun _ => rfl), (fun h => by cases h)⟩
    | none => exact ⟨ex0, false, rfl, (fun h => by cases h), fun _ => rfl⟩
theorem stL_drop (l m : List Ex) (x : Int) (j : Nat) (h1 : j < l.length) (h2 : j < m.length) : stL (l.drop j) (m.drop j) x = match stE l[j] m[j] x with | some t => some t | none => stL (l.drop (j + 1)) (m.drop (j + 1)) x := by
  rw [List.drop_eq_getElem_cons h1, List.drop_eq_getElem_cons h2, stL]; rfl
set_option maxHeartbeats 2000000 in
theorem ok_sStands : PureOk Tryz.prog 171 gStands := by
  refine rec3 fun a ih b x r hr => ?_
  split at hr
  · rename_i hm
    obtain ⟨ha, hrb⟩ := hm
    cases hr
    have hE := (((EnvOk.nil (P := Tryz.prog) (eq := fun _ => false) (own := fun _ => false) (mem := fun _ => false) EqOk.none).addf ok_IsTerm).addf ih)
    refine ⟨⟨Tryz.f171, Tryz.func171, by decide, rfl⟩, pure_of_T Tryz.func171 rfl (by simp [Tryz.ntmps171]) fun q => ?_⟩
    by_cases c1 : a.k = 1 ∧ a.i = x
    · obtain ⟨k1, i1⟩ := c1
      have hv : Hold (stV a b x = .tup [enc b, .bool (isT b)]) := by unfold Hold stV; rw [if_pos ⟨k1, i1⟩]
      repeat' (first | (with_reducible refine T.sq fun K hK => ?_) | ((first | ((with_reducible refine T.reg hE ?hd ?_); (case hd => kernel_rfl)) | ((with_reducible refine T.any hE mixed ?hd ?hok ?_); (case hd => kernel_rfl); (case hok => kernel_rfl))); simp [*]; (repeat' (split; all_goals (rename_i hc; try simp [*])))) | ((with_reducible refine T.ret ?_); refine fin_pure ?_; simp [*]; try (change Hold _)) | (with_reducible refine T.block ?_) | ((with_reducible refine T.skip ?_); simp [*]) | ((with_reducible refine T.exit ?_); simp [*]) | ((with_reducible refine T.br fun K1 K2 hK1 hK2 => ?_); simp [*]; try ((refine Br.intro (fun hc => ?_) (fun hc => ?_)) <;> (try simp at hc))) | (with_reducible refine Cont.go (by assumption) _ ?_) | (with_reducible refine Cnt.go (by assumption) ?_))
      all_goals (unfold Hold at *; rw [hv]; try simp)
    have hv0 : Hold (stV a b x = match stE a b x with | some t => .tup [enc t, .bool true] | none => .tup [enc ex0, .bool false]) := by unfold Hold stV; rw [if_neg c1]
    have hse := stE_eq a b x
    rw [if_neg c1] at hse
    by_cases c2 : ((a.k = 7 ∨ a.k = 10) ∧ a.i = x) ∨ ¬ a.k = b.k ∨ ¬ a.kids.length = b.kids.length
    · rw [if_pos c2] at hse
      have hv : Hold (stV a b x = .tup [enc ex0, .bool false]) := by unfold Hold at *; rw [hv0, hse]
      clear hv0 hse
      refine T.sq fun K0 hK0 => ?_
      refine T.reg hE rfl ?_
      simp
      refine hK0.go _ ?_
      clear hK0
      refine T.sq fun K1 hK1 => ?_
      obtain ⟨h1⟩ := hK1
      suffices j1 : ∀ σ : St, (σ.get 2 = .int .i64 x ∧ σ.get 3 = .ptr (0 :: 5 :: q) 0 ∧ σ.M (0 :: 5 :: q) = some (.cells (encC a)) ∧ σ.get 4 = .ptr (0 :: 6 :: q) 0 ∧ σ.M (0 :: 6 :: q) = some (.cells (encC b)) ∧ σ.get 6 = .ptr (0 :: 8 :: q) 0 ∧ (∃ c0 c1 c2, σ.M (0 :: 8 :: q) = some (.cells [c0, c1, c2]))) → K1 σ by
        clear h1 hv c2
        by_cases k1 : a.k = 1
        · have i1 : ¬ a.i = x := fun h => c1 ⟨k1, h⟩
          repeat' (first | (with_reducible refine T.sq fun K hK => ?_) | ((first | ((with_reducible refine T.reg hE ?hd ?_); (case hd => kernel_rfl)) | ((with_reducible refine T.any hE mixed ?hd ?hok ?_); (case hd => kernel_rfl); (case hok => kernel_rfl))); simp [*]; (repeat' (split; all_goals (rename_i hc; try simp [*])))) | ((with_reducible refine T.ret ?_); refine fin_pure ?_; simp [*]; try (change Hold _)) | (with_reducible refine T.block ?_) | ((with_reducible refine T.skip ?_); simp [*]) | ((with_reducible refine T.exit ?_); simp [*]) | ((with_reducible refine T.br fun K1 K2 hK1 hK2 => ?_); simp [*]; try ((refine Br.intro (fun hc => ?_) (fun hc => ?_)) <;> (try simp at hc))) | (with_reducible refine Cont.go (by assumption) _ ?_) | (with_reducible refine Cnt.go (by assumption) ?_))
          all_goals (refine j1 _ ⟨?_, ?_, ?_, ?_, ?_, ?_, ?_⟩ <;> simp [*, encC_eq])
        · repeat' (first | (with_reducible refine T.sq fun K hK => ?_) | ((first | ((with_reducible refine T.reg hE ?hd ?_); (case hd => kernel_rfl)) | ((with_reducible refine T.any hE mixed ?hd ?hok ?_); (case hd => kernel_rfl); (case hok => kernel_rfl))); simp [*]; (repeat' (split; all_goals (rename_i hc; try simp [*])))) | ((with_reducible refine T.ret ?_); refine fin_pure ?_; simp [*]; try (change Hold _)) | (with_reducible refine T.block ?_) | ((with_reducible refine T.skip ?_); simp [*]) | ((with_reducible refine T.exit ?_); simp [*]) | ((with_reducible refine T.br fun K1 K2 hK1 hK2 => ?_); simp [*]; try ((refine Br.intro (fun hc => ?_) (fun hc => ?_)) <;> (try simp at hc))) | (with_reducible refine Cont.go (by assumption) _ ?_) | (with_reducible refine Cnt.go (by assumption) ?_))
          all_goals (refine j1 _ ⟨?_, ?_, ?_, ?_, ?_, ?_, ?_⟩ <;> simp [*, encC_eq])
      rintro σ ⟨b2, b3, m3, b4, m4, b6, ⟨c0, c1', c2', m6⟩⟩
      refine h1 σ ?_
      clear h1
      rw [encC_eq] at m3 m4
      by_cases d : (a.k = 7 ∨ a.k = 10) ∧ a.i = x
      · obtain ⟨d1, d2⟩ := d
        clear c1 c2
        rcases d1 with d1 | d1
        all_goals (
          repeat' (first | (with_reducible refine T.sq fun K hK => ?_) | ((first | ((with_reducible refine T.reg hE ?hd ?_); (case hd => kernel_rfl)) | ((with_reducible refine T.any hE mixed ?hd ?hok ?_); (case hd => kernel_rfl); (case hok => kernel_rfl))); simp [*]; (repeat' (split; all_goals (rename_i hc; try simp [*])))) | ((with_reducible refine T.ret ?_); refine fin_pure ?_; simp [*]; try (change Hold _)) | (with_reducible refine T.block ?_) | ((with_reducible refine T.skip ?_); simp [*]) | ((with_reducible refine T.exit ?_); simp [*]) | ((with_reducible refine T.br fun K1 K2 hK1 hK2 => ?_); simp [*]; try ((refine Br.intro (fun hc => ?_) (fun hc => ?_)) <;> (try simp at hc))) | (with_reducible refine Cont.go (by assumption) _ ?_) | (with_reducible refine Cnt.go (by assumption) ?_))
          all_goals (unfold Hold at *; rw [hv]; try simp [ex0]))
      have c3 : ¬ a.k = b.k ∨ ¬ a.kids.length = b.kids.length := by rcases c2 with h | h; exact absurd h d; exact h
      clear c1 c2
      obtain ⟨B, hB⟩ : ∃ B : Prop, (a.k = b.k ↔ B) := ⟨_, Iff.rfl⟩
      obtain ⟨C, hC⟩ : ∃ C : Prop, ((a.kids.length : Int) = (b.kids.length : Int) ↔ C) := ⟨_, Iff.rfl⟩
      have c4 : ¬ B ∨ ¬ C := by rw [← hB, ← hC]; rcases c3 with h | h; exact .inl h; exact .inr (by omega)
      clear c3
      by_cases k7 : a.k = 7
      · have i1 : ¬ a.i = x := fun h => d ⟨.inl k7, h⟩
        rw [k7] at hB
        clear d
        by_cases hb : B
        · have hc : ¬ C := c4.resolve_left (by simpa using hb)
          clear c4
          repeat' (first | (with_reducible refine T.sq fun K hK => ?_) | ((first | ((with_reducible refine T.reg hE ?hd ?_); (case hd => kernel_rfl)) | ((with_reducible refine T.any hE mixed ?hd ?hok ?_); (case hd => kernel_rfl); (case hok => kernel_rfl))); simp [*]; (repeat' (split; all_goals (rename_i hc; try simp [*])))) | ((with_reducible refine T.ret ?_); refine fin_pure ?_; simp [*]; try (change Hold _)) | (with_reducible refine T.block ?_) | ((with_reducible refine T.skip ?_); simp [*]) | ((with_reducible refine T.exit ?_); simp [*]) | ((with_reducible refine T.br fun K1 K2 hK1 hK2 => ?_); simp [*]; try ((refine Br.intro (fun hc => ?_) (fun hc => ?_)) <;> (try simp at hc))) | (with_reducible refine Cont.go (by assumption) _ ?_) | (with_reducible refine Cnt.go (by assumption) ?_))
          all_goals (unfold Hold at *; rw [hv]; try simp [ex0])
        · clear c4
          repeat' (first | (with_reducible refine T.sq fun K hK => ?_) | ((first | ((with_reducible refine T.reg hE ?hd ?_); (case hd => kernel_rfl)) | ((with_reducible refine T.any hE mixed ?hd ?hok ?_); (case hd => kernel_rfl); (case hok => kernel_rfl))); simp [*]; (repeat' (split; all_goals (rename_i hc; try simp [*])))) | ((with_reducible refine T.ret ?_); refine fin_pure ?_; simp [*]; try (change Hold _)) | (with_reducible refine T.block ?_) | ((with_reducible refine T.skip ?_); simp [*]) | ((with_reducible refine T.exit ?_); simp [*]) | ((with_reducible refine T.br fun K1 K2 hK1 hK2 => ?_); simp [*]; try ((refine Br.intro (fun hc => ?_) (fun hc => ?_)) <;> (try simp at hc))) | (with_reducible refine Cont.go (by assumption) _ ?_) | (with_reducible refine Cnt.go (by assumption) ?_))
          all_goals (unfold Hold at *; rw [hv]; try simp [ex0])
      by_cases k10 : a.k = 10
      · have i1 : ¬ a.i = x := fun h => d ⟨.inr k10, h⟩
        rw [k10] at hB
        clear d
        by_cases hb : B
        · have hc : ¬ C := c4.resolve_left (by simpa using hb)
          clear c4
          repeat' (first | (with_reducible refine T.sq fun K hK => ?_) | ((first | ((with_reducible refine T.reg hE ?hd ?_); (case hd => kernel_rfl)) | ((with_reducible refine T.any hE mixed ?hd ?hok ?_); (case hd => kernel_rfl); (case hok => kernel_rfl))); simp [*]; (repeat' (split; all_goals (rename_i hc; try simp [*])))) | ((with_reducible refine T.ret ?_); refine fin_pure ?_; simp [*]; try (change Hold _)) | (with_reducible refine T.block ?_) | ((with_reducible refine T.skip ?_); simp [*]) | ((with_reducible refine T.exit ?_); simp [*]) | ((with_reducible refine T.br fun K1 K2 hK1 hK2 => ?_); simp [*]; try ((refine Br.intro (fun hc => ?_) (fun hc => ?_)) <;> (try simp at hc))) | (with_reducible refine Cont.go (by assumption) _ ?_) | (with_reducible refine Cnt.go (by assumption) ?_))
          all_goals (unfold Hold at *; rw [hv]; try simp [ex0])
        · clear c4
          repeat' (first | (with_reducible refine T.sq fun K hK => ?_) | ((first | ((with_reducible refine T.reg hE ?hd ?_); (case hd => kernel_rfl)) | ((with_reducible refine T.any hE mixed ?hd ?hok ?_); (case hd => kernel_rfl); (case hok => kernel_rfl))); simp [*]; (repeat' (split; all_goals (rename_i hc; try simp [*])))) | ((with_reducible refine T.ret ?_); refine fin_pure ?_; simp [*]; try (change Hold _)) | (with_reducible refine T.block ?_) | ((with_reducible refine T.skip ?_); simp [*]) | ((with_reducible refine T.exit ?_); simp [*]) | ((with_reducible refine T.br fun K1 K2 hK1 hK2 => ?_); simp [*]; try ((refine Br.intro (fun hc => ?_) (fun hc => ?_)) <;> (try simp at hc))) | (with_reducible refine Cont.go (by assumption) _ ?_) | (with_reducible refine Cnt.go (by assumption) ?_))
          all_goals (unfold Hold at *; rw [hv]; try simp [ex0])
      · clear d
        by_cases hb : B
        · have hc : ¬ C := c4.resolve_left (by simpa using hb)
          clear c4
          repeat' (first | (with_reducible refine T.sq fun K hK => ?_) | ((first | ((with_reducible refine T.reg hE ?hd ?_); (case hd => kernel_rfl)) | ((with_reducible refine T.any hE mixed ?hd ?hok ?_); (case hd => kernel_rfl); (case hok => kernel_rfl))); simp [*]; (repeat' (split; all_goals (rename_i hc; try simp [*])))) | ((with_reducible refine T.ret ?_); refine fin_pure ?_; simp [*]; try (change Hold _)) | (with_reducible refine T.block ?_) | ((with_reducible refine T.skip ?_); simp [*]) | ((with_reducible refine T.exit ?_); simp [*]) | ((with_reducible refine T.br fun K1 K2 hK1 hK2 => ?_); simp [*]; try ((refine Br.intro (fun hc => ?_) (fun hc => ?_)) <;> (try simp at hc))) | (with_reducible refine Cont.go (by assumption) _ ?_) | (with_reducible refine Cnt.go (by assumption) ?_))
          all_goals (unfold Hold at *; rw [hv]; try simp [ex0])
        · clear c4
          repeat' (first | (with_reducible refine T.sq fun K hK => ?_) | ((first | ((with_reducible refine T.reg hE ?hd ?_); (case hd => kernel_rfl)) | ((with_reducible refine T.any hE mixed ?hd ?hok ?_); (case hd => kernel_rfl); (case hok => kernel_rfl))); simp [*]; (repeat' (split; all_goals (rename_i hc; try simp [*])))) | ((with_reducible refine T.ret ?_); refine fin_pure ?_; simp [*]; try (change Hold _)) | (with_reducible refine T.block ?_) | ((with_reducible refine T.skip ?_); simp [*]) | ((with_reducible refine T.exit ?_); simp [*]) | ((with_reducible refine T.br fun K1 K2 hK1 hK2 => ?_); simp [*]; try ((refine Br.intro (fun hc => ?_) (fun hc => ?_)) <;> (try simp at hc))) | (with_reducible refine Cont.go (by assumption) _ ?_) | (with_reducible refine Cnt.go (by assumption) ?_))
          all_goals (unfold Hold at *; rw [hv]; try simp [ex0])
    rw [if_neg c2] at hse
    have hv1 : Hold (stV a b x = match stL a.kids b.kids x with | some t => .tup [enc t, .bool true] | none => .tup [enc ex0, .bool false]) := by unfold Hold at *; rw [hv0, hse]
    have hk4 := kids_four ha
    have e1 : b.k = a.k := by
      by_cases h : a.k = b.k
      · exact h.symm
      · exact absurd (.inr (.inl h)) c2
    have e2 : b.kids.length = a.kids.length := by
      by_cases h : a.kids.length = b.kids.length
      · exact h.symm
      · exact absurd (.inr (.inr h)) c2
    have c5 : ¬ ((a.k = 7 ∨ a.k = 10) ∧ a.i = x) := fun h => c2 (.inl h)
    clear c2 hv0 hse
    refine T.sq fun K0 hK0 => ?_
    refine T.reg hE rfl ?_
    simp
    refine hK0.go _ ?_
    clear hK0
    refine T.sq fun K1 hK1 => ?_
    obtain ⟨h1⟩ := hK1
    suffices j1 : ∀ σ : St, (σ.get 2 = .int .i64 x ∧ σ.get 3 = .ptr (0 :: 5 :: q) 0 ∧ σ.M (0 :: 5 :: q) = some (.cells (encC a)) ∧ σ.get 4 = .ptr (0 :: 6 :: q) 0 ∧ σ.M (0 :: 6 :: q) = some (.cells (encC b)) ∧ σ.get 6 = .ptr (0 :: 8 :: q) 0 ∧ (∃ c0 c1 c2, σ.M (0 :: 8 :: q) = some (.cells [c0, c1, c2]))) → K1 σ by
      clear h1 c5
      by_cases k1 : a.k = 1
      · have i1 : ¬ a.i = x := fun h => c1 ⟨k1, h⟩
        repeat' (first | (with_reducible refine T.sq fun K hK => ?_) | ((first | ((with_reducible refine T.reg hE ?hd ?_); (case hd => kernel_rfl)) | ((with_reducible refine T.any hE mixed ?hd ?hok ?_); (case hd => kernel_rfl); (case hok => kernel_rfl))); simp [*]; (repeat' (split; all_goals (rename_i hc; try simp [*])))) | ((with_reducible refine T.ret ?_); refine fin_pure ?_; simp [*]; try (change Hold _)) | (with_reducible refine T.block ?_) | ((with_reducible refine T.skip ?_); simp [*]) | ((with_reducible refine T.exit ?_); simp [*]) | ((with_reducible refine T.br fun K1 K2 hK1 hK2 => ?_); simp [*]; try ((refine Br.intro (fun hc => ?_) (fun hc => ?_)) <;> (try simp at hc))) | (with_reducible refine Cont.go (by assumption) _ ?_) | (with_reducible refine Cnt.go (by assumption) ?_))
        all_goals (refine j1 _ ⟨?_, ?_, ?_, ?_, ?_, ?_, ?_⟩ <;> simp [*, encC_eq])
      · repeat' (first | (with_reducible refine T.sq fun K hK => ?_) | ((first | ((with_reducible refine T.reg hE ?hd ?_); (case hd => kernel_rfl)) | ((with_reducible refine T.any hE mixed ?hd ?hok ?_); (case hd => kernel_rfl); (case hok => kernel_rfl))); simp [*]; (repeat' (split; all_goals (rename_i hc; try simp [*])))) | ((with_reducible refine T.ret ?_); refine fin_pure ?_; simp [*]; try (change Hold _)) | (with_reducible refine T.block ?_) | ((with_reducible refine T.skip ?_); simp [*]) | ((with_reducible refine T.exit ?_); simp [*]) | ((with_reducible refine T.br fun K1 K2 hK1 hK2 => ?_); simp [*]; try ((refine Br.intro (fun hc => ?_) (fun hc => ?_)) <;> (try simp at hc))) | (with_reducible refine Cont.go (by assumption) _ ?_) | (with_reducible refine Cnt.go (by assumption) ?_))
        all_goals (refine j1 _ ⟨?_, ?_, ?_, ?_, ?_, ?_, ?_⟩ <;> simp [*, encC_eq])
    rintro σ ⟨b2, b3, m3, b4, m4, b6, ⟨c0, c1', c2', m6⟩⟩
    refine h1 σ ?_
    clear h1
    rw [encC_eq] at m3 m4
    refine T.sq fun K2 hK2 => ?_
    obtain ⟨h2⟩ := hK2
    suffices j2 : ∀ σ : St, (σ.get 2 = .int .i64 x ∧ σ.get 3 = .ptr (0 :: 5 :: q) 0 ∧ σ.M (0 :: 5 :: q) = some (.cells (encC a)) ∧ σ.get 4 = .ptr (0 :: 6 :: q) 0 ∧ σ.M (0 :: 6 :: q) = some (.cells (encC b)) ∧ σ.get 6 = .ptr (0 :: 8 :: q) 0 ∧ (∃ c0 c1 c2, σ.M (0 :: 8 :: q) = some (.cells [c0, c1, c2]))) → K2 σ by
      clear h2 c1
      by_cases k7 : a.k = 7
      · have i1 : ¬ a.i = x := fun h => c5 ⟨.inl k7, h⟩
        rw [k7] at e1
        clear c5
        repeat' (first | (with_reducible refine T.sq fun K hK => ?_) | ((first | ((with_reducible refine T.reg hE ?hd ?_); (case hd => kernel_rfl)) | ((with_reducible refine T.any hE mixed ?hd ?hok ?_); (case hd => kernel_rfl); (case hok => kernel_rfl))); simp [*]; (repeat' (split; all_goals (rename_i hc; try simp [*])))) | ((with_reducible refine T.ret ?_); refine fin_pure ?_; simp [*]; try (change Hold _)) | (with_reducible refine T.block ?_) | ((with_reducible refine T.skip ?_); simp [*]) | ((with_reducible refine T.exit ?_); simp [*]) | ((with_reducible refine T.br fun K1 K2 hK1 hK2 => ?_); simp [*]; try ((refine Br.intro (fun hc => ?_) (fun hc => ?_)) <;> (try simp at hc))) | (with_reducible refine Cont.go (by assumption) _ ?_) | (with_reducible refine Cnt.go (by assumption) ?_))
        all_goals (refine j2 _ ⟨?_, ?_, ?_, ?_, ?_, ?_, ?_⟩ <;> simp [*, encC_eq])
      by_cases k10 : a.k = 10
      · have i1 : ¬ a.i = x := fun h => c5 ⟨.inr k10, h⟩
        rw [k10] at e1
        clear c5
        repeat' (first | (with_reducible refine T.sq fun K hK => ?_) | ((first | ((with_reducible refine T.reg hE ?hd ?_); (case hd => kernel_rfl)) | ((with_reducible refine T.any hE mixed ?hd ?hok ?_); (case hd => kernel_rfl); (case hok => kernel_rfl))); simp [*]; (repeat' (split; all_goals (rename_i hc; try simp [*])))) | ((with_reducible refine T.ret ?_); refine fin_pure ?_; simp [*]; try (change Hold _)) | (with_reducible refine T.block ?_) | ((with_reducible refine T.skip ?_); simp [*]) | ((with_reducible refine T.exit ?_); simp [*]) | ((with_reducible refine T.br fun K1 K2 hK1 hK2 => ?_); simp [*]; try ((refine Br.intro (fun hc => ?_) (fun hc => ?_)) <;> (try simp at hc))) | (with_reducible refine Cont.go (by assumption) _ ?_) | (with_reducible refine Cnt.go (by assumption) ?_))
        all_goals (refine j2 _ ⟨?_, ?_, ?_, ?_, ?_, ?_, ?_⟩ <;> simp [*, encC_eq])
      · clear c5
        repeat' (first | (with_reducible refine T.sq fun K hK => ?_) | ((first | ((with_reducible refine T.reg hE ?hd ?_); (case hd => kernel_rfl)) | ((with_reducible refine T.any hE mixed ?hd ?hok ?_); (case hd => kernel_rfl); (case hok => kernel_rfl))); simp [*]; (repeat' (split; all_goals (rename_i hc; try simp [*])))) | ((with_reducible refine T.ret ?_); refine fin_pure ?_; simp [*]; try (change Hold _)) | (with_reducible refine T.block ?_) | ((with_reducible refine T.skip ?_); simp [*]) | ((with_reducible refine T.exit ?_); simp [*]) | ((with_reducible refine T.br fun K1 K2 hK1 hK2 => ?_); simp [*]; try ((refine Br.intro (fun hc => ?_) (fun hc => ?_)) <;> (try simp at hc))) | (with_reducible refine Cont.go (by assumption) _ ?_) | (with_reducible refine Cnt.go (by assumption) ?_))
        all_goals (refine j2 _ ⟨?_, ?_, ?_, ?_, ?_, ?_, ?_⟩ <;> simp [*, encC_eq])
    clear b2 b3 m3 b4 m4 b6 m6 c1 c5
    rintro σ ⟨b2, b3, m3, b4, m4, b6, ⟨c0, c1', c2', m6⟩⟩
    refine h2 σ ?_
    clear h2
    rw [encC_eq] at m3 m4
    repeat' (first | (with_reducible refine T.sq fun K hK => ?_) | ((first | ((with_reducible refine T.reg hE ?hd ?_); (case hd => kernel_rfl)) | ((with_reducible refine T.any hE mixed ?hd ?hok ?_); (case hd => kernel_rfl); (case hok => kernel_rfl))); simp [*]; (repeat' (split; all_goals (rename_i hc; try simp [*])))) | ((with_reducible refine T.ret ?_); refine fin_pure ?_; simp [*]; try (change Hold _)) | (with_reducible refine T.block ?_) | ((with_reducible refine T.skip ?_); simp [*]) | ((with_reducible refine T.exit ?_); simp [*]) | ((with_reducible refine T.br fun K1 K2 hK1 hK2 => ?_); simp [*]; try ((refine Br.intro (fun hc => ?_) (fun hc => ?_)) <;> (try simp at hc))) | (with_reducible refine Cont.go (by assumption) _ ?_) | (with_reducible refine Cnt.go (by assumption) ?_))
    refine T.loop (fun n σ => ∃ (j : Nat), n = a.kids.length - j ∧ σ.get 2 = .int .i64 x ∧ σ.get 3 = .ptr (0 :: 5 :: q) 0 ∧ σ.M (0 :: 5 :: q) = some (.cells (encC a)) ∧ σ.get 4 = .ptr (0 :: 6 :: q) 0 ∧ σ.M (0 :: 6 :: q) = some (.cells (encC b)) ∧ σ.get 6 = .ptr (0 :: 8 :: q) 0 ∧ (∃ c0 c1 c2, σ.M (0 :: 8 :: q) = some (.cells [c0, c1, c2])) ∧ σ.get 56 = .int .i64 a.kids.length ∧ σ.get 57 = .int .i64 j ∧ j ≤ a.kids.length ∧ Hold (stL a.kids b.kids x = stL (a.kids.drop j) (b.kids.drop j) x)) a.kids.length ⟨0, by simp, by simp [*], by simp [*], by simp [*, encC_eq], by simp [*], by simp [*, encC_eq], by simp [*], ⟨c0, c1', c2', by simp [*]⟩, by simp [*], by simp [*], by omega, rfl⟩ ?_
    clear b2 b3 m3 b4 m4 b6 m6
    rintro n σ ⟨j, rfl, b2, b3, m3, b4, m4, b6, ⟨c0, c1', c2', m6⟩, b7, b8, b9, g9⟩
    rw [encC_eq] at m3 m4
    by_cases hj : j < a.kids.length
    · have hjb : j < b.kids.length := by omega
      have hji : (j : Int) < (a.kids.length : Int) := by omega
      have hw : IntKind.i64.wrap ((j : Int) + 1) = (j : Int) + 1 := wrap64 (by omega) (by omega)
      have hs2 := ex_kid_lt a j hj
      have hok : okSt a.kids[j] b.kids[j] := ⟨allX_kid ha j hj, right_kid hrb j hjb⟩
      have hd := stL_drop a.kids b.kids x j hj hjb
      obtain ⟨t, ok, ht1, ht2, ht3⟩ := st_ok a.kids[j] b.kids[j] x
      cases ok with
      | true =>
        rw [ht2 rfl] at hd
        have hv : Hold (stV a b x = .tup [enc t, .bool true]) := by unfold Hold at *; rw [hv1, g9, hd]
        clear hd ht2 ht3 hv1 g9
        repeat' (first | (with_reducible refine T.sq fun K hK => ?_) | ((first | ((with_reducible refine T.reg hE ?hd ?_); (case hd => kernel_rfl)) | ((with_reducible refine T.any hE mixed ?hd ?hok ?_); (case hd => kernel_rfl); (case hok => kernel_rfl))); simp [*]; (repeat' (split; all_goals (rename_i hc; try simp [*])))) | ((with_reducible refine T.ret ?_); refine fin_pure ?_; simp [*]; try (change Hold _)) | (with_reducible refine T.block ?_) | ((with_reducible refine T.skip ?_); simp [*]) | ((with_reducible refine T.exit ?_); simp [*]) | ((with_reducible refine T.br fun K1 K2 hK1 hK2 => ?_); simp [*]; try ((refine Br.intro (fun hc => ?_) (fun hc => ?_)) <;> (try simp at hc))) | (with_reducible refine Cont.go (by assumption) _ ?_) | (with_reducible refine Cnt.go (by assumption) ?_))
        all_goals (unfold Hold at *; rw [hv]; try simp)
      | false =>
        rw [ht3 rfl] at hd
        have hn : Hold (stL a.kids b.kids x = stL (a.kids.drop (j + 1)) (b.kids.drop (j + 1)) x) := by unfold Hold at *; rw [g9, hd]
        clear hd ht2 ht3 g9
        repeat' (first | (with_reducible refine T.sq fun K hK => ?_) | ((first | ((with_reducible refine T.reg hE ?hd ?_); (case hd => kernel_rfl)) | ((with_reducible refine T.any hE mixed ?hd ?hok ?_); (case hd => kernel_rfl); (case hok => kernel_rfl))); simp [*]; (repeat' (split; all_goals (rename_i hc; try simp [*])))) | ((with_reducible refine T.ret ?_); refine fin_pure ?_; simp [*]; try (change Hold _)) | (with_reducible refine T.block ?_) | ((with_reducible refine T.skip ?_); simp [*]) | ((with_reducible refine T.exit ?_); simp [*]) | ((with_reducible refine T.br fun K1 K2 hK1 hK2 => ?_); simp [*]; try ((refine Br.intro (fun hc => ?_) (fun hc => ?_)) <;> (try simp at hc))) | (with_reducible refine Cont.go (by assumption) _ ?_) | (with_reducible refine Cnt.go (by assumption) ?_))
        exact ⟨_, by omega, j + 1, rfl, by simp [encC_eq], by simp [encC_eq, e1], by omega, by omega, hn⟩
    · have w8 : j = a.kids.length := by omega
      have hv : Hold (stV a b x = .tup [enc ex0, .bool false]) := by
        unfold Hold at *
        rw [hv1, g9, w8, List.drop_length]
        cases b.kids.drop a.kids.length <;> simp [stL]
      clear hv1 g9
      repeat' (first | (with_reducible refine T.sq fun K hK => ?_) | ((first | ((with_reducible refine T.reg hE ?hd ?_); (case hd => kernel_rfl)) | ((with_reducible refine T.any hE mixed ?hd ?hok ?_); (case hd => kernel_rfl); (case hok => kernel_rfl))); simp [*]; (repeat' (split; all_goals (rename_i hc; try simp [*])))) | ((with_reducible refine T.ret ?_); refine fin_pure ?_; simp [*]; try (change Hold _)) | (with_reducible refine T.block ?_) | ((with_reducible refine T.skip ?_); simp [*]) | ((with_reducible refine T.exit ?_); simp [*]) | ((with_reducible refine T.br fun K1 K2 hK1 hK2 => ?_); simp [*]; try ((refine Br.intro (fun hc => ?_) (fun hc => ?_)) <;> (try simp at hc))) | (with_reducible refine Cont.go (by assumption) _ ?_) | (with_reducible refine Cnt.go (by assumption) ?_))
      all_goals (unfold Hold at *; rw [hv]; try simp [ex0])
  · cases hr
end Go.Proofs.YtibfdebhbibfpaaGreat.Ax
