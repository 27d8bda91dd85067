/- Contracts: whether a formula holds, by the reference. -/
import Derived.Test.YtaacfmakfkaddaaDxT
import Derived.Test.YtaacfmakfkaddaaPlN
import Derived.Test.YtaacfmakfkaddaaBxZ
import Derived.Test.YtaacfmakfkaddaaDxC
set_option linter.unusedVariables false
set_option linter.unusedSimpArgs false
namespace Go.Proofs.Ytaacfmakfkaddaa.Ax
open Go Go.Proofs

theorem envL_id {env : List Int} (h : env.length = 64) : envL env = env := by
  apply List.ext_getElem
  · rw [envL_len, h]
  · intro i h1 h2
    rw [envL_get env i (by omega), List.getD_eq_getElem?_getD, List.getElem?_eq_getElem h2]; rfl
@[simp] def gWithV : List V → Option V := f3 (kIs .i64) (kI .i64) (kI .i64) fun env x v => if env.length = 64 ∧ 0 ≤ x ∧ x ≤ 63 then some (.sl (encI .i64 (env.set x.toNat v)) .no) else none
set_option maxHeartbeats 1000000 in
theorem ok_rWith64 : PureOk Try.prog 52 gWithV := by
  intro args r h
  obtain ⟨env, x, v, rfl, hr⟩ := f3_inv h; clear h
  split at hr
  · rename_i hm
    obtain ⟨h64, hx0, hx1⟩ := hm
    cases hr
    obtain ⟨m, rfl⟩ := Int.eq_ofNat_of_zero_le hx0
    have hE := ((EnvOk.nil (P := Try.prog) (eq := fun _ => false) (own := fun _ => false) (mem := fun f => f == 15) EqOk.none).addm ok_rEnvG)
    refine ⟨⟨Try.f52, Try.func52, by decide, rfl⟩, pure_of_T Try.func52 rfl (by simp [Try.ntmps52]) fun q => ?_⟩
    have hid := envL_id h64
    have hm64 : (m : Int) < 64 := by omega
    have hmn : m < 64 := by omega
    have hset := encA_set env m v (by omega)
    have hm1 : m + 1 ≤ 64 := by omega
    have hch : chunk 1 (encA (env.set m v)) 64 = encI .i64 (env.set m v) := chunk_ints .i64 _ (by simp [h64])
    refine T.sq fun K hK => ?_
    obtain ⟨hgo⟩ := hK
    repeat' (first | (with_reducible refine T.sq fun K hK => ?_) | ((first | ((with_reducible refine T.reg hE ?hd ?_); (case hd => kernel_rfl)) | ((with_reducible refine T.any hE mixed ?hd ?hok ?_); (case hd => kernel_rfl); (case hok => kernel_rfl))); simp [*]; (repeat' (split; all_goals (rename_i hc; try simp [*])))) | (with_reducible refine T.block ?_) | ((with_reducible refine T.skip ?_); simp [*]) | ((with_reducible refine T.exit ?_); simp [*]) | ((with_reducible refine T.br fun K1 K2 hK1 hK2 => ?_); simp [*]; try ((refine Br.intro (fun hc => ?_) (fun hc => ?_)) <;> (try simp at hc))) | (with_reducible refine Cont.go (by assumption) _ ?_) | (with_reducible refine Cnt.go (by assumption) ?_))
    refine hgo _ ?_
    clear hgo
    refine T.sq fun K hK => ?_
    obtain ⟨hgo⟩ := hK
    repeat' (first | (with_reducible refine T.sq fun K hK => ?_) | ((first | ((with_reducible refine T.reg hE ?hd ?_); (case hd => kernel_rfl)) | ((with_reducible refine T.any hE mixed ?hd ?hok ?_); (case hd => kernel_rfl); (case hok => kernel_rfl))); simp [*]; (repeat' (split; all_goals (rename_i hc; try simp [*])))) | (with_reducible refine T.block ?_) | ((with_reducible refine T.skip ?_); simp [*]) | ((with_reducible refine T.exit ?_); simp [*]) | ((with_reducible refine T.br fun K1 K2 hK1 hK2 => ?_); simp [*]; try ((refine Br.intro (fun hc => ?_) (fun hc => ?_)) <;> (try simp at hc))) | (with_reducible refine Cont.go (by assumption) _ ?_) | (with_reducible refine Cnt.go (by assumption) ?_))
    refine hgo _ ?_
    clear hgo
    refine T.sq fun K hK => ?_
    obtain ⟨hgo⟩ := hK
    repeat' (first | (with_reducible refine T.sq fun K hK => ?_) | ((first | ((with_reducible refine T.reg hE ?hd ?_); (case hd => kernel_rfl)) | ((with_reducible refine T.any hE mixed ?hd ?hok ?_); (case hd => kernel_rfl); (case hok => kernel_rfl))); simp [*]; (repeat' (split; all_goals (rename_i hc; try simp [*])))) | (with_reducible refine T.block ?_) | ((with_reducible refine T.skip ?_); simp [*]) | ((with_reducible refine T.exit ?_); simp [*]) | ((with_reducible refine T.br fun K1 K2 hK1 hK2 => ?_); simp [*]; try ((refine Br.intro (fun hc => ?_) (fun hc => ?_)) <;> (try simp at hc))) | (with_reducible refine Cont.go (by assumption) _ ?_) | (with_reducible refine Cnt.go (by assumption) ?_))
    refine hgo _ ?_
    clear hgo
    refine T.frzG 7 (by decide) ?_
    simp [Ax.frzG, h64, *]
    repeat' (first | (with_reducible refine T.sq fun K hK => ?_) | ((first | ((with_reducible refine T.reg hE ?hd ?_); (case hd => kernel_rfl)) | ((with_reducible refine T.any hE mixed ?hd ?hok ?_); (case hd => kernel_rfl); (case hok => kernel_rfl))); simp [*]; (repeat' (split; all_goals (rename_i hc; try simp [*])))) | ((with_reducible refine T.ret ?_); refine fin_pure ?_; simp [*]; try (change Hold _)) | (with_reducible refine T.block ?_) | ((with_reducible refine T.skip ?_); simp [*]) | ((with_reducible refine T.exit ?_); simp [*]) | ((with_reducible refine T.br fun K1 K2 hK1 hK2 => ?_); simp [*]; try ((refine Br.intro (fun hc => ?_) (fun hc => ?_)) <;> (try simp at hc))) | (with_reducible refine Cont.go (by assumption) _ ?_) | (with_reducible refine Cnt.go (by assumption) ?_))
  · cases hr

@[simp] def gSizes : List V → Option V := f1 kL fun l => if cntL l ≤ 1000 then some (.int .i64 (cntL l : Nat)) else none
set_option maxHeartbeats 1000000 in
theorem ok_rSizes : PureOk Try.prog 50 gSizes := by
  intro args r h
  obtain ⟨l, rfl, hr⟩ := f1_inv h; clear h
  split at hr
  · rename_i hm
    cases hr
    have hE := ((EnvOk.nil (P := Try.prog) (eq := fun _ => false) (own := fun _ => false) (mem := fun _ => false) EqOk.none).addf ok_rSize)
    refine ⟨⟨Try.f50, Try.func50, by decide, rfl⟩, pure_of_T Try.func50 rfl (by simp [Try.ntmps50]) fun q => ?_⟩
    repeat' (first | (with_reducible refine T.sq fun K hK => ?_) | ((first | ((with_reducible refine T.reg hE ?hd ?_); (case hd => kernel_rfl)) | ((with_reducible refine T.any hE mixed ?hd ?hok ?_); (case hd => kernel_rfl); (case hok => kernel_rfl))); simp [*]; (repeat' (split; all_goals (rename_i hc; try simp [*])))) | ((with_reducible refine T.ret ?_); refine fin_pure ?_; simp [*]; try (change Hold _)) | (with_reducible refine T.block ?_) | ((with_reducible refine T.skip ?_); simp [*]) | ((with_reducible refine T.exit ?_); simp [*]) | ((with_reducible refine T.br fun K1 K2 hK1 hK2 => ?_); simp [*]; try ((refine Br.intro (fun hc => ?_) (fun hc => ?_)) <;> (try simp at hc))) | (with_reducible refine Cont.go (by assumption) _ ?_) | (with_reducible refine Cnt.go (by assumption) ?_))
    refine T.len (t := 0) (els := encL l) (tk := .no) (by simp [*]) fun hlen => ?_
    rw [encL_length] at hlen
    refine T.loop (fun n σ => ∃ j : Nat, n = l.length - j ∧ σ.get 6 = .sl (encL l) .no ∧ σ.get 7 = .int .i64 l.length ∧ σ.get 8 = .int .i64 j ∧ σ.get 3 = .int .i64 (cntL (l.take j) : Nat) ∧ j ≤ l.length) l.length ⟨0, by simp [*, cntL]⟩ ?_
    rintro n σ ⟨j, rfl, g0, g1, g2, g3, g4⟩
    by_cases hj : j < l.length
    · have hw : IntKind.i64.wrap ((j : Int) + 1) = (j : Int) + 1 := wrap_succ hlen hj
      have ht := cntL_take l j hj
      have hle := cntL_le l (j + 1)
      have hmin : min (nodesN l[j]) 1001 = cntE l[j] := by rw [nodesN_eq]; omega
      have hw2 : IntKind.i64.wrap ((cntL (l.take j) : Int) + (cntE l[j] : Int)) = (cntL (l.take (j + 1)) : Nat) := by rw [wrap64 (by omega) (by omega), ht]; omega
      clear ht
      repeat' (first | (with_reducible refine T.sq fun K hK => ?_) | ((first | ((with_reducible refine T.reg hE ?hd ?_); (case hd => kernel_rfl)) | ((with_reducible refine T.any hE mixed ?hd ?hok ?_); (case hd => kernel_rfl); (case hok => kernel_rfl))); simp [*]; (repeat' (split; all_goals (rename_i hc; try simp [*])))) | ((with_reducible refine T.ret ?_); refine fin_pure ?_; simp [*]; try (change Hold _)) | (with_reducible refine T.block ?_) | ((with_reducible refine T.skip ?_); simp [*]) | ((with_reducible refine T.exit ?_); simp [*]) | ((with_reducible refine T.br fun K1 K2 hK1 hK2 => ?_); simp [*]; try ((refine Br.intro (fun hc => ?_) (fun hc => ?_)) <;> (try simp at hc))) | (with_reducible refine Cont.go (by assumption) _ ?_) | (with_reducible refine Cnt.go (by assumption) ?_))
      exact ⟨l.length - (j + 1), by omega, j + 1, rfl, by omega, rfl, by omega⟩
    · have w8 : j = l.length := by omega
      have htk : l.take j = l := by rw [w8, List.take_length]
      rw [htk] at g3
      clear htk
      repeat' (first | (with_reducible refine T.sq fun K hK => ?_) | ((first | ((with_reducible refine T.reg hE ?hd ?_); (case hd => kernel_rfl)) | ((with_reducible refine T.any hE mixed ?hd ?hok ?_); (case hd => kernel_rfl); (case hok => kernel_rfl))); simp [*]; (repeat' (split; all_goals (rename_i hc; try simp [*])))) | ((with_reducible refine T.ret ?_); refine fin_pure ?_; simp [*]; try (change Hold _)) | (with_reducible refine T.block ?_) | ((with_reducible refine T.skip ?_); simp [*]) | ((with_reducible refine T.exit ?_); simp [*]) | ((with_reducible refine T.br fun K1 K2 hK1 hK2 => ?_); simp [*]; try ((refine Br.intro (fun hc => ?_) (fun hc => ?_)) <;> (try simp at hc))) | (with_reducible refine Cont.go (by assumption) _ ?_) | (with_reducible refine Cnt.go (by assumption) ?_))
  · cases hr
/-- What is told. -/
def told (x : Bool × Int) : V := .agg [.bool x.1, .int .i64 x.2]
def okAt (w : Wo) (e : Ex) (env : List Int) : Prop := envR w env ∧ allX e = true ∧ (e.k = 3 ∨ e.k = 4) ∧ cntE e ≤ 1000
noncomputable instance (w : Wo) (e : Ex) (env : List Int) : Decidable (okAt w e env) := Classical.propDecidable _
@[simp] noncomputable def gAtom : List V → Option V := f3 (kRw rWo) kE (kIs .i64) fun w e env => if okAt w e env then some (.agg [.bool (atB w e.k e.i (ofL w env e.kids)), .int .i64 (1 + (cntL e.kids : Int))]) else none
theorem ok_argsQ {w : Wo} {env : List Int} (h : envR w env) {e : Ex} (hx : allX e = true) : okLook w.preds w.size (ofL w env e.kids) :=
  ⟨(world_of h.1).1, ⟨_, (world_of h.1).2.2⟩, by rw [ofL_len]; exact kids_four hx, fun a ha => by
    rw [ofL_map] at ha
    obtain ⟨e, _, rfl⟩ := List.mem_map.1 ha
    exact of_range h e⟩
theorem cntE_kids (e : Ex) : cntE e = cntL e.kids + 1 := by cases e; rw [cntE]; first | rfl | (simp; omega)
set_option maxHeartbeats 2000000 in
theorem ok_rAtom : PureOk Try.prog 32 gAtom := by
  intro args r h
  obtain ⟨w, e, env, rfl, hr⟩ := f3_inv h; clear h
  split at hr
  · rename_i hm
    obtain ⟨hen, hx, hk, hc⟩ := hm
    cases hr
    have hE := ((((EnvOk.nil (P := Try.prog) (eq := fun _ => false) (own := fun _ => false) (mem := fun _ => false) EqOk.none).addf ok_rLook).addf ok_rOf).addf ok_rSizes)
    refine ⟨⟨Try.f32, Try.func32, by decide, rfl⟩, pure_of_T Try.func32 rfl (by simp [Try.ntmps32]) fun q => ?_⟩
    have hk4 := kids_four hx
    have hoa := ok_argsQ hen hx
    have hokk : ∀ (j : Nat) (hj : j < e.kids.length), okOfx w e.kids[j] env := fun j hj => ⟨hen, allX_kid hx j hj⟩
    have hr0 : List.range 0 = [] := rfl
    have hr1 : List.range 1 = [0] := rfl
    have hcl : cntL e.kids ≤ 1000 := by rw [cntE_kids] at hc; omega
    have hwc : IntKind.i64.wrap (1 + (cntL e.kids : Int)) = 1 + (cntL e.kids : Int) := wrap64 (by omega) (by omega)
    have heq : e.k = 4 → ∃ a b, e.kids = [a, b] := fun h => by
      rw [allX_eq, Bool.and_eq_true] at hx
      have h1 := hx.1
      unfold shapedX kidsAre at h1
      rw [Bool.and_eq_true] at h1
      have h2 := h1.2
      rw [h] at h2
      simp at h2
      match hl : e.kids, h2 with
      | [a, b], _ => exact ⟨a, b, rfl⟩
      | [], h2 => simp at h2
      | [_], h2 => simp at h2
      | _ :: _ :: _ :: _, h2 => simp at h2; omega
    clear hc
    repeat' (first | (with_reducible refine T.sq fun K hK => ?_) | ((first | ((with_reducible refine T.reg hE ?hd ?_); (case hd => kernel_rfl)) | ((with_reducible refine T.any hE mixed ?hd ?hok ?_); (case hd => kernel_rfl); (case hok => kernel_rfl))); simp [*]; (repeat' (split; all_goals (rename_i hc; try simp [*])))) | ((with_reducible refine T.ret ?_); refine fin_pure ?_; simp [*]; try (change Hold _)) | (with_reducible refine T.block ?_) | ((with_reducible refine T.skip ?_); simp [*]) | ((with_reducible refine T.exit ?_); simp [*]) | ((with_reducible refine T.br fun K1 K2 hK1 hK2 => ?_); simp [*]; try ((refine Br.intro (fun hc => ?_) (fun hc => ?_)) <;> (try simp at hc))) | (with_reducible refine Cont.go (by assumption) _ ?_) | (with_reducible refine Cnt.go (by assumption) ?_))
    refine T.loop (fun n σ => ∃ (j : Nat) (v : V), n = e.kids.length - j ∧ σ.get 2 = .sl (encI .i64 env) .no ∧ σ.get 3 = .ptr (0 :: 5 :: q) 0 ∧ σ.get 4 = .ptr (0 :: 6 :: q) 0 ∧ σ.get 6 = .ptr (0 :: 8 :: q) 0 ∧ σ.M (0 :: 8 :: q) = some (.cells [.bool false, .int .i64 0]) ∧ σ.M (0 :: 5 :: q) = some (.cells (rWo.enc w)) ∧ σ.M (0 :: 6 :: q) = some (.cells (encC e)) ∧ σ.get 14 = .sl (encL e.kids) .no ∧ σ.get 15 = .int .i64 e.kids.length ∧ σ.get 16 = .int .i64 j ∧ σ.get 7 = v ∧ j ≤ e.kids.length ∧ Hold ((j = 0 ∧ v = .sl [] .ex) ∨ (0 < j ∧ ∃ c d, v = .sl (encI .i64 ((ofL w env e.kids).take j)) (.own (c :: d :: q) 1) ∧ σ.K (c :: d :: q) = true))) e.kids.length ⟨0, .sl [] .ex, by simp [*, encC_eq, Hold]⟩ ?_
    rintro n σ ⟨j, v, rfl, g0, g1, g2, g10, m3, m1, m2, g3, g4, g5, g6, g7, g8⟩
    rw [rWo_enc] at m1
    rw [encC_eq] at m2
    have hll := ofL_len w env e.kids
    by_cases hj : j < e.kids.length
    · have hw : IntKind.i64.wrap ((j : Int) + 1) = (j : Int) + 1 := wrap64 (by omega) (by omega)
      have hw1 : IntKind.i64.wrap 1 = 1 := wrap64 (by omega) (by omega)
      have hok := hokk j hj
      have ht2 : Hold ((ofL w env e.kids).take (j + 1) = (ofL w env e.kids).take j ++ [ofE w env e.kids[j]]) := ofL_take w env e.kids j hj
      have hl : ((ofL w env e.kids).take j).length = j := by rw [List.length_take, hll]; omega
      have hcap : (j + 1) * 8 ≤ 140737488355328 := by omega
      clear heq hwc
      rcases g8 with ⟨rfl, rfl⟩ | ⟨g8, cc, d, rfl, g9⟩
      · repeat' (first | (with_reducible refine T.sq fun K hK => ?_) | ((first | ((with_reducible refine T.reg hE ?hd ?_); (case hd => kernel_rfl)) | ((with_reducible refine T.any hE mixed ?hd ?hok ?_); (case hd => kernel_rfl); (case hok => kernel_rfl))); simp [*]; (repeat' (split; all_goals (rename_i hc; try simp [*])))) | ((with_reducible refine T.ret ?_); refine fin_pure ?_; simp [*]; try (change Hold _)) | (with_reducible refine T.block ?_) | ((with_reducible refine T.skip ?_); simp [*]) | ((with_reducible refine T.exit ?_); simp [*]) | ((with_reducible refine T.br fun K1 K2 hK1 hK2 => ?_); simp [*]; try ((refine Br.intro (fun hc => ?_) (fun hc => ?_)) <;> (try simp at hc))) | (with_reducible refine Cont.go (by assumption) _ ?_) | (with_reducible refine Cnt.go (by assumption) ?_))
        refine ⟨e.kids.length - 1, by omega, 1, rfl, by simp [encC_eq], by omega, by omega, ?_⟩
        unfold Hold at *
        rw [ht2]
        exact ⟨by simp, _, _, ⟨rfl, rfl, rfl⟩, .inl ⟨rfl, rfl⟩⟩
      · repeat' (first | (with_reducible refine T.sq fun K hK => ?_) | ((first | ((with_reducible refine T.reg hE ?hd ?_); (case hd => kernel_rfl)) | ((with_reducible refine T.any hE mixed ?hd ?hok ?_); (case hd => kernel_rfl); (case hok => kernel_rfl))); simp [*]; (repeat' (split; all_goals (rename_i hc; try simp [*])))) | ((with_reducible refine T.ret ?_); refine fin_pure ?_; simp [*]; try (change Hold _)) | (with_reducible refine T.block ?_) | ((with_reducible refine T.skip ?_); simp [*]) | ((with_reducible refine T.exit ?_); simp [*]) | ((with_reducible refine T.br fun K1 K2 hK1 hK2 => ?_); simp [*]; try ((refine Br.intro (fun hc => ?_) (fun hc => ?_)) <;> (try simp at hc))) | (with_reducible refine Cont.go (by assumption) _ ?_) | (with_reducible refine Cnt.go (by assumption) ?_))
        refine ⟨e.kids.length - (j + 1), by omega, j + 1, rfl, by simp [encC_eq], by omega, by omega, ?_⟩
        unfold Hold at *
        rw [ht2]
        exact ⟨by simp, _, _, ⟨encI_snoc _ _ _, rfl, rfl⟩, .inl ⟨rfl, rfl⟩⟩
    · have w8 : j = e.kids.length := by omega
      have hv : ∃ v', v = v' ∧ (e.k = 3 ∨ e.k = 4) := ⟨v, rfl, hk⟩
      have hdec : Hold (v = .sl (encI .i64 (ofL w env e.kids)) .ex ∨ ∃ t, v = .sl (encI .i64 (ofL w env e.kids)) t) := by
        unfold Hold at *
        rcases g8 with ⟨g8, rfl⟩ | ⟨g8, cc, d, rfl, g9⟩
        · have h0 : ofL w env e.kids = [] := List.eq_nil_of_length_eq_zero (by rw [hll]; omega)
          rw [h0]; exact .inl rfl
        · have h0 : (ofL w env e.kids).take j = ofL w env e.kids := List.take_of_length_le (by rw [hll]; omega)
          rw [h0]; exact .inr ⟨_, rfl⟩
      have hdec2 : ∃ t, v = .sl (encI .i64 (ofL w env e.kids)) t := by
        unfold Hold at hdec
        rcases hdec with h | ⟨t, h⟩
        · exact ⟨_, h⟩
        · exact ⟨t, h⟩
      obtain ⟨tk, rfl⟩ := hdec2
      clear g8 hv hdec hokk
      rcases hk with hk | hk
      · have hb : atB w 3 e.i (ofL w env e.kids) = decide (lookV w.preds w.size e.i (ofL w env e.kids) = 1) := rfl
        rw [hk] at m2
        clear heq
        repeat' (first | (with_reducible refine T.sq fun K hK => ?_) | ((first | ((with_reducible refine T.reg hE ?hd ?_); (case hd => kernel_rfl)) | ((with_reducible refine T.any hE mixed ?hd ?hok ?_); (case hd => kernel_rfl); (case hok => kernel_rfl))); simp [*]; (repeat' (split; all_goals (rename_i hc; try simp [*])))) | ((with_reducible refine T.ret ?_); refine fin_pure ?_; simp [*]; try (change Hold _)) | (with_reducible refine T.block ?_) | ((with_reducible refine T.skip ?_); simp [*]) | ((with_reducible refine T.exit ?_); simp [*]) | ((with_reducible refine T.br fun K1 K2 hK1 hK2 => ?_); simp [*]; try ((refine Br.intro (fun hc => ?_) (fun hc => ?_)) <;> (try simp at hc))) | (with_reducible refine Cont.go (by assumption) _ ?_) | (with_reducible refine Cnt.go (by assumption) ?_))
      · obtain ⟨a, b, hab⟩ := heq hk
        have hof : ofL w env [a, b] = [ofE w env a, ofE w env b] := by rw [ofL_map]; rfl
        have hofk : ofL w env e.kids = [ofE w env a, ofE w env b] := by rw [hab, hof]
        have hb : atB w 4 e.i [ofE w env a, ofE w env b] = decide (ofE w env a = ofE w env b) := rfl
        rw [hk] at m2
        clear heq hof hab
        repeat' (first | (with_reducible refine T.sq fun K hK => ?_) | ((first | ((with_reducible refine T.reg hE ?hd ?_); (case hd => kernel_rfl)) | ((with_reducible refine T.any hE mixed ?hd ?hok ?_); (case hd => kernel_rfl); (case hok => kernel_rfl))); simp [*]; (repeat' (split; all_goals (rename_i hc; try simp [*])))) | ((with_reducible refine T.ret ?_); refine fin_pure ?_; simp [*]; try (change Hold _)) | (with_reducible refine T.block ?_) | ((with_reducible refine T.skip ?_); simp [*]) | ((with_reducible refine T.exit ?_); simp [*]) | ((with_reducible refine T.br fun K1 K2 hK1 hK2 => ?_); simp [*]; try ((refine Br.intro (fun hc => ?_) (fun hc => ?_)) <;> (try simp at hc))) | (with_reducible refine Cont.go (by assumption) _ ?_) | (with_reducible refine Cnt.go (by assumption) ?_))
  · cases hr

def okTo (w : Wo) (e : Ex) (env : List Int) (room : Int) : Prop := envR w env ∧ (allX e = true ∧ isT e = false ∧ cntE e ≤ 1000) ∧ 0 ≤ room ∧ room ≤ 50000
noncomputable instance (w : Wo) (e : Ex) (env : List Int) (room : Int) : Decidable (okTo w e env room) := Classical.propDecidable _
noncomputable def truF : Wo → Ex → List Int → Int → Option V := fun w e env room => if okTo w e env room then some (told (toE w e env room)) else none
def okQu (w : Wo) (e : Ex) (env : List Int) (room : Int) (n : Nat) : Prop := envR w env ∧ (0 ≤ e.i ∧ e.i ≤ 63) ∧ (∃ a, e.kids = [a] ∧ (allX a = true ∧ isT a = false ∧ cntE a ≤ 1000) ∧ SizeOf.sizeOf a < n) ∧ 1 ≤ room ∧ room ≤ 50000
noncomputable instance (w : Wo) (e : Ex) (env : List Int) (room : Int) (n : Nat) : Decidable (okQu w e env room n) := Classical.propDecidable _
noncomputable def quR (w : Wo) (e : Ex) (env : List Int) (room : Int) (till : Bool) : Bool × Int := qnR ((toL w e.kids).getD 0 rf0) env e.i.toNat room till (List.range w.size.toNat) 1
@[simp] noncomputable def gQuant (n : Nat) : List V → Option V := f5 (kRw rWo) kE (kIs .i64) (kI .i64) kB fun w e env room till => if okQu w e env room n then some (told (quR w e env room till)) else none
theorem env_setR {w : Wo} {env : List Int} (h : envR w env) (m : Nat) {v : Int} (hv : 0 ≤ v ∧ v < w.size) : envR w (env.set m v) := by
  refine ⟨h.1, by simp [h.2.1], fun u hu => ?_⟩
  rcases List.mem_or_eq_of_mem_set hu with h1 | h1
  · exact h.2.2 u h1
  · subst h1; exact hv
set_option maxHeartbeats 2000000 in
theorem ok_rQuant5 {n : Nat} (ih : PureOk Try.prog 14 (f4 (kRw rWo) kE (kIs .i64) (kI .i64) fun w x env room => if SizeOf.sizeOf x < n then truF w x env room else none)) : PureOk Try.prog 33 (gQuant n) := by
  intro args r h
  obtain ⟨w, e, env, room, till, rfl, hr⟩ := f5_inv h; clear h
  split at hr
  · rename_i hm
    obtain ⟨hen, ⟨hi0, hi1⟩, ⟨a, hkids, ha, hsz⟩, hr1, hr5⟩ := hm
    cases hr
    obtain ⟨k, id0, l⟩ := e
    simp only [Ex.kids_mk, Ex.i_mk, Ex.k_mk] at *
    subst hkids
    obtain ⟨m, rfl⟩ := Int.eq_ofNat_of_zero_le hi0
    have hm : m < 64 := by omega
    obtain ⟨s, hs⟩ : ∃ s : Nat, w.size = s := ⟨w.size.toNat, by have := (world_of hen.1).1; omega⟩
    have hs1 : 1 ≤ s ∧ s ≤ 3 := by have := (world_of hen.1).1; omega
    have h64 := hen.2.1
    have hfit := fits w (SizeOf.sizeOf a + 1) a (by omega) ha.2.2
    obtain ⟨f, hf⟩ : ∃ f, toE w a = f := ⟨_, rfl⟩
    have hx : quR w (.mk k m [a]) env room till = qnR f env m room till (List.range s) 1 := by
      unfold quR
      simp only [Ex.kids_mk, Ex.i_mk]
      rw [to_kid w (l := [a]) (j := 0) (by simp)]
      simp [hf, hs]
    obtain ⟨x, hxx⟩ : ∃ x, quR w (.mk k m [a]) env room till = x := ⟨_, rfl⟩
    rw [hxx]
    rw [hxx] at hx
    have htold : told x = .agg [.bool x.1, .int .i64 x.2] := rfl
    rw [htold]
    have hE := (((EnvOk.nil (P := Try.prog) (eq := fun _ => false) (own := fun _ => false) (mem := fun _ => false) EqOk.none).addf ih).addf ok_rWith64)
    refine ⟨⟨Try.f33, Try.func33, by decide, rfl⟩, pure_of_T Try.func33 rfl (by simp [Try.ntmps33]) fun q => ?_⟩
    have hr : ∀ j, j < s → (List.range s).drop j = j :: (List.range s).drop (j + 1) := fun j hj => by
      rw [List.drop_eq_getElem_cons (by simpa using hj)]; simp
    have hr2 : (List.range s).drop s = [] := List.drop_eq_nil_of_le (by simp)
    have hx1 : Hold (qnR f env m room till (List.range s) 1 = x) := by unfold Hold; rw [hx]
    have hw0 : Wo.mk (s : Int) w.funcs w.preds = w := by rw [← hs]
    clear hx hxx htold
    repeat' (first | (with_reducible refine T.sq fun K hK => ?_) | ((first | ((with_reducible refine T.reg hE ?hd ?_); (case hd => kernel_rfl)) | ((with_reducible refine T.any hE mixed ?hd ?hok ?_); (case hd => kernel_rfl); (case hok => kernel_rfl))); simp [*]; (repeat' (split; all_goals (rename_i hc; try simp [*])))) | ((with_reducible refine T.ret ?_); refine fin_pure ?_; simp [*]; try (change Hold _)) | (with_reducible refine T.block ?_) | ((with_reducible refine T.skip ?_); simp [*]) | ((with_reducible refine T.exit ?_); simp [*]) | ((with_reducible refine T.br fun K1 K2 hK1 hK2 => ?_); simp [*]; try ((refine Br.intro (fun hc => ?_) (fun hc => ?_)) <;> (try simp at hc))) | (with_reducible refine Cont.go (by assumption) _ ?_) | (with_reducible refine Cnt.go (by assumption) ?_))
    refine T.loop (fun mm σ => ∃ (j : Nat) (work : Int), mm = s - j ∧ σ.get 5 = .ptr (0 :: 7 :: q) 0 ∧ σ.M (0 :: 7 :: q) = some (.cells [.int .i64 s, .sl (rTb.encL w.funcs) .no, .sl (rTb.encL w.preds) .no]) ∧ σ.get 6 = .ptr (0 :: 8 :: q) 0 ∧ σ.M (0 :: 8 :: q) = some (.cells [.int .i64 k, .int .i64 m, .sl (encL [a]) .no]) ∧ σ.get 10 = .ptr (0 :: 12 :: q) 0 ∧ σ.M (0 :: 12 :: q) = some (.cells [.bool false, .int .i64 0]) ∧
      σ.get 2 = .sl (encI .i64 env) .no ∧ σ.get 3 = .int .i64 room ∧ σ.get 4 = .bool till ∧ σ.get 11 = .int .i64 work ∧ σ.get 12 = .int .i64 j ∧ j ≤ s ∧ 1 ≤ work ∧ work ≤ room ∧ Hold (qnR f env m room till ((List.range s).drop j) work = x)) s ⟨0, 1, by simp [*]⟩ ?_
    rintro mm σ ⟨j, work, rfl, g0, m0, g1, m1, g2, m2, g3, g4, g5, g6, g7, g8, g9, g10, g11⟩
    by_cases hj : j < s
    · have hji : (j : Int) < s := by omega
      have hj' : 0 ≤ (j : Int) ∧ (j : Int) < w.size := by omega
      have hok : okTo w a (env.set m (j : Int)) (room - work) := ⟨env_setR hen m hj', ha, by omega, by omega⟩
      have hws : IntKind.i64.wrap (room - work) = room - work := wrap64 (by omega) (by omega)
      obtain ⟨y, hy⟩ : ∃ y, f (env.set m (j : Int)) (room - work) = y := ⟨_, rfl⟩
      obtain ⟨_, _, b1, b2, _⟩ := hfit (env.set m (j : Int)) (room - work)
      rw [hf, hy] at b1 b2
      have hwa : IntKind.i64.wrap (work + y.2) = work + y.2 := wrap64 (by omega) (by omega)
      have hwj : IntKind.i64.wrap ((j : Int) + 1) = (j : Int) + 1 := wrap64 (by omega) (by omega)
      have hfy : toE w a (env.set m (j : Int)) (room - work) = y := by rw [hf, hy]
      have hst : Hold (x = if room < work + y.2 then (false, work + y.2) else if y.1 = till then (till, work + y.2) else qnR f env m room till ((List.range s).drop (j + 1)) (work + y.2)) := by
        unfold Hold at *
        rw [← g11, hr j hj, qnR, hy]
      have htl : told y = .agg [.bool y.1, .int .i64 y.2] := rfl
      have hm63 : (m : Int) ≤ 63 := by omega
      clear hfit hr hr2 hx1 g11 hf
      by_cases c1 : room < work + y.2
      · have e1 : x = (false, work + y.2) := by unfold Hold at hst; rw [hst, if_pos c1]
        have e2 : x.1 = false := by rw [e1]
        have e3 : x.2 = work + y.2 := by rw [e1]
        clear hst e1
        unfold truF at hE
        repeat' (first | (with_reducible refine T.sq fun K hK => ?_) | ((first | ((with_reducible refine T.reg hE ?hd ?_); (case hd => kernel_rfl)) | ((with_reducible refine T.any hE mixed ?hd ?hok ?_); (case hd => kernel_rfl); (case hok => kernel_rfl))); simp [*]; (repeat' (split; all_goals (rename_i hc; try simp [*])))) | ((with_reducible refine T.ret ?_); refine fin_pure ?_; simp [*]; try (change Hold _)) | (with_reducible refine T.block ?_) | ((with_reducible refine T.skip ?_); simp [*]) | ((with_reducible refine T.exit ?_); simp [*]) | ((with_reducible refine T.br fun K1 K2 hK1 hK2 => ?_); simp [*]; try ((refine Br.intro (fun hc => ?_) (fun hc => ?_)) <;> (try simp at hc))) | (with_reducible refine Cont.go (by assumption) _ ?_) | (with_reducible refine Cnt.go (by assumption) ?_))
      by_cases c2 : y.1 = till
      · have e1 : x = (till, work + y.2) := by unfold Hold at hst; rw [hst, if_neg c1, if_pos c2]
        have e2 : x.1 = till := by rw [e1]
        have e3 : x.2 = work + y.2 := by rw [e1]
        clear hst e1
        unfold truF at hE
        repeat' (first | (with_reducible refine T.sq fun K hK => ?_) | ((first | ((with_reducible refine T.reg hE ?hd ?_); (case hd => kernel_rfl)) | ((with_reducible refine T.any hE mixed ?hd ?hok ?_); (case hd => kernel_rfl); (case hok => kernel_rfl))); simp [*]; (repeat' (split; all_goals (rename_i hc; try simp [*])))) | ((with_reducible refine T.ret ?_); refine fin_pure ?_; simp [*]; try (change Hold _)) | (with_reducible refine T.block ?_) | ((with_reducible refine T.skip ?_); simp [*]) | ((with_reducible refine T.exit ?_); simp [*]) | ((with_reducible refine T.br fun K1 K2 hK1 hK2 => ?_); simp [*]; try ((refine Br.intro (fun hc => ?_) (fun hc => ?_)) <;> (try simp at hc))) | (with_reducible refine Cont.go (by assumption) _ ?_) | (with_reducible refine Cnt.go (by assumption) ?_))
      · have hst2 : Hold (qnR f env m room till ((List.range s).drop (j + 1)) (work + y.2) = x) := by unfold Hold at *; rw [hst, if_neg c1, if_neg c2]
        have hyb : (y.1 == till) = false := by simpa using c2
        clear hst
        unfold truF at hE
        repeat' (first | (with_reducible refine T.sq fun K hK => ?_) | ((first | ((with_reducible refine T.reg hE ?hd ?_); (case hd => kernel_rfl)) | ((with_reducible refine T.any hE mixed ?hd ?hok ?_); (case hd => kernel_rfl); (case hok => kernel_rfl))); simp [*]; (repeat' (split; all_goals (rename_i hc; try simp [*])))) | ((with_reducible refine T.ret ?_); refine fin_pure ?_; simp [*]; try (change Hold _)) | (with_reducible refine T.block ?_) | ((with_reducible refine T.skip ?_); simp [*]) | ((with_reducible refine T.exit ?_); simp [*]) | ((with_reducible refine T.br fun K1 K2 hK1 hK2 => ?_); simp [*]; try ((refine Br.intro (fun hc => ?_) (fun hc => ?_)) <;> (try simp at hc))) | (with_reducible refine Cont.go (by assumption) _ ?_) | (with_reducible refine Cnt.go (by assumption) ?_))
        refine ⟨_, by omega, j + 1, rfl, by omega, by omega, by omega, by omega, hst2⟩
    · have w8 : j = s := by omega
      subst w8
      have hji : ¬ (j : Int) < j := by omega
      have e1 : x = (!till, work) := by unfold Hold at g11; rw [← g11, hr2]; rfl
      have e2 : x.1 = !till := by rw [e1]
      have e3 : x.2 = work := by rw [e1]
      clear hfit hr hr2 hx1 g11 e1
      repeat' (first | (with_reducible refine T.sq fun K hK => ?_) | ((first | ((with_reducible refine T.reg hE ?hd ?_); (case hd => kernel_rfl)) | ((with_reducible refine T.any hE mixed ?hd ?hok ?_); (case hd => kernel_rfl); (case hok => kernel_rfl))); simp [*]; (repeat' (split; all_goals (rename_i hc; try simp [*])))) | ((with_reducible refine T.ret ?_); refine fin_pure ?_; simp [*]; try (change Hold _)) | (with_reducible refine T.block ?_) | ((with_reducible refine T.skip ?_); simp [*]) | ((with_reducible refine T.exit ?_); simp [*]) | ((with_reducible refine T.br fun K1 K2 hK1 hK2 => ?_); simp [*]; try ((refine Br.intro (fun hc => ?_) (fun hc => ?_)) <;> (try simp at hc))) | (with_reducible refine Cont.go (by assumption) _ ?_) | (with_reducible refine Cnt.go (by assumption) ?_))
  · cases hr
end Go.Proofs.Ytaacfmakfkaddaa.Ax
