/- Contracts: several terms put in, by the reference. -/
import Derived.Test.YtdnhgabopdcjoaaCxY
set_option linter.unusedVariables false
set_option linter.unusedSimpArgs false
namespace Go.Proofs.Ytdnhgabopdcjoaa.Ax
open Go Go.Proofs

def dropL (l : List (Int × Ex)) (x : Int) : List (Int × Ex) := l.filter fun p => !decide (p.1 = x)
theorem lk_drop (x : Int) : ∀ l : List (Int × Ex), lkF (dropL l x) = drF (lkF l) x
  | [] => by funext y; unfold drF dropL; simp [lkF]
  | p :: l => by
    funext y
    have ih := congrFun (lk_drop x l) y
    unfold drF dropL at *
    rw [List.filter_cons]
    by_cases c : p.1 = x
    · simp only [c, decide_true, Bool.not_true, Bool.false_eq_true, if_false]
      rw [ih]
      simp only [lkF]
      by_cases d : y = x
      · simp [d]
      · rw [if_neg d, if_neg d, if_neg (by omega)]
    · simp only [c, decide_false, Bool.not_false, if_true, lkF]
      by_cases e : p.1 = y
      · rw [if_pos e, if_neg (by omega), if_pos e]
      · rw [if_neg e, ih]
        by_cases d : y = x
        · simp [d]
        · rw [if_neg d, if_neg d, if_neg e]
theorem drop_le (l : List (Int × Ex)) (x : Int) : (dropL l x).length ≤ l.length := List.length_filter_le _ _
theorem drop_take (l : List (Int × Ex)) (x : Int) (j : Nat) (h : j < l.length) : dropL (l.take (j + 1)) x = dropL (l.take j) x ++ (if l[j].1 = x then [] else [l[j]]) := by
  unfold dropL
  rw [take_snoc l j h, List.filter_append]
  congr 1
  by_cases c : l[j].1 = x
  · rw [if_pos c]; simp [c]
  · rw [if_neg c]; simp [c]
def okDr (l : List (Int × Ex)) : Prop := l.length ≤ 1000
noncomputable instance (l : List (Int × Ex)) : Decidable (okDr l) := Classical.propDecidable _
@[simp] noncomputable def gDropped : List V → Option V := f2 (kRs rPair) (kI .i64) fun l x => if okDr l then some (.sl (rPair.encL (dropL l x)) .no) else none
theorem encP_snoc (l : List (Int × Ex)) (p : Int × Ex) : rPair.encL (l ++ [p]) = rPair.encL l ++ [[.int .i64 p.1, .int .i64 p.2.k, .int .i64 p.2.i, .sl (encL p.2.kids) .no]] := by simp [Rw.encL]
set_option maxHeartbeats 2000000 in
theorem ok_dropped : PureOk Try.prog 82 gDropped := by
  intro args r h
  obtain ⟨l, x, rfl, hr⟩ := f2_inv h; clear h
  split at hr
  · rename_i hm
    have hl : l.length ≤ 1000 := hm
    clear hm
    cases hr
    have hE := (EnvOk.nil (P := Try.prog) (eq := fun _ => false) (own := fun _ => false) (mem := fun _ => false) EqOk.none)
    refine ⟨⟨Try.f82, Try.func82, by decide, rfl⟩, pure_of_T Try.func82 rfl (by simp [Try.ntmps82]) fun q => ?_⟩
    repeat' (first
      | (with_reducible refine T.sq fun K hK => ?_)
      | ((first | ((with_reducible refine T.reg hE ?hd ?_); (case hd => kernel_rfl)) | ((with_reducible refine T.any hE mixed ?hd ?hok ?_); (case hd => kernel_rfl); (case hok => kernel_rfl))); simp [*]; (repeat' (split; all_goals (rename_i hc; try simp [*]))))
      | ((with_reducible refine T.ret ?_); refine fin_pure ?_; simp [*]; try (change Hold _))
      | (with_reducible refine T.block ?_)
      | ((with_reducible refine T.skip ?_); simp [*])
      | ((with_reducible refine T.exit ?_); simp [*])
      | ((with_reducible refine T.br fun K1 K2 hK1 hK2 => ?_); simp [*]; try ((refine Br.intro (fun hc => ?_) (fun hc => ?_)) <;> (try simp at hc)))
      | (with_reducible refine Cont.go (by assumption) _ ?_)
      | (with_reducible refine Cnt.go (by assumption) ?_))
    refine T.loop (fun n σ => ∃ (j : Nat) (w : V), n = l.length - j ∧ σ.get 1 = .int .i64 x ∧ σ.get 5 = w ∧ σ.get 9 = .sl (rPair.encL l) .no ∧ σ.get 10 = .int .i64 l.length ∧ σ.get 11 = .int .i64 j ∧ j ≤ l.length ∧ Hold ((dropL (l.take j) x = [] ∧ w = .sl [] .ex) ∨ ∃ id, w = .sl (rPair.encL (dropL (l.take j) x)) (.own id 4) ∧ σ.K id = true)) l.length ⟨0, .sl [] .ex, by simp, by simp [*], by simp [*], by simp [*], by simp [*], by simp [*], by omega, .inl ⟨rfl, rfl⟩⟩ ?_
    rintro n σ ⟨j, w, rfl, g1, g2, g3, g4, g5, g6, g7⟩
    by_cases hj : j < l.length
    · have hw : IntKind.i64.wrap ((j : Int) + 1) = (j : Int) + 1 := wrap64 (by omega) (by omega)
      have ht := drop_take l x j hj
      have hlen : (dropL (l.take j) x).length ≤ 1000 := by have := drop_le (l.take j) x; rw [List.length_take] at this; omega
      have u1 : ((dropL (l.take j) x).length + 1) * 48 ≤ 140737488355328 := by omega
      by_cases c : l[j].1 = x
      · rw [if_pos c, List.append_nil] at ht
        have hn : Hold (dropL (l.take (j + 1)) x = dropL (l.take j) x) := ht
        clear ht
        repeat' (first
          | (with_reducible refine T.sq fun K hK => ?_)
          | ((first | ((with_reducible refine T.reg hE ?hd ?_); (case hd => kernel_rfl)) | ((with_reducible refine T.any hE mixed ?hd ?hok ?_); (case hd => kernel_rfl); (case hok => kernel_rfl))); simp [*]; (repeat' (split; all_goals (rename_i hc; try simp [*]))))
          | ((with_reducible refine T.ret ?_); refine fin_pure ?_; simp [*]; try (change Hold _))
          | (with_reducible refine T.block ?_)
          | ((with_reducible refine T.skip ?_); simp [*])
          | ((with_reducible refine T.exit ?_); simp [*])
          | ((with_reducible refine T.br fun K1 K2 hK1 hK2 => ?_); simp [*]; try ((refine Br.intro (fun hc => ?_) (fun hc => ?_)) <;> (try simp at hc)))
          | (with_reducible refine Cont.go (by assumption) _ ?_)
          | (with_reducible refine Cnt.go (by assumption) ?_))
        exact ⟨_, by omega, j + 1, rfl, by omega, by omega, by unfold Hold at hn g7 ⊢; rw [hn]; exact g7⟩
      · rw [if_neg c] at ht
        have hn : Hold (rPair.encL (dropL (l.take (j + 1)) x) = rPair.encL (dropL (l.take j) x) ++ [[.int .i64 l[j].1, .int .i64 l[j].2.k, .int .i64 l[j].2.i, .sl (encL l[j].2.kids) .no]]) := by unfold Hold; rw [ht, encP_snoc]
        clear ht
        rcases g7 with ⟨h0, rfl⟩ | ⟨id, rfl, hK⟩
        · repeat' (first
            | (with_reducible refine T.sq fun K hK => ?_)
            | ((first | ((with_reducible refine T.reg hE ?hd ?_); (case hd => kernel_rfl)) | ((with_reducible refine T.any hE mixed ?hd ?hok ?_); (case hd => kernel_rfl); (case hok => kernel_rfl))); simp [*]; (repeat' (split; all_goals (rename_i hc; try simp [*]))))
            | ((with_reducible refine T.ret ?_); refine fin_pure ?_; simp [*]; try (change Hold _))
            | (with_reducible refine T.block ?_)
            | ((with_reducible refine T.skip ?_); simp [*])
            | ((with_reducible refine T.exit ?_); simp [*])
            | ((with_reducible refine T.br fun K1 K2 hK1 hK2 => ?_); simp [*]; try ((refine Br.intro (fun hc => ?_) (fun hc => ?_)) <;> (try simp at hc)))
            | (with_reducible refine Cont.go (by assumption) _ ?_)
            | (with_reducible refine Cnt.go (by assumption) ?_))
          exact ⟨_, by omega, j + 1, rfl, by omega, by omega, _, ⟨by unfold Hold at hn; rw [hn, h0]; rfl, rfl⟩, .inl rfl⟩
        · have hl3 : (∀ el : List V, el ∈ rPair.encL (dropL (l.take j) x) → el.length = 4) = True := eq_true (fun el hel => by rw [Rw.encL, List.mem_map] at hel; obtain ⟨p, _, rfl⟩ := hel; rfl)
          repeat' (first
            | (with_reducible refine T.sq fun K hK => ?_)
            | ((first | ((with_reducible refine T.reg hE ?hd ?_); (case hd => kernel_rfl)) | ((with_reducible refine T.any hE mixed ?hd ?hok ?_); (case hd => kernel_rfl); (case hok => kernel_rfl))); simp [*]; (repeat' (split; all_goals (rename_i hc; try simp [*]))))
            | ((with_reducible refine T.ret ?_); refine fin_pure ?_; simp [*]; try (change Hold _))
            | (with_reducible refine T.block ?_)
            | ((with_reducible refine T.skip ?_); simp [*])
            | ((with_reducible refine T.exit ?_); simp [*])
            | ((with_reducible refine T.br fun K1 K2 hK1 hK2 => ?_); simp [*]; try ((refine Br.intro (fun hc => ?_) (fun hc => ?_)) <;> (try simp at hc)))
            | (with_reducible refine Cont.go (by assumption) _ ?_)
            | (with_reducible refine Cnt.go (by assumption) ?_))
          exact ⟨_, by omega, j + 1, rfl, by omega, by omega, _, ⟨by unfold Hold at hn; rw [hn], rfl⟩, .inl rfl⟩
    · have w8 : j = l.length := by omega
      subst w8
      rw [List.take_length] at g7
      rcases g7 with ⟨h0, rfl⟩ | ⟨id, rfl, hK⟩
      · have hn : Hold (rPair.encL (dropL l x) = []) := by unfold Hold; rw [h0]; rfl
        clear h0
        repeat' (first
          | (with_reducible refine T.sq fun K hK => ?_)
          | ((first | ((with_reducible refine T.reg hE ?hd ?_); (case hd => kernel_rfl)) | ((with_reducible refine T.any hE mixed ?hd ?hok ?_); (case hd => kernel_rfl); (case hok => kernel_rfl))); simp [*]; (repeat' (split; all_goals (rename_i hc; try simp [*]))))
          | ((with_reducible refine T.ret ?_); refine fin_pure ?_; simp [*]; try (change Hold _))
          | (with_reducible refine T.block ?_)
          | ((with_reducible refine T.skip ?_); simp [*])
          | ((with_reducible refine T.exit ?_); simp [*])
          | ((with_reducible refine T.br fun K1 K2 hK1 hK2 => ?_); simp [*]; try ((refine Br.intro (fun hc => ?_) (fun hc => ?_)) <;> (try simp at hc)))
          | (with_reducible refine Cont.go (by assumption) _ ?_)
          | (with_reducible refine Cnt.go (by assumption) ?_))
        all_goals exact hn
      · repeat' (first
          | (with_reducible refine T.sq fun K hK => ?_)
          | ((first | ((with_reducible refine T.reg hE ?hd ?_); (case hd => kernel_rfl)) | ((with_reducible refine T.any hE mixed ?hd ?hok ?_); (case hd => kernel_rfl); (case hok => kernel_rfl))); simp [*]; (repeat' (split; all_goals (rename_i hc; try simp [*]))))
          | ((with_reducible refine T.ret ?_); refine fin_pure ?_; simp [*]; try (change Hold _))
          | (with_reducible refine T.block ?_)
          | ((with_reducible refine T.skip ?_); simp [*])
          | ((with_reducible refine T.exit ?_); simp [*])
          | ((with_reducible refine T.br fun K1 K2 hK1 hK2 => ?_); simp [*]; try ((refine Br.intro (fun hc => ?_) (fun hc => ?_)) <;> (try simp at hc)))
          | (with_reducible refine Cont.go (by assumption) _ ?_)
          | (with_reducible refine Cnt.go (by assumption) ?_))
  · cases hr

def okWe (a : Ex) (l : List (Int × Ex)) (room : Int) : Prop := allX a = true ∧ cntE a ≤ 1000 ∧ l.length ≤ 1000 ∧ (∀ p ∈ l, allX p.2 = true ∧ cntE p.2 ≤ 1000) ∧ 0 ≤ room ∧ room ≤ 1000
noncomputable instance (a : Ex) (l : List (Int × Ex)) (room : Int) : Decidable (okWe a l room) := Classical.propDecidable _
@[simp] noncomputable def gWithinE : List V → Option V := f3 kE (kRs rPair) (kI .i64) fun a l room => if okWe a l room then some (wiV (psF (lkF l) a) room) else none
theorem lk_cons (l : List (Int × Ex)) (j : Nat) (h : j < l.length) (y : Int) : lkF (l.drop j) y = if l[j].1 = y then some l[j].2 else lkF (l.drop (j + 1)) y := by
  rw [List.drop_eq_getElem_cons h]; rfl
set_option maxHeartbeats 4000000 in
theorem ok_rWithinE : PureOk Try.prog 52 gWithinE := by
  refine rec3 fun a ih l room r hr => ?_
  split at hr
  · rename_i hm
    obtain ⟨ha, hca, hll, hlp, hr0, hr1⟩ := hm
    cases hr
    have hca0 := cntE_pos a
    have hsa := small_all ha
    have hE := ((((((EnvOk.nil (P := Try.prog) (eq := fun _ => false) (own := fun _ => false) (mem := fun _ => false) EqOk.none).addf ok_rWithin).addf ok_Copy).addf ok_rQuant).addf ok_dropped).addf ih)
    refine ⟨⟨Try.f52, Try.func52, by decide, rfl⟩, pure_of_T Try.func52 rfl (by simp [Try.ntmps52]) fun q => ?_⟩
    have hpe := psF_eq (lkF l) a
    by_cases c0 : room < 1
    · have hn := wi_bad (z := psF (lkF l) a) (room := room) (by have := cntE_pos (psF (lkF l) a); omega)
      have hn2 : Hold _ := hn
      clear hn hpe hlp
      repeat' (first
        | (with_reducible refine T.sq fun K hK => ?_)
        | ((first | ((with_reducible refine T.reg hE ?hd ?_); (case hd => kernel_rfl)) | ((with_reducible refine T.any hE mixed ?hd ?hok ?_); (case hd => kernel_rfl); (case hok => kernel_rfl))); simp [*]; (repeat' (split; all_goals (rename_i hc; try simp [*]))))
        | ((with_reducible refine T.ret ?_); refine fin_pure ?_; simp [*]; try (change Hold _))
        | (with_reducible refine T.block ?_)
        | ((with_reducible refine T.skip ?_); simp [*])
        | ((with_reducible refine T.exit ?_); simp [*])
        | ((with_reducible refine T.br fun K1 K2 hK1 hK2 => ?_); simp [*]; try ((refine Br.intro (fun hc => ?_) (fun hc => ?_)) <;> (try simp at hc)))
        | (with_reducible refine Cont.go (by assumption) _ ?_)
        | (with_reducible refine Cnt.go (by assumption) ?_))
      all_goals (unfold Hold at *; rw [hn2])
    by_cases k1 : a.k = 1
    · rw [if_pos k1] at hpe
      have hpe2 : Hold (psF (lkF l) a = (lkF l a.i).getD a) := hpe
      have hl0 : a.kids = [] := by cases a with | mk k i m => exact kids_none ha k1
      have hc1 : cntE a = 1 := by rw [cntE_eq, hl0]; rfl
      clear hpe
      repeat' (first
        | (with_reducible refine T.sq fun K hK => ?_)
        | ((first | ((with_reducible refine T.reg hE ?hd ?_); (case hd => kernel_rfl)) | ((with_reducible refine T.any hE mixed ?hd ?hok ?_); (case hd => kernel_rfl); (case hok => kernel_rfl))); simp [*]; (repeat' (split; all_goals (rename_i hc; try simp [*]))))
        | ((with_reducible refine T.ret ?_); refine fin_pure ?_; simp [*]; try (change Hold _))
        | (with_reducible refine T.block ?_)
        | ((with_reducible refine T.skip ?_); simp [*])
        | ((with_reducible refine T.exit ?_); simp [*])
        | ((with_reducible refine T.br fun K1 K2 hK1 hK2 => ?_); simp [*]; try ((refine Br.intro (fun hc => ?_) (fun hc => ?_)) <;> (try simp at hc)))
        | (with_reducible refine Cont.go (by assumption) _ ?_)
        | (with_reducible refine Cnt.go (by assumption) ?_))
      refine T.loop (fun n σ => ∃ (j : Nat), n = l.length - j ∧ σ.get 2 = .int .i64 room ∧ σ.get 3 = .ptr (0 :: 5 :: q) 0 ∧ σ.M (0 :: 5 :: q) = some (.cells (encC a)) ∧ σ.get 6 = .ptr (0 :: 8 :: q) 0 ∧ (∃ c0 c1 c2 c3 c4, σ.M (0 :: 8 :: q) = some (.cells [c0, c1, c2, c3, c4])) ∧ σ.get 20 = .sl (rPair.encL l) .no ∧ σ.get 21 = .int .i64 l.length ∧ σ.get 22 = .int .i64 j ∧ j ≤ l.length ∧ Hold (lkF l a.i = lkF (l.drop j) a.i)) l.length ⟨0, by simp, by simp [*], by simp [*], by simp [*, encC_eq], by simp [*], by simp [*], by simp [*], by simp [*], by simp [*], by omega, rfl⟩ ?_
      rintro n σ ⟨j, rfl, g1, g2, m1, g3, ⟨c0, c1, c2, c3, c4, m2⟩, g4, g5, g6, g7, g8⟩
      rw [encC_eq] at m1
      by_cases hj : j < l.length
      · have hw : IntKind.i64.wrap ((j : Int) + 1) = (j : Int) + 1 := wrap64 (by omega) (by omega)
        have hd := lk_cons l j hj a.i
        obtain ⟨hp1, hp2⟩ := hlp l[j] (List.getElem_mem hj)
        clear hlp
        by_cases c : l[j].1 = a.i
        · rw [if_pos c] at hd
          have hz : Hold (psF (lkF l) a = psF (sgF a.i l[j].2) a) := by
            unfold Hold at *
            rw [hpe2, g8, hd, psF_eq, if_pos k1]; unfold sgF; rw [if_pos rfl]
          have hok : okWi a l[j].2 room := ⟨ha, hp1, hca, hp2, hr0, hr1⟩
          have e1 : Ex.mk 1 a.i [] = a := by rw [← k1, ← hl0, Ex.eta]
          have hz2 : Hold (wiV (psF (lkF l) a) room = wiV (psF (sgF a.i l[j].2) a) room) := by unfold Hold at *; rw [hz]
          clear hd hpe2 g8 hz
          by_cases c6 : (cntE (psF (sgF a.i l[j].2) a) : Int) ≤ room
          · have hwi := wi_good c6
            repeat' (first
              | (with_reducible refine T.sq fun K hK => ?_)
              | ((first | ((with_reducible refine T.reg hE ?hd ?_); (case hd => kernel_rfl)) | ((with_reducible refine T.any hE mixed ?hd ?hok ?_); (case hd => kernel_rfl); (case hok => kernel_rfl))); simp [*]; (repeat' (split; all_goals (rename_i hc; try simp [*]))))
              | ((with_reducible refine T.ret ?_); refine fin_pure ?_; simp [*]; try (change Hold _))
              | (with_reducible refine T.block ?_)
              | ((with_reducible refine T.skip ?_); simp [*])
              | ((with_reducible refine T.exit ?_); simp [*])
              | ((with_reducible refine T.br fun K1 K2 hK1 hK2 => ?_); simp [*]; try ((refine Br.intro (fun hc => ?_) (fun hc => ?_)) <;> (try simp at hc)))
              | (with_reducible refine Cont.go (by assumption) _ ?_)
              | (with_reducible refine Cnt.go (by assumption) ?_))
            all_goals (unfold Hold at *; rw [hz2, hwi])
          · have hwi := wi_bad c6
            repeat' (first
              | (with_reducible refine T.sq fun K hK => ?_)
              | ((first | ((with_reducible refine T.reg hE ?hd ?_); (case hd => kernel_rfl)) | ((with_reducible refine T.any hE mixed ?hd ?hok ?_); (case hd => kernel_rfl); (case hok => kernel_rfl))); simp [*]; (repeat' (split; all_goals (rename_i hc; try simp [*]))))
              | ((with_reducible refine T.ret ?_); refine fin_pure ?_; simp [*]; try (change Hold _))
              | (with_reducible refine T.block ?_)
              | ((with_reducible refine T.skip ?_); simp [*])
              | ((with_reducible refine T.exit ?_); simp [*])
              | ((with_reducible refine T.br fun K1 K2 hK1 hK2 => ?_); simp [*]; try ((refine Br.intro (fun hc => ?_) (fun hc => ?_)) <;> (try simp at hc)))
              | (with_reducible refine Cont.go (by assumption) _ ?_)
              | (with_reducible refine Cnt.go (by assumption) ?_))
            all_goals (unfold Hold at *; rw [hz2, hwi])
        · rw [if_neg c] at hd
          have hn : Hold (lkF l a.i = lkF (l.drop (j + 1)) a.i) := by unfold Hold at *; rw [g8, hd]
          clear hd g8
          repeat' (first
            | (with_reducible refine T.sq fun K hK => ?_)
            | ((first | ((with_reducible refine T.reg hE ?hd ?_); (case hd => kernel_rfl)) | ((with_reducible refine T.any hE mixed ?hd ?hok ?_); (case hd => kernel_rfl); (case hok => kernel_rfl))); simp [*]; (repeat' (split; all_goals (rename_i hc; try simp [*]))))
            | ((with_reducible refine T.ret ?_); refine fin_pure ?_; simp [*]; try (change Hold _))
            | (with_reducible refine T.block ?_)
            | ((with_reducible refine T.skip ?_); simp [*])
            | ((with_reducible refine T.exit ?_); simp [*])
            | ((with_reducible refine T.br fun K1 K2 hK1 hK2 => ?_); simp [*]; try ((refine Br.intro (fun hc => ?_) (fun hc => ?_)) <;> (try simp at hc)))
            | (with_reducible refine Cont.go (by assumption) _ ?_)
            | (with_reducible refine Cnt.go (by assumption) ?_))
          exact ⟨_, by omega, j + 1, rfl, by simp [encC_eq, k1, hl0], by omega, by omega, hn⟩
      · have w8 : j = l.length := by omega
        have hz : Hold (psF (lkF l) a = a) := by
          unfold Hold at *
          rw [hpe2, g8, w8, List.drop_length]; rfl
        have hwi : Hold (wiV a room = _) := wi_good (by omega)
        clear hpe2 g8 hlp
        have e1 : Ex.mk 1 a.i [] = a := by rw [← k1, ← hl0, Ex.eta]
        repeat' (first
          | (with_reducible refine T.sq fun K hK => ?_)
          | ((first | ((with_reducible refine T.reg hE ?hd ?_); (case hd => kernel_rfl)) | ((with_reducible refine T.any hE mixed ?hd ?hok ?_); (case hd => kernel_rfl); (case hok => kernel_rfl))); simp [*]; (repeat' (split; all_goals (rename_i hc; try simp [*]))))
          | ((with_reducible refine T.ret ?_); refine fin_pure ?_; simp [*]; try (change Hold _))
          | (with_reducible refine T.block ?_)
          | ((with_reducible refine T.skip ?_); simp [*])
          | ((with_reducible refine T.exit ?_); simp [*])
          | ((with_reducible refine T.br fun K1 K2 hK1 hK2 => ?_); simp [*]; try ((refine Br.intro (fun hc => ?_) (fun hc => ?_)) <;> (try simp at hc)))
          | (with_reducible refine Cont.go (by assumption) _ ?_)
          | (with_reducible refine Cnt.go (by assumption) ?_))
        all_goals (unfold Hold at *; rw [hz, hwi]; try simp [*])
    rw [if_neg k1] at hpe
    obtain ⟨l', hl', hz, hll', hlp'⟩ : ∃ l', l' = (if isQ a = true then dropL l a.i else l) ∧ Hold (psF (lkF l) a = .mk a.k a.i (psL (lkF l') a.kids)) ∧ l'.length ≤ 1000 ∧ Hold (∀ p ∈ l', allX p.2 = true ∧ cntE p.2 ≤ 1000) := by
      by_cases c : isQ a = true
      · refine ⟨_, rfl, ?_⟩
        rw [if_pos c]
        refine ⟨?_, Nat.le_trans (drop_le l a.i) hll, fun p hp => hlp p (List.mem_filter.1 hp).1⟩
        unfold Hold
        rw [hpe, psL_map, lk_drop]
        unfold quF
        rw [if_pos (by simpa [isQ] using c)]
      · refine ⟨_, rfl, ?_⟩
        rw [if_neg c]
        refine ⟨?_, hll, hlp⟩
        unfold Hold
        rw [hpe, psL_map]
        unfold quF
        rw [if_neg (by simpa [isQ] using c)]
    have hcz : Hold (cntE (psF (lkF l) a) = cntL (psL (lkF l') a.kids) + 1) := by unfold Hold at *; rw [hz, cntE_eq]; rfl
    have hk4 := kids_four ha
    have hdr : okDr l := hll
    clear hpe hlp
    refine T.sq fun K0 hK0 => ?_
    refine T.reg hE rfl ?_
    simp
    refine hK0.go _ ?_
    clear hK0
    refine T.sq fun K hK => ?_
    obtain ⟨hgo⟩ := hK
    repeat' (first
      | (with_reducible refine T.sq fun K hK => ?_)
      | ((first | ((with_reducible refine T.reg hE ?hd ?_); (case hd => kernel_rfl)) | ((with_reducible refine T.any hE mixed ?hd ?hok ?_); (case hd => kernel_rfl); (case hok => kernel_rfl))); simp [*]; (repeat' (split; all_goals (rename_i hc; try simp [*]))))
      | ((with_reducible refine T.ret ?_); refine fin_pure ?_; simp [*]; try (change Hold _))
      | (with_reducible refine T.block ?_)
      | ((with_reducible refine T.skip ?_); simp [*])
      | ((with_reducible refine T.exit ?_); simp [*])
      | ((with_reducible refine T.br fun K1 K2 hK1 hK2 => ?_); simp [*]; try ((refine Br.intro (fun hc => ?_) (fun hc => ?_)) <;> (try simp at hc)))
      | (with_reducible refine Cont.go (by assumption) _ ?_)
      | (with_reducible refine Cnt.go (by assumption) ?_))
    refine hgo _ ?_
    clear hgo
    refine T.sq fun K hK => ?_
    obtain ⟨hgo⟩ := hK
    repeat' (first
      | (with_reducible refine T.sq fun K hK => ?_)
      | ((first | ((with_reducible refine T.reg hE ?hd ?_); (case hd => kernel_rfl)) | ((with_reducible refine T.any hE mixed ?hd ?hok ?_); (case hd => kernel_rfl); (case hok => kernel_rfl))); simp [*]; (repeat' (split; all_goals (rename_i hc; try simp [*]))))
      | ((with_reducible refine T.ret ?_); refine fin_pure ?_; simp [*]; try (change Hold _))
      | (with_reducible refine T.block ?_)
      | ((with_reducible refine T.skip ?_); simp [*])
      | ((with_reducible refine T.exit ?_); simp [*])
      | ((with_reducible refine T.br fun K1 K2 hK1 hK2 => ?_); simp [*]; try ((refine Br.intro (fun hc => ?_) (fun hc => ?_)) <;> (try simp at hc)))
      | (with_reducible refine Cont.go (by assumption) _ ?_)
      | (with_reducible refine Cnt.go (by assumption) ?_))
    refine hgo _ ?_
    clear hgo
    refine T.sq fun K1 hK1 => ?_
    obtain ⟨h1⟩ := hK1
    suffices j1 : ∀ σ : St, (σ.get 1 = .sl (rPair.encL l') .no ∧ σ.get 2 = .int .i64 room ∧ σ.get 3 = .ptr (0 :: 5 :: q) 0 ∧ σ.M (0 :: 5 :: q) = some (.cells (encC a)) ∧ σ.get 6 = .ptr (0 :: 8 :: q) 0 ∧ (∃ c0 c1 c2 c3 c4, σ.M (0 :: 8 :: q) = some (.cells [c0, c1, c2, c3, c4])) ∧ σ.cnt 11 = 0) → K1 σ by
      clear h1
      by_cases q1 : isQ a = true
      · rw [if_pos q1] at hl'
        subst hl'
        clear hll' hlp' hz hcz
        repeat' (first
          | (with_reducible refine T.sq fun K hK => ?_)
          | ((first | ((with_reducible refine T.reg hE ?hd ?_); (case hd => kernel_rfl)) | ((with_reducible refine T.any hE mixed ?hd ?hok ?_); (case hd => kernel_rfl); (case hok => kernel_rfl))); simp [*]; (repeat' (split; all_goals (rename_i hc; try simp [*]))))
          | ((with_reducible refine T.ret ?_); refine fin_pure ?_; simp [*]; try (change Hold _))
          | (with_reducible refine T.block ?_)
          | ((with_reducible refine T.skip ?_); simp [*])
          | ((with_reducible refine T.exit ?_); simp [*])
          | ((with_reducible refine T.br fun K1 K2 hK1 hK2 => ?_); simp [*]; try ((refine Br.intro (fun hc => ?_) (fun hc => ?_)) <;> (try simp at hc)))
          | (with_reducible refine Cont.go (by assumption) _ ?_)
          | (with_reducible refine Cnt.go (by assumption) ?_))
        all_goals (refine j1 _ ⟨?_, ?_, ?_, ?_, ?_, ?_, ?_⟩ <;> simp [*, encC_eq])
      · rw [if_neg q1] at hl'
        subst hl'
        rw [Bool.not_eq_true] at q1
        clear hll' hlp' hz hcz
        repeat' (first
          | (with_reducible refine T.sq fun K hK => ?_)
          | ((first | ((with_reducible refine T.reg hE ?hd ?_); (case hd => kernel_rfl)) | ((with_reducible refine T.any hE mixed ?hd ?hok ?_); (case hd => kernel_rfl); (case hok => kernel_rfl))); simp [*]; (repeat' (split; all_goals (rename_i hc; try simp [*]))))
          | ((with_reducible refine T.ret ?_); refine fin_pure ?_; simp [*]; try (change Hold _))
          | (with_reducible refine T.block ?_)
          | ((with_reducible refine T.skip ?_); simp [*])
          | ((with_reducible refine T.exit ?_); simp [*])
          | ((with_reducible refine T.br fun K1 K2 hK1 hK2 => ?_); simp [*]; try ((refine Br.intro (fun hc => ?_) (fun hc => ?_)) <;> (try simp at hc)))
          | (with_reducible refine Cont.go (by assumption) _ ?_)
          | (with_reducible refine Cnt.go (by assumption) ?_))
        all_goals (refine j1 _ ⟨?_, ?_, ?_, ?_, ?_, ?_, ?_⟩ <;> simp [*, encC_eq])
    clear hl'
    rintro σ ⟨b1, b2, b3, m3, b6, ⟨c0, c1, c2, c3, c4, m6⟩, b9⟩
    refine h1 σ ?_
    clear h1
    rw [encC_eq] at m3
    repeat' (first
      | (with_reducible refine T.sq fun K hK => ?_)
      | ((first | ((with_reducible refine T.reg hE ?hd ?_); (case hd => kernel_rfl)) | ((with_reducible refine T.any hE mixed ?hd ?hok ?_); (case hd => kernel_rfl); (case hok => kernel_rfl))); simp [*]; (repeat' (split; all_goals (rename_i hc; try simp [*]))))
      | ((with_reducible refine T.ret ?_); refine fin_pure ?_; simp [*]; try (change Hold _))
      | (with_reducible refine T.block ?_)
      | ((with_reducible refine T.skip ?_); simp [*])
      | ((with_reducible refine T.exit ?_); simp [*])
      | ((with_reducible refine T.br fun K1 K2 hK1 hK2 => ?_); simp [*]; try ((refine Br.intro (fun hc => ?_) (fun hc => ?_)) <;> (try simp at hc)))
      | (with_reducible refine Cont.go (by assumption) _ ?_)
      | (with_reducible refine Cnt.go (by assumption) ?_))
    refine T.loop (fun z σ => ∃ (j n : Nat) (w : V), z = a.kids.length - j ∧ σ.get 1 = .sl (rPair.encL l') .no ∧ σ.get 2 = .int .i64 room ∧ σ.get 3 = .ptr (0 :: 5 :: q) 0 ∧ σ.M (0 :: 5 :: q) = some (.cells (encC a)) ∧ σ.get 6 = .ptr (0 :: 8 :: q) 0 ∧ (∃ c0 c1 c2 c3 c4, σ.M (0 :: 8 :: q) = some (.cells [c0, c1, c2, c3, c4])) ∧ σ.get 9 = .ptr (0 :: 11 :: q) 0 ∧ σ.M (0 :: 11 :: q) = some (.cells [.int .i64 a.k, .int .i64 a.i, w]) ∧ σ.get 10 = .int .i64 (n : Nat) ∧ σ.get 54 = .sl (encL a.kids) .no ∧ σ.get 55 = .int .i64 a.kids.length ∧ σ.get 56 = .int .i64 j ∧ j ≤ a.kids.length ∧ Hold (n = 1 + cntL (psL (lkF l') (a.kids.take j)) ∧ (n : Int) ≤ room) ∧ Hold ((j = 0 ∧ w = .nils) ∨ (0 < j ∧ ∃ id, w = .sl (encL (psL (lkF l') (a.kids.take j))) (.own id 3) ∧ σ.K id = true))) a.kids.length ⟨0, 1, .nils, by simp, by simp [*], by simp [*], by simp [*], by simp [*, encC_eq], by simp [*], ⟨c0, c1, c2, c3, c4, by simp [*]⟩, by simp [*], by simp [*], by simp [*], by simp [*], by simp [*], by simp [*], by omega, ⟨by simp [psL, cntL], by omega⟩, .inl ⟨rfl, rfl⟩⟩ ?_
    clear b1 b2 b3 m3 b6 m6 b9
    rintro z σ ⟨j, n, w, rfl, b1, b2, b3, m3, b6, ⟨c0, c1, c2, c3, c4, m6⟩, b9, m9, b10, g1, g2, g3, g4, ⟨g5, g6⟩, g7⟩
    rw [encC_eq] at m3
    by_cases hj : j < a.kids.length
    · have hw : IntKind.i64.wrap ((j : Int) + 1) = (j : Int) + 1 := wrap64 (by omega) (by omega)
      have hw1 : IntKind.i64.wrap 1 = 1 := wrap64 (by omega) (by omega)
      have hs2 := ex_kid_lt a j hj
      have hwr : IntKind.i64.wrap (room - (n : Int)) = room - n := wrap64 (by omega) (by omega)
      have hck := cntE_kid (e := a) j hj
      have hok : okWe a.kids[j] l' (room - (n : Int)) := ⟨allX_kid ha j hj, by omega, hll', hlp', by omega, by omega⟩
      obtain ⟨hp1, hp2⟩ := cntL_psL (lkF l') a.kids j hj
      by_cases c5 : (cntE (psF (lkF l') a.kids[j]) : Int) ≤ room - n
      · have hwi := wi_good c5
        have hwn : IntKind.i64.wrap ((n : Int) + (cntE (psF (lkF l') a.kids[j]) : Nat)) = ((n + cntE (psF (lkF l') a.kids[j]) : Nat) : Int) := by rw [wrap64 (by omega) (by omega)]; omega
        have hn2 : Hold (n + cntE (psF (lkF l') a.kids[j]) = 1 + cntL (psL (lkF l') (a.kids.take (j + 1))) ∧ ((n + cntE (psF (lkF l') a.kids[j]) : Nat) : Int) ≤ room) := ⟨by omega, by omega⟩
        have ht := psL_take (lkF l') a.kids j hj
        have ht2 : Hold (encL (psL (lkF l') (a.kids.take (j + 1))) = encL (psL (lkF l') (a.kids.take j)) ++ [[.int .i64 (psF (lkF l') a.kids[j]).k, .int .i64 (psF (lkF l') a.kids[j]).i, .sl (encL (psF (lkF l') a.kids[j]).kids) .no]]) := by unfold Hold; rw [ht, encL_snoc]
        have hl2 : (psL (lkF l') (a.kids.take j)).length = j := by rw [psL_len, List.length_take]; omega
        have u1 : (j + 1) * 40 ≤ 140737488355328 := by omega
        clear ht hp1 hp2 g5 g6 hck
        generalize hNN : n + cntE (psF (lkF l') a.kids[j]) = NN at *
        rcases g7 with ⟨rfl, rfl⟩ | ⟨hj0, id, rfl, hK⟩
        · have ht3 : Hold (encL (psL (lkF l') (a.kids.take (0 + 1))) = [[.int .i64 (psF (lkF l') a.kids[0]).k, .int .i64 (psF (lkF l') a.kids[0]).i, .sl (encL (psF (lkF l') a.kids[0]).kids) .no]]) := by
            unfold Hold at *; rw [ht2, List.take_zero, psL, encL_nil, List.nil_append]
          clear ht2 hNN
          repeat' (first
            | (with_reducible refine T.sq fun K hK => ?_)
            | ((first | ((with_reducible refine T.reg hE ?hd ?_); (case hd => kernel_rfl)) | ((with_reducible refine T.any hE mixed ?hd ?hok ?_); (case hd => kernel_rfl); (case hok => kernel_rfl))); simp [*]; (repeat' (split; all_goals (rename_i hc; try simp [*]))))
            | ((with_reducible refine T.ret ?_); refine fin_pure ?_; simp [*]; try (change Hold _))
            | (with_reducible refine T.block ?_)
            | ((with_reducible refine T.skip ?_); simp [*])
            | ((with_reducible refine T.exit ?_); simp [*])
            | ((with_reducible refine T.br fun K1 K2 hK1 hK2 => ?_); simp [*]; try ((refine Br.intro (fun hc => ?_) (fun hc => ?_)) <;> (try simp at hc)))
            | (with_reducible refine Cont.go (by assumption) _ ?_)
            | (with_reducible refine Cnt.go (by assumption) ?_))
          unfold Hold at *
          exact ⟨a.kids.length - 1, by omega, 1, rfl, by simp [encC_eq], NN, rfl, by omega, by omega, hn2, by omega, _, ⟨ht3.symm, rfl⟩, .inl rfl⟩
        · have hl3 : (∀ el : List V, el ∈ encL (psL (lkF l') (a.kids.take j)) → el.length = 3) = True := eq_true (encL_len3 _)
          clear hNN
          repeat' (first
            | (with_reducible refine T.sq fun K hK => ?_)
            | ((first | ((with_reducible refine T.reg hE ?hd ?_); (case hd => kernel_rfl)) | ((with_reducible refine T.any hE mixed ?hd ?hok ?_); (case hd => kernel_rfl); (case hok => kernel_rfl))); simp [*]; (repeat' (split; all_goals (rename_i hc; try simp [*]))))
            | ((with_reducible refine T.ret ?_); refine fin_pure ?_; simp [*]; try (change Hold _))
            | (with_reducible refine T.block ?_)
            | ((with_reducible refine T.skip ?_); simp [*])
            | ((with_reducible refine T.exit ?_); simp [*])
            | ((with_reducible refine T.br fun K1 K2 hK1 hK2 => ?_); simp [*]; try ((refine Br.intro (fun hc => ?_) (fun hc => ?_)) <;> (try simp at hc)))
            | (with_reducible refine Cont.go (by assumption) _ ?_)
            | (with_reducible refine Cnt.go (by assumption) ?_))
          unfold Hold at *
          exact ⟨a.kids.length - (j + 1), by omega, j + 1, rfl, by simp [encC_eq], NN, rfl, by omega, by omega, hn2, by omega, _, ⟨ht2.symm, rfl⟩, .inl rfl⟩
      · have hwi := wi_bad c5
        have hn : Hold (wiV (psF (lkF l) a) room = _) := wi_bad (by unfold Hold at hcz; rw [hcz]; omega)
        clear hp1 hp2 g5 g6 hck
        repeat' (first
          | (with_reducible refine T.sq fun K hK => ?_)
          | ((first | ((with_reducible refine T.reg hE ?hd ?_); (case hd => kernel_rfl)) | ((with_reducible refine T.any hE mixed ?hd ?hok ?_); (case hd => kernel_rfl); (case hok => kernel_rfl))); simp [*]; (repeat' (split; all_goals (rename_i hc; try simp [*]))))
          | ((with_reducible refine T.ret ?_); refine fin_pure ?_; simp [*]; try (change Hold _))
          | (with_reducible refine T.block ?_)
          | ((with_reducible refine T.skip ?_); simp [*])
          | ((with_reducible refine T.exit ?_); simp [*])
          | ((with_reducible refine T.br fun K1 K2 hK1 hK2 => ?_); simp [*]; try ((refine Br.intro (fun hc => ?_) (fun hc => ?_)) <;> (try simp at hc)))
          | (with_reducible refine Cont.go (by assumption) _ ?_)
          | (with_reducible refine Cnt.go (by assumption) ?_))
        all_goals (unfold Hold at *; rw [hn])
    · have w8 : j = a.kids.length := by omega
      subst w8
      rw [List.take_length] at g5
      have hcn : Hold (wiV (psF (lkF l) a) room = .agg [.bool true, .int .i64 a.k, .int .i64 a.i, .sl (encL (psL (lkF l') a.kids)) .no, .int .i64 (n : Nat)]) := by
        unfold Hold at *
        rw [wi_good (by rw [hcz]; omega), hcz, hz]
        simp; omega
      clear g5 g6 hcz hz
      rcases g7 with ⟨h0, rfl⟩ | ⟨hj0, id, rfl, hK⟩
      · have hn : a.kids = [] := List.eq_nil_of_length_eq_zero h0
        have hcn2 : Hold (wiV (psF (lkF l) a) room = .agg [.bool true, .int .i64 a.k, .int .i64 a.i, .sl [] .no, .int .i64 (n : Nat)]) := by unfold Hold at *; rw [hcn, hn, psL]; rfl
        clear hcn
        repeat' (first
          | (with_reducible refine T.sq fun K hK => ?_)
          | ((first | ((with_reducible refine T.reg hE ?hd ?_); (case hd => kernel_rfl)) | ((with_reducible refine T.any hE mixed ?hd ?hok ?_); (case hd => kernel_rfl); (case hok => kernel_rfl))); simp [*]; (repeat' (split; all_goals (rename_i hc; try simp [*]))))
          | ((with_reducible refine T.ret ?_); refine fin_pure ?_; simp [*]; try (change Hold _))
          | (with_reducible refine T.block ?_)
          | ((with_reducible refine T.skip ?_); simp [*])
          | ((with_reducible refine T.exit ?_); simp [*])
          | ((with_reducible refine T.br fun K1 K2 hK1 hK2 => ?_); simp [*]; try ((refine Br.intro (fun hc => ?_) (fun hc => ?_)) <;> (try simp at hc)))
          | (with_reducible refine Cont.go (by assumption) _ ?_)
          | (with_reducible refine Cnt.go (by assumption) ?_))
        all_goals (unfold Hold at *; rw [hcn2])
      · rw [List.take_length] at m9
        repeat' (first
          | (with_reducible refine T.sq fun K hK => ?_)
          | ((first | ((with_reducible refine T.reg hE ?hd ?_); (case hd => kernel_rfl)) | ((with_reducible refine T.any hE mixed ?hd ?hok ?_); (case hd => kernel_rfl); (case hok => kernel_rfl))); simp [*]; (repeat' (split; all_goals (rename_i hc; try simp [*]))))
          | ((with_reducible refine T.ret ?_); refine fin_pure ?_; simp [*]; try (change Hold _))
          | (with_reducible refine T.block ?_)
          | ((with_reducible refine T.skip ?_); simp [*])
          | ((with_reducible refine T.exit ?_); simp [*])
          | ((with_reducible refine T.br fun K1 K2 hK1 hK2 => ?_); simp [*]; try ((refine Br.intro (fun hc => ?_) (fun hc => ?_)) <;> (try simp at hc)))
          | (with_reducible refine Cont.go (by assumption) _ ?_)
          | (with_reducible refine Cnt.go (by assumption) ?_))
        all_goals (unfold Hold at *; rw [hcn])
  · cases hr

def dupI (l : List (Int × Ex)) (j : Nat) : Prop := ∀ i, ∀ h : i < l.length, i < j → 0 ≤ l[i].1 ∧ l[i].1 ≤ 63 ∧ ¬ ∃ q ∈ l.take i, q.1 = l[i].1
theorem vars_iff (l : List (Int × Ex)) : ∀ j, j ≤ l.length → (VarsP (l.take j) ↔ dupI l j)
  | 0, _ => ⟨fun _ i _ h => absurd h (by omega), fun _ => ⟨fun p hp => by simp at hp, by simp⟩⟩
  | j + 1, hj => by
    rw [take_snoc l j (by omega), vars_snoc, vars_iff l j (by omega)]
    constructor
    · rintro ⟨h1, h2, h3⟩ i hi hlt
      by_cases c : i < j
      · exact h1 i hi c
      · obtain rfl : i = j := by omega
        exact ⟨h2.1, h2.2, h3⟩
    · intro h
      have := h j (by omega) (by omega)
      exact ⟨fun i hi hlt => h i hi (by omega), ⟨this.1, this.2.1⟩, this.2.2⟩
theorem nodup_len : ∀ (n : Nat) (l : List Nat), l.Nodup → (∀ x ∈ l, x < n) → l.length ≤ n
  | 0, l, _, h => by
    cases l with
    | nil => simp
    | cons x l => exact absurd (h x (by simp)) (by omega)
  | n + 1, l, h1, h => by
    have := nodup_len n (l.erase n) (h1.erase n) fun x hx => by
      have := h x (List.mem_of_mem_erase hx)
      have := (List.Nodup.mem_erase_iff h1).1 hx
      omega
    by_cases c : n ∈ l
    · rw [List.length_erase_of_mem c] at this; omega
    · rw [List.erase_of_not_mem c] at this; omega
theorem vars_len {l : List (Int × Ex)} (h : VarsP l) : l.length ≤ 64 := by
  have h2 : ((l.map (·.1)).map Int.toNat).Nodup := by
    have : ∀ m : List Int, m.Nodup → (∀ x ∈ m, 0 ≤ x) → (m.map Int.toNat).Nodup := by
      intro m
      induction m with
      | nil => intro _ _; simp
      | cons x m ih =>
        intro h1 h2
        rw [List.nodup_cons] at h1
        rw [List.map_cons, List.nodup_cons]
        refine ⟨fun hx => ?_, ih h1.2 fun y hy => h2 y (by simp [hy])⟩
        obtain ⟨y, hy, e⟩ := List.mem_map.1 hx
        have := h2 x (by simp); have := h2 y (by simp [hy])
        exact h1.1 ((by omega : x = y) ▸ hy)
    refine this _ h.2 fun x hx => ?_
    obtain ⟨p, hp, rfl⟩ := List.mem_map.1 hx
    exact (h.1 p hp).1
  have h3 : ((l.map (·.1)).map Int.toNat) ⊆ List.range 64 := fun x hx => by
    obtain ⟨y, hy, rfl⟩ := List.mem_map.1 hx
    obtain ⟨p, hp, rfl⟩ := List.mem_map.1 hy
    have := h.1 p hp
    rw [List.mem_range]; omega
  have := nodup_len 64 _ h2 fun x hx => List.mem_range.1 (h3 hx)
  simpa using this
@[simp] noncomputable def gAskedEach : List V → Option V := f2 kE (kRs rPair) fun a l => some (.int .i64 (eachErr a l))
set_option maxHeartbeats 4000000 in
theorem ok_rAskedEach : PureOk Try.prog 51 gAskedEach := by
  intro args r h
  obtain ⟨a, l, rfl, ⟨⟩⟩ := f2_inv h; clear h
  have hE := (((EnvOk.nil (P := Try.prog) (eq := fun _ => false) (own := fun _ => false) (mem := fun _ => false) EqOk.none).addf ok_rRight).addf ok_rTerm)
  refine ⟨⟨Try.f51, Try.func51, by decide, rfl⟩, pure_of_T Try.func51 rfl (by simp [Try.ntmps51]) fun q => ?_⟩
  refine T.len (t := 1) (els := rPair.encL l) (tk := .no) (by simp [*]) fun hlen => ?_
  rw [Rw.encL_length] at hlen
  repeat' (first
    | (with_reducible refine T.sq fun K hK => ?_)
    | ((first | ((with_reducible refine T.reg hE ?hd ?_); (case hd => kernel_rfl)) | ((with_reducible refine T.any hE mixed ?hd ?hok ?_); (case hd => kernel_rfl); (case hok => kernel_rfl))); simp [*]; (repeat' (split; all_goals (rename_i hc; try simp [*]))))
    | ((with_reducible refine T.ret ?_); refine fin_pure ?_; simp [*]; try (change Hold _))
    | (with_reducible refine T.block ?_)
    | ((with_reducible refine T.skip ?_); simp [*])
    | ((with_reducible refine T.exit ?_); simp [*])
    | ((with_reducible refine T.br fun K1 K2 hK1 hK2 => ?_); simp [*]; try ((refine Br.intro (fun hc => ?_) (fun hc => ?_)) <;> (try simp at hc)))
    | (with_reducible refine Cont.go (by assumption) _ ?_)
    | (with_reducible refine Cnt.go (by assumption) ?_))
  refine T.loop (fun n σ => ∃ j : Nat, n = l.length - j ∧ σ.get 1 = .sl (rPair.encL l) .no ∧ σ.get 2 = .ptr (0 :: 4 :: q) 0 ∧ σ.M (0 :: 4 :: q) = some (.cells (encC a)) ∧ σ.get 12 = .sl (rPair.encL l) .no ∧ σ.get 13 = .int .i64 l.length ∧ σ.get 14 = .int .i64 j ∧ j ≤ l.length ∧ Hold (dupI l j)) l.length ⟨0, by simp, by simp [*], by simp [*], by simp [*, encC_eq], by simp [*], by simp [*], by simp [*], by omega, fun i _ h => absurd h (by omega)⟩ ?_
  rintro n σ ⟨j, rfl, g1, g2, m1, g4, g5, g6, g7, g8⟩
  rw [encC_eq] at m1
  by_cases hj : j < l.length
  · have hw : IntKind.i64.wrap ((j : Int) + 1) = (j : Int) + 1 := wrap64 (by omega) (by omega)
    have bad : ¬ dupI l (j + 1) → Hold (eachErr a l = 1) := fun h => by unfold Hold eachErr; rw [if_neg (fun hv => h ((vars_iff l (j + 1) (by omega)).1 (vars_take hv _)))]
    by_cases c1 : l[j].1 < 0
    · have he := bad (fun h => by have := h j hj (by omega); omega)
      clear bad
      repeat' (first
        | (with_reducible refine T.sq fun K hK => ?_)
        | ((first | ((with_reducible refine T.reg hE ?hd ?_); (case hd => kernel_rfl)) | ((with_reducible refine T.any hE mixed ?hd ?hok ?_); (case hd => kernel_rfl); (case hok => kernel_rfl))); simp [*]; (repeat' (split; all_goals (rename_i hc; try simp [*]))))
        | ((with_reducible refine T.ret ?_); refine fin_pure ?_; simp [*]; try (change Hold _))
        | (with_reducible refine T.block ?_)
        | ((with_reducible refine T.skip ?_); simp [*])
        | ((with_reducible refine T.exit ?_); simp [*])
        | ((with_reducible refine T.br fun K1 K2 hK1 hK2 => ?_); simp [*]; try ((refine Br.intro (fun hc => ?_) (fun hc => ?_)) <;> (try simp at hc)))
        | (with_reducible refine Cont.go (by assumption) _ ?_)
        | (with_reducible refine Cnt.go (by assumption) ?_))
      all_goals (unfold Hold at *; rw [he])
    by_cases c2 : 63 < l[j].1
    · have he := bad (fun h => by have := h j hj (by omega); omega)
      clear bad
      repeat' (first
        | (with_reducible refine T.sq fun K hK => ?_)
        | ((first | ((with_reducible refine T.reg hE ?hd ?_); (case hd => kernel_rfl)) | ((with_reducible refine T.any hE mixed ?hd ?hok ?_); (case hd => kernel_rfl); (case hok => kernel_rfl))); simp [*]; (repeat' (split; all_goals (rename_i hc; try simp [*]))))
        | ((with_reducible refine T.ret ?_); refine fin_pure ?_; simp [*]; try (change Hold _))
        | (with_reducible refine T.block ?_)
        | ((with_reducible refine T.skip ?_); simp [*])
        | ((with_reducible refine T.exit ?_); simp [*])
        | ((with_reducible refine T.br fun K1 K2 hK1 hK2 => ?_); simp [*]; try ((refine Br.intro (fun hc => ?_) (fun hc => ?_)) <;> (try simp at hc)))
        | (with_reducible refine Cont.go (by assumption) _ ?_)
        | (with_reducible refine Cnt.go (by assumption) ?_))
      all_goals (unfold Hold at *; rw [he])
    repeat' (first
      | (with_reducible refine T.sq fun K hK => ?_)
      | ((first | ((with_reducible refine T.reg hE ?hd ?_); (case hd => kernel_rfl)) | ((with_reducible refine T.any hE mixed ?hd ?hok ?_); (case hd => kernel_rfl); (case hok => kernel_rfl))); simp [*]; (repeat' (split; all_goals (rename_i hc; try simp [*]))))
      | ((with_reducible refine T.ret ?_); refine fin_pure ?_; simp [*]; try (change Hold _))
      | (with_reducible refine T.block ?_)
      | ((with_reducible refine T.skip ?_); simp [*])
      | ((with_reducible refine T.exit ?_); simp [*])
      | ((with_reducible refine T.br fun K1 K2 hK1 hK2 => ?_); simp [*]; try ((refine Br.intro (fun hc => ?_) (fun hc => ?_)) <;> (try simp at hc)))
      | (with_reducible refine Cont.go (by assumption) _ ?_)
      | (with_reducible refine Cnt.go (by assumption) ?_))
    refine T.loop (fun n σ => ∃ i : Nat, n = j - i ∧ σ.get 1 = .sl (rPair.encL l) .no ∧ σ.get 2 = .ptr (0 :: 4 :: q) 0 ∧ σ.M (0 :: 4 :: q) = some (.cells (encC a)) ∧ σ.get 12 = .sl (rPair.encL l) .no ∧ σ.get 13 = .int .i64 l.length ∧ σ.get 14 = .int .i64 j ∧ σ.get 5 = .int .i64 j ∧ σ.get 7 = .int .i64 i ∧ (∃ id, σ.get 6 = .ptr id 0 ∧ σ.M id = some (.cells [.int .i64 l[j].1, .int .i64 l[j].2.k, .int .i64 l[j].2.i, .sl (encL l[j].2.kids) .no])) ∧ i ≤ j ∧ Hold (¬ ∃ q ∈ l.take i, q.1 = l[j].1)) j ⟨0, by simp, by simp [*], by simp [*], by simp [*, encC_eq], by simp [*], by simp [*], by simp [*], by simp [*], by simp [*], ⟨σ.cnt 8 :: 8 :: q, by simp [*], by simp [*]⟩, by omega, by unfold Hold; simp⟩ ?_
    clear g1 g2 m1 g4 g5 g6
    rintro n σ ⟨i, rfl, g1, g2, m1, g4, g5, g6, g9, g10, ⟨id, g11, m11⟩, g12, g13⟩
    rw [encC_eq] at m1
    by_cases hi : i < j
    · have hw2 : IntKind.i64.wrap ((i : Int) + 1) = (i : Int) + 1 := wrap64 (by omega) (by omega)
      have hil : i < l.length := by omega
      by_cases c3 : l[i].1 = l[j].1
      · have he := bad (fun h => (h j hj (by omega)).2.2 ⟨l[i], by rw [List.mem_take_iff_getElem]; exact ⟨i, by omega, rfl⟩, c3⟩)
        clear bad g8 g13
        repeat' (first
          | (with_reducible refine T.sq fun K hK => ?_)
          | ((first | ((with_reducible refine T.reg hE ?hd ?_); (case hd => kernel_rfl)) | ((with_reducible refine T.any hE mixed ?hd ?hok ?_); (case hd => kernel_rfl); (case hok => kernel_rfl))); simp [*]; (repeat' (split; all_goals (rename_i hc; try simp [*]))))
          | ((with_reducible refine T.ret ?_); refine fin_pure ?_; simp [*]; try (change Hold _))
          | (with_reducible refine T.block ?_)
          | ((with_reducible refine T.skip ?_); simp [*])
          | ((with_reducible refine T.exit ?_); simp [*])
          | ((with_reducible refine T.br fun K1 K2 hK1 hK2 => ?_); simp [*]; try ((refine Br.intro (fun hc => ?_) (fun hc => ?_)) <;> (try simp at hc)))
          | (with_reducible refine Cont.go (by assumption) _ ?_)
          | (with_reducible refine Cnt.go (by assumption) ?_))
        all_goals (unfold Hold at *; rw [he])
      · have hn : Hold (¬ ∃ q ∈ l.take (i + 1), q.1 = l[j].1) := by
          unfold Hold at *
          rintro ⟨p, hp, e⟩
          rw [take_snoc l i hil, List.mem_append] at hp
          rcases hp with hp | hp
          · exact g13 ⟨p, hp, e⟩
          · obtain rfl : p = l[i] := by simpa using hp
            exact c3 e
        clear bad g8 g13
        repeat' (first
          | (with_reducible refine T.sq fun K hK => ?_)
          | ((first | ((with_reducible refine T.reg hE ?hd ?_); (case hd => kernel_rfl)) | ((with_reducible refine T.any hE mixed ?hd ?hok ?_); (case hd => kernel_rfl); (case hok => kernel_rfl))); simp [*]; (repeat' (split; all_goals (rename_i hc; try simp [*]))))
          | ((with_reducible refine T.ret ?_); refine fin_pure ?_; simp [*]; try (change Hold _))
          | (with_reducible refine T.block ?_)
          | ((with_reducible refine T.skip ?_); simp [*])
          | ((with_reducible refine T.exit ?_); simp [*])
          | ((with_reducible refine T.br fun K1 K2 hK1 hK2 => ?_); simp [*]; try ((refine Br.intro (fun hc => ?_) (fun hc => ?_)) <;> (try simp at hc)))
          | (with_reducible refine Cont.go (by assumption) _ ?_)
          | (with_reducible refine Cnt.go (by assumption) ?_))
        exact ⟨_, by omega, i + 1, rfl, by simp [encC_eq], by omega, by omega, fun x hx => hn ⟨_, hx, rfl⟩⟩
    · have w8 : i = j := by omega
      subst w8
      have hn : Hold (dupI l (i + 1)) := fun k hk hlt => by
        by_cases c : k < i
        · exact g8 k hk c
        · obtain rfl : k = i := by omega
          exact ⟨by omega, by omega, g13⟩
      clear bad g8 g13
      repeat' (first
        | (with_reducible refine T.sq fun K hK => ?_)
        | ((first | ((with_reducible refine T.reg hE ?hd ?_); (case hd => kernel_rfl)) | ((with_reducible refine T.any hE mixed ?hd ?hok ?_); (case hd => kernel_rfl); (case hok => kernel_rfl))); simp [*]; (repeat' (split; all_goals (rename_i hc; try simp [*]))))
        | ((with_reducible refine T.ret ?_); refine fin_pure ?_; simp [*]; try (change Hold _))
        | (with_reducible refine T.block ?_)
        | ((with_reducible refine T.skip ?_); simp [*])
        | ((with_reducible refine T.exit ?_); simp [*])
        | ((with_reducible refine T.br fun K1 K2 hK1 hK2 => ?_); simp [*]; try ((refine Br.intro (fun hc => ?_) (fun hc => ?_)) <;> (try simp at hc)))
        | (with_reducible refine Cont.go (by assumption) _ ?_)
        | (with_reducible refine Cnt.go (by assumption) ?_))
      exact ⟨_, by omega, i + 1, rfl, by simp [encC_eq], by omega, by omega, hn⟩
  · have w8 : j = l.length := by omega
    have hv : VarsP l := by
      unfold Hold at g8
      rw [w8] at g8
      have := (vars_iff l l.length (Nat.le_refl _)).2 g8
      rwa [List.take_length] at this
    have he0 : Hold (eachErr a l = if rightE a ≠ 0 then rightE a else if firstBad (sndL l) ≠ 0 then firstBad (sndL l) else if allT (sndL l) = true then 0 else 40) := by unfold Hold eachErr; rw [if_pos hv]
    clear hv g8
    by_cases v1 : rightE a = 0
    rotate_left
    · have he : Hold (eachErr a l = rightE a) := by unfold Hold at *; rw [he0, if_pos v1]
      repeat' (first
        | (with_reducible refine T.sq fun K hK => ?_)
        | ((first | ((with_reducible refine T.reg hE ?hd ?_); (case hd => kernel_rfl)) | ((with_reducible refine T.any hE mixed ?hd ?hok ?_); (case hd => kernel_rfl); (case hok => kernel_rfl))); simp [*]; (repeat' (split; all_goals (rename_i hc; try simp [*]))))
        | ((with_reducible refine T.ret ?_); refine fin_pure ?_; simp [*]; try (change Hold _))
        | (with_reducible refine T.block ?_)
        | ((with_reducible refine T.skip ?_); simp [*])
        | ((with_reducible refine T.exit ?_); simp [*])
        | ((with_reducible refine T.br fun K1 K2 hK1 hK2 => ?_); simp [*]; try ((refine Br.intro (fun hc => ?_) (fun hc => ?_)) <;> (try simp at hc)))
        | (with_reducible refine Cont.go (by assumption) _ ?_)
        | (with_reducible refine Cnt.go (by assumption) ?_))
      all_goals (unfold Hold at *; rw [he])
    have he1 : Hold (eachErr a l = if firstBad (sndL l) ≠ 0 then firstBad (sndL l) else if allT (sndL l) = true then 0 else 40) := by unfold Hold at *; rw [he0, if_neg (by omega)]
    clear he0
    repeat' (first
      | (with_reducible refine T.sq fun K hK => ?_)
      | ((first | ((with_reducible refine T.reg hE ?hd ?_); (case hd => kernel_rfl)) | ((with_reducible refine T.any hE mixed ?hd ?hok ?_); (case hd => kernel_rfl); (case hok => kernel_rfl))); simp [*]; (repeat' (split; all_goals (rename_i hc; try simp [*]))))
      | ((with_reducible refine T.ret ?_); refine fin_pure ?_; simp [*]; try (change Hold _))
      | (with_reducible refine T.block ?_)
      | ((with_reducible refine T.skip ?_); simp [*])
      | ((with_reducible refine T.exit ?_); simp [*])
      | ((with_reducible refine T.br fun K1 K2 hK1 hK2 => ?_); simp [*]; try ((refine Br.intro (fun hc => ?_) (fun hc => ?_)) <;> (try simp at hc)))
      | (with_reducible refine Cont.go (by assumption) _ ?_)
      | (with_reducible refine Cnt.go (by assumption) ?_))
    refine T.loop (fun n σ => ∃ j : Nat, n = l.length - j ∧ σ.get 1 = .sl (rPair.encL l) .no ∧ σ.get 46 = .sl (rPair.encL l) .no ∧ σ.get 47 = .int .i64 l.length ∧ σ.get 48 = .int .i64 j ∧ j ≤ l.length ∧ Hold (firstBad (sndL l) = firstBad (sndL (l.drop j)))) l.length ⟨0, by simp, by simp [*], by simp [*], by simp [*], by simp [*], by omega, rfl⟩ ?_
    clear g1 g2 m1 g4 g5 g6 g7 hj w8
    rintro n σ ⟨j, rfl, g1, g5, g6, g7, g8, g9⟩
    by_cases hj : j < l.length
    · have hw : IntKind.i64.wrap ((j : Int) + 1) = (j : Int) + 1 := wrap64 (by omega) (by omega)
      have hd := snd_drop l j hj
      by_cases v : rightE l[j].2 = 0
      · rw [if_neg (by omega)] at hd
        have hn : Hold (firstBad (sndL l) = firstBad (sndL (l.drop (j + 1)))) := by unfold Hold at *; rw [g9, hd]
        clear g9 hd
        repeat' (first
          | (with_reducible refine T.sq fun K hK => ?_)
          | ((first | ((with_reducible refine T.reg hE ?hd ?_); (case hd => kernel_rfl)) | ((with_reducible refine T.any hE mixed ?hd ?hok ?_); (case hd => kernel_rfl); (case hok => kernel_rfl))); simp [*]; (repeat' (split; all_goals (rename_i hc; try simp [*]))))
          | ((with_reducible refine T.ret ?_); refine fin_pure ?_; simp [*]; try (change Hold _))
          | (with_reducible refine T.block ?_)
          | ((with_reducible refine T.skip ?_); simp [*])
          | ((with_reducible refine T.exit ?_); simp [*])
          | ((with_reducible refine T.br fun K1 K2 hK1 hK2 => ?_); simp [*]; try ((refine Br.intro (fun hc => ?_) (fun hc => ?_)) <;> (try simp at hc)))
          | (with_reducible refine Cont.go (by assumption) _ ?_)
          | (with_reducible refine Cnt.go (by assumption) ?_))
        exact ⟨_, by omega, j + 1, rfl, by omega, by omega, hn⟩
      · rw [if_pos v] at hd
        have he : Hold (eachErr a l = rightE l[j].2) := by unfold Hold at *; rw [he1, g9, hd, if_pos v]
        clear g9 hd he1
        repeat' (first
          | (with_reducible refine T.sq fun K hK => ?_)
          | ((first | ((with_reducible refine T.reg hE ?hd ?_); (case hd => kernel_rfl)) | ((with_reducible refine T.any hE mixed ?hd ?hok ?_); (case hd => kernel_rfl); (case hok => kernel_rfl))); simp [*]; (repeat' (split; all_goals (rename_i hc; try simp [*]))))
          | ((with_reducible refine T.ret ?_); refine fin_pure ?_; simp [*]; try (change Hold _))
          | (with_reducible refine T.block ?_)
          | ((with_reducible refine T.skip ?_); simp [*])
          | ((with_reducible refine T.exit ?_); simp [*])
          | ((with_reducible refine T.br fun K1 K2 hK1 hK2 => ?_); simp [*]; try ((refine Br.intro (fun hc => ?_) (fun hc => ?_)) <;> (try simp at hc)))
          | (with_reducible refine Cont.go (by assumption) _ ?_)
          | (with_reducible refine Cnt.go (by assumption) ?_))
        all_goals (unfold Hold at *; rw [he])
    · have w8 : j = l.length := by omega
      have hz : firstBad (sndL l) = 0 := by unfold Hold at g9; rw [g9, w8, List.drop_length]; rfl
      have he2 : Hold (eachErr a l = badT l) := by unfold Hold badT at *; rw [he1, if_neg (by omega)]
      clear g9 he1
      repeat' (first
        | (with_reducible refine T.sq fun K hK => ?_)
        | ((first | ((with_reducible refine T.reg hE ?hd ?_); (case hd => kernel_rfl)) | ((with_reducible refine T.any hE mixed ?hd ?hok ?_); (case hd => kernel_rfl); (case hok => kernel_rfl))); simp [*]; (repeat' (split; all_goals (rename_i hc; try simp [*]))))
        | ((with_reducible refine T.ret ?_); refine fin_pure ?_; simp [*]; try (change Hold _))
        | (with_reducible refine T.block ?_)
        | ((with_reducible refine T.skip ?_); simp [*])
        | ((with_reducible refine T.exit ?_); simp [*])
        | ((with_reducible refine T.br fun K1 K2 hK1 hK2 => ?_); simp [*]; try ((refine Br.intro (fun hc => ?_) (fun hc => ?_)) <;> (try simp at hc)))
        | (with_reducible refine Cont.go (by assumption) _ ?_)
        | (with_reducible refine Cnt.go (by assumption) ?_))
      refine T.loop (fun n σ => ∃ j : Nat, n = l.length - j ∧ σ.get 60 = .sl (rPair.encL l) .no ∧ σ.get 61 = .int .i64 l.length ∧ σ.get 62 = .int .i64 j ∧ j ≤ l.length ∧ Hold (allT (sndL (l.take j)) = true)) l.length ⟨0, by simp, by simp [*], by simp [*], by simp [*], by omega, rfl⟩ ?_
      clear g1 g5 g6 g7 g8 hj w8
      rintro n σ ⟨j, rfl, g5, g6, g7, g8, g9⟩
      by_cases hj : j < l.length
      · have hw : IntKind.i64.wrap ((j : Int) + 1) = (j : Int) + 1 := wrap64 (by omega) (by omega)
        have ht := allT_take l j hj
        have hrt : rightE l[j].2 = 0 := firstBad_all _ hz _ (List.mem_map.2 ⟨l[j], List.getElem_mem hj, rfl⟩)
        by_cases v : isT l[j].2 = true
        · have hn : Hold (allT (sndL (l.take (j + 1))) = true) := by unfold Hold at *; rw [ht, g9, v]; rfl
          clear ht g9
          repeat' (first
            | (with_reducible refine T.sq fun K hK => ?_)
            | ((first | ((with_reducible refine T.reg hE ?hd ?_); (case hd => kernel_rfl)) | ((with_reducible refine T.any hE mixed ?hd ?hok ?_); (case hd => kernel_rfl); (case hok => kernel_rfl))); simp [*]; (repeat' (split; all_goals (rename_i hc; try simp [*]))))
            | ((with_reducible refine T.ret ?_); refine fin_pure ?_; simp [*]; try (change Hold _))
            | (with_reducible refine T.block ?_)
            | ((with_reducible refine T.skip ?_); simp [*])
            | ((with_reducible refine T.exit ?_); simp [*])
            | ((with_reducible refine T.br fun K1 K2 hK1 hK2 => ?_); simp [*]; try ((refine Br.intro (fun hc => ?_) (fun hc => ?_)) <;> (try simp at hc)))
            | (with_reducible refine Cont.go (by assumption) _ ?_)
            | (with_reducible refine Cnt.go (by assumption) ?_))
          exact ⟨_, by omega, j + 1, rfl, by omega, by omega, hn⟩
        · have hn : Hold (eachErr a l = 40) := by
            unfold Hold badT at *
            rw [he2, if_neg]
            intro h
            exact v (List.all_eq_true.1 h _ (List.mem_map.2 ⟨l[j], List.getElem_mem hj, rfl⟩))
          rw [Bool.not_eq_true] at v
          clear ht g9 he2
          repeat' (first
            | (with_reducible refine T.sq fun K hK => ?_)
            | ((first | ((with_reducible refine T.reg hE ?hd ?_); (case hd => kernel_rfl)) | ((with_reducible refine T.any hE mixed ?hd ?hok ?_); (case hd => kernel_rfl); (case hok => kernel_rfl))); simp [*]; (repeat' (split; all_goals (rename_i hc; try simp [*]))))
            | ((with_reducible refine T.ret ?_); refine fin_pure ?_; simp [*]; try (change Hold _))
            | (with_reducible refine T.block ?_)
            | ((with_reducible refine T.skip ?_); simp [*])
            | ((with_reducible refine T.exit ?_); simp [*])
            | ((with_reducible refine T.br fun K1 K2 hK1 hK2 => ?_); simp [*]; try ((refine Br.intro (fun hc => ?_) (fun hc => ?_)) <;> (try simp at hc)))
            | (with_reducible refine Cont.go (by assumption) _ ?_)
            | (with_reducible refine Cnt.go (by assumption) ?_))
          all_goals (unfold Hold at *; rw [hn])
      · have w8 : j = l.length := by omega
        have hn : Hold (eachErr a l = 0) := by
          unfold Hold badT at *
          rw [w8, List.take_length] at g9
          rw [he2, if_pos g9]
        clear g9 he2 hz
        repeat' (first
          | (with_reducible refine T.sq fun K hK => ?_)
          | ((first | ((with_reducible refine T.reg hE ?hd ?_); (case hd => kernel_rfl)) | ((with_reducible refine T.any hE mixed ?hd ?hok ?_); (case hd => kernel_rfl); (case hok => kernel_rfl))); simp [*]; (repeat' (split; all_goals (rename_i hc; try simp [*]))))
          | ((with_reducible refine T.ret ?_); refine fin_pure ?_; simp [*]; try (change Hold _))
          | (with_reducible refine T.block ?_)
          | ((with_reducible refine T.skip ?_); simp [*])
          | ((with_reducible refine T.exit ?_); simp [*])
          | ((with_reducible refine T.br fun K1 K2 hK1 hK2 => ?_); simp [*]; try ((refine Br.intro (fun hc => ?_) (fun hc => ?_)) <;> (try simp at hc)))
          | (with_reducible refine Cont.go (by assumption) _ ?_)
          | (with_reducible refine Cnt.go (by assumption) ?_))
        all_goals (unfold Hold at *; rw [hn])

theorem ea_tup (a : Ex) (l : List (Int × Ex)) : ∃ z n, eaV a l = .tup [enc z, .int .i64 n] := by
  by_cases h : eachErr a l = 0
  · rw [eaV_good h]; exact plV_tup a l
  · exact ⟨_, _, eaV_bad rfl h⟩
theorem ea_cap {a : Ex} {l : List (Int × Ex)} (he : eachErr a l = 0) {j : Nat} (h : j < l.length) (hb : ffB l[j].2 l[j].1 a = false) : eaV a l = .tup [enc ex0, .int .i64 50] := by
  rw [eaV_good he]; unfold plV; rw [ffL_bad h hb]; rfl
theorem ea_fr {a : Ex} {l : List (Int × Ex)} (he : eachErr a l = 0) (h : ffL a l = true) : eaV a l = frV (psF (lkF l) a) := by
  rw [eaV_good he]; unfold plV; rw [h]; rfl
set_option maxHeartbeats 4000000 in
theorem ok_rEach : PureOk Try.prog 25 gEach := by
  intro args r h
  obtain ⟨a, l, rfl, ⟨⟩⟩ := f2_inv h; clear h
  have hE := (((((EnvOk.nil (P := Try.prog) (eq := fun _ => false) (own := fun _ => false) (mem := fun _ => false) EqOk.none).addf ok_rAskedEach).addf ok_rFreeFor).addf ok_rWithinE).addf ok_rLimited)
  refine ⟨⟨Try.f25, Try.func25, by decide, rfl⟩, pure_of_T Try.func25 rfl (by simp [Try.ntmps25]) fun q => ?_⟩
  by_cases v : eachErr a l = 0
  rotate_left
  · have he : Hold (eaV a l = _) := eaV_bad rfl v
    repeat' (first
      | (with_reducible refine T.sq fun K hK => ?_)
      | ((first | ((with_reducible refine T.reg hE ?hd ?_); (case hd => kernel_rfl)) | ((with_reducible refine T.any hE mixed ?hd ?hok ?_); (case hd => kernel_rfl); (case hok => kernel_rfl))); simp [*]; (repeat' (split; all_goals (rename_i hc; try simp [*]))))
      | ((with_reducible refine T.ret ?_); refine fin_pure ?_; simp [*]; try (change Hold _))
      | (with_reducible refine T.block ?_)
      | ((with_reducible refine T.skip ?_); simp [*])
      | ((with_reducible refine T.exit ?_); simp [*])
      | ((with_reducible refine T.br fun K1 K2 hK1 hK2 => ?_); simp [*]; try ((refine Br.intro (fun hc => ?_) (fun hc => ?_)) <;> (try simp at hc)))
      | (with_reducible refine Cont.go (by assumption) _ ?_)
      | (with_reducible refine Cnt.go (by assumption) ?_))
    all_goals (unfold Hold at *; rw [he]; try simp [ex0])
  obtain ⟨w1, w2, w3⟩ := each_ok v
  have hl := vars_len w1
  obtain ⟨a1, a2, a3⟩ := right_zero w2
  rw [nodesN_eq] at a1
  have hok : okWe a l 1000 := ⟨a3, a1, by omega, fun p hp => by
    obtain ⟨x1, x2, x3⟩ := right_zero (w3 p hp).1
    rw [nodesN_eq] at x1
    exact ⟨x3, x1⟩, by omega, by omega⟩
  have hcap : ∀ (j : Nat) (h : j < l.length), ffB l[j].2 l[j].1 a = false → Hold (eaV a l = .tup [enc ex0, .int .i64 50]) := fun j h hb => ea_cap v h hb
  have hfr : ffL a l = true → Hold (eaV a l = frV (psF (lkF l) a)) := ea_fr v
  clear w1 w2 w3
  repeat' (first
    | (with_reducible refine T.sq fun K hK => ?_)
    | ((first | ((with_reducible refine T.reg hE ?hd ?_); (case hd => kernel_rfl)) | ((with_reducible refine T.any hE mixed ?hd ?hok ?_); (case hd => kernel_rfl); (case hok => kernel_rfl))); simp [*]; (repeat' (split; all_goals (rename_i hc; try simp [*]))))
    | ((with_reducible refine T.ret ?_); refine fin_pure ?_; simp [*]; try (change Hold _))
    | (with_reducible refine T.block ?_)
    | ((with_reducible refine T.skip ?_); simp [*])
    | ((with_reducible refine T.exit ?_); simp [*])
    | ((with_reducible refine T.br fun K1 K2 hK1 hK2 => ?_); simp [*]; try ((refine Br.intro (fun hc => ?_) (fun hc => ?_)) <;> (try simp at hc)))
    | (with_reducible refine Cont.go (by assumption) _ ?_)
    | (with_reducible refine Cnt.go (by assumption) ?_))
  refine T.loop (fun n σ => ∃ j : Nat, n = l.length - j ∧ σ.get 1 = .sl (rPair.encL l) .no ∧ σ.get 2 = .ptr (0 :: 4 :: q) 0 ∧ σ.M (0 :: 4 :: q) = some (.cells (encC a)) ∧ σ.get 4 = .ptr (0 :: 6 :: q) 0 ∧ (∃ c0 c1 c2, σ.M (0 :: 6 :: q) = some (.cells [c0, c1, c2])) ∧ σ.get 18 = .sl (rPair.encL l) .no ∧ σ.get 19 = .int .i64 l.length ∧ σ.get 20 = .int .i64 j ∧ j ≤ l.length ∧ Hold (ffL a (l.take j) = true)) l.length ⟨0, by simp, by simp [*], by simp [*], by simp [*, encC_eq], by simp [*], by simp [*], by simp [*], by simp [*], by simp [*], by omega, rfl⟩ ?_
  rintro n σ ⟨j, rfl, g1, g2, m1, g3, ⟨c0, c1, c2, m2⟩, g4, g5, g6, g7, g9⟩
  rw [encC_eq] at m1
  by_cases hj : j < l.length
  · have hw : IntKind.i64.wrap ((j : Int) + 1) = (j : Int) + 1 := wrap64 (by omega) (by omega)
    have ht := ffL_take a l j hj
    by_cases c : ffB l[j].2 l[j].1 a = true
    · have hn : Hold (ffL a (l.take (j + 1)) = true) := by unfold Hold at *; rw [ht, g9, c]; rfl
      clear ht hcap hfr
      repeat' (first
        | (with_reducible refine T.sq fun K hK => ?_)
        | ((first | ((with_reducible refine T.reg hE ?hd ?_); (case hd => kernel_rfl)) | ((with_reducible refine T.any hE mixed ?hd ?hok ?_); (case hd => kernel_rfl); (case hok => kernel_rfl))); simp [*]; (repeat' (split; all_goals (rename_i hc; try simp [*]))))
        | ((with_reducible refine T.ret ?_); refine fin_pure ?_; simp [*]; try (change Hold _))
        | (with_reducible refine T.block ?_)
        | ((with_reducible refine T.skip ?_); simp [*])
        | ((with_reducible refine T.exit ?_); simp [*])
        | ((with_reducible refine T.br fun K1 K2 hK1 hK2 => ?_); simp [*]; try ((refine Br.intro (fun hc => ?_) (fun hc => ?_)) <;> (try simp at hc)))
        | (with_reducible refine Cont.go (by assumption) _ ?_)
        | (with_reducible refine Cnt.go (by assumption) ?_))
      exact ⟨_, by omega, j + 1, rfl, by simp [encC_eq], by omega, by omega, hn⟩
    · rw [Bool.not_eq_true] at c
      have hn := hcap j hj c
      clear ht hcap hfr
      repeat' (first
        | (with_reducible refine T.sq fun K hK => ?_)
        | ((first | ((with_reducible refine T.reg hE ?hd ?_); (case hd => kernel_rfl)) | ((with_reducible refine T.any hE mixed ?hd ?hok ?_); (case hd => kernel_rfl); (case hok => kernel_rfl))); simp [*]; (repeat' (split; all_goals (rename_i hc; try simp [*]))))
        | ((with_reducible refine T.ret ?_); refine fin_pure ?_; simp [*]; try (change Hold _))
        | (with_reducible refine T.block ?_)
        | ((with_reducible refine T.skip ?_); simp [*])
        | ((with_reducible refine T.exit ?_); simp [*])
        | ((with_reducible refine T.br fun K1 K2 hK1 hK2 => ?_); simp [*]; try ((refine Br.intro (fun hc => ?_) (fun hc => ?_)) <;> (try simp at hc)))
        | (with_reducible refine Cont.go (by assumption) _ ?_)
        | (with_reducible refine Cnt.go (by assumption) ?_))
      all_goals (unfold Hold at *; rw [hn]; try simp [ex0])
  · have w8 : j = l.length := by omega
    rw [w8, List.take_length] at g9
    have hf := hfr g9
    clear g9 hcap hfr
    by_cases c : (cntE (psF (lkF l) a) : Int) ≤ 1000
    · have hwi := wi_good c
      by_cases u : rightE (psF (lkF l) a) = 0
      · have hx := frV_good u
        repeat' (first
          | (with_reducible refine T.sq fun K hK => ?_)
          | ((first | ((with_reducible refine T.reg hE ?hd ?_); (case hd => kernel_rfl)) | ((with_reducible refine T.any hE mixed ?hd ?hok ?_); (case hd => kernel_rfl); (case hok => kernel_rfl))); simp [*]; (repeat' (split; all_goals (rename_i hc; try simp [*]))))
          | ((with_reducible refine T.ret ?_); refine fin_pure ?_; simp [*]; try (change Hold _))
          | (with_reducible refine T.block ?_)
          | ((with_reducible refine T.skip ?_); simp [*])
          | ((with_reducible refine T.exit ?_); simp [*])
          | ((with_reducible refine T.br fun K1 K2 hK1 hK2 => ?_); simp [*]; try ((refine Br.intro (fun hc => ?_) (fun hc => ?_)) <;> (try simp at hc)))
          | (with_reducible refine Cont.go (by assumption) _ ?_)
          | (with_reducible refine Cnt.go (by assumption) ?_))
        all_goals (unfold Hold at *; rw [hf, hx]; try simp)
      · have hx := frV_bad rfl u
        repeat' (first
          | (with_reducible refine T.sq fun K hK => ?_)
          | ((first | ((with_reducible refine T.reg hE ?hd ?_); (case hd => kernel_rfl)) | ((with_reducible refine T.any hE mixed ?hd ?hok ?_); (case hd => kernel_rfl); (case hok => kernel_rfl))); simp [*]; (repeat' (split; all_goals (rename_i hc; try simp [*]))))
          | ((with_reducible refine T.ret ?_); refine fin_pure ?_; simp [*]; try (change Hold _))
          | (with_reducible refine T.block ?_)
          | ((with_reducible refine T.skip ?_); simp [*])
          | ((with_reducible refine T.exit ?_); simp [*])
          | ((with_reducible refine T.br fun K1 K2 hK1 hK2 => ?_); simp [*]; try ((refine Br.intro (fun hc => ?_) (fun hc => ?_)) <;> (try simp at hc)))
          | (with_reducible refine Cont.go (by assumption) _ ?_)
          | (with_reducible refine Cnt.go (by assumption) ?_))
        all_goals (unfold Hold at *; rw [hf, hx]; try simp [ex0])
    · have hwi := wi_bad c
      have h20 : rightE (psF (lkF l) a) = 20 := by rw [rightE_eq, nodesN_eq, if_pos (by omega)]
      have hx : Hold (frV (psF (lkF l) a) = _) := frV_bad h20 (by omega)
      have hd0 : decL [] = some [] := decL_nil
      clear h20
      repeat' (first
        | (with_reducible refine T.sq fun K hK => ?_)
        | ((first | ((with_reducible refine T.reg hE ?hd ?_); (case hd => kernel_rfl)) | ((with_reducible refine T.any hE mixed ?hd ?hok ?_); (case hd => kernel_rfl); (case hok => kernel_rfl))); simp [*]; (repeat' (split; all_goals (rename_i hc; try simp [*]))))
        | ((with_reducible refine T.ret ?_); refine fin_pure ?_; simp [*]; try (change Hold _))
        | (with_reducible refine T.block ?_)
        | ((with_reducible refine T.skip ?_); simp [*])
        | ((with_reducible refine T.exit ?_); simp [*])
        | ((with_reducible refine T.br fun K1 K2 hK1 hK2 => ?_); simp [*]; try ((refine Br.intro (fun hc => ?_) (fun hc => ?_)) <;> (try simp at hc)))
        | (with_reducible refine Cont.go (by assumption) _ ?_)
        | (with_reducible refine Cnt.go (by assumption) ?_))
      all_goals (unfold Hold at *; rw [hf, hx]; try simp [ex0])
set_option maxHeartbeats 1000000 in
theorem ok_SubstEachs : PureOk Try.prog 6 (f2 kE (kRs rPair) fun _ _ => some (.bool true)) := by
  intro args r h
  obtain ⟨a, l, rfl, ⟨⟩⟩ := f2_inv h; clear h
  have hE := ((((EnvOk.nil (P := Try.prog) (eq := fun _ => false) (own := fun _ => false) (mem := fun _ => false) EqOk.none).addf ok_Each).addf ok_rEach).addf ok_rLike)
  refine ⟨⟨Try.f6, Try.func6, by decide, rfl⟩, pure_of_T Try.func6 rfl (by simp [Try.ntmps6]) fun q => ?_⟩
  obtain ⟨z, n, hz⟩ := ea_tup a l
  have ho := ordE_self z
  repeat' (first
    | (with_reducible refine T.sq fun K hK => ?_)
    | ((first | ((with_reducible refine T.reg hE ?hd ?_); (case hd => kernel_rfl)) | ((with_reducible refine T.any hE mixed ?hd ?hok ?_); (case hd => kernel_rfl); (case hok => kernel_rfl))); simp [*]; (repeat' (split; all_goals (rename_i hc; try simp [*]))))
    | ((with_reducible refine T.ret ?_); refine fin_pure ?_; simp [*]; try (change Hold _))
    | (with_reducible refine T.block ?_)
    | ((with_reducible refine T.skip ?_); simp [*])
    | ((with_reducible refine T.exit ?_); simp [*])
    | ((with_reducible refine T.br fun K1 K2 hK1 hK2 => ?_); simp [*]; try ((refine Br.intro (fun hc => ?_) (fun hc => ?_)) <;> (try simp at hc)))
    | (with_reducible refine Cont.go (by assumption) _ ?_)
    | (with_reducible refine Cnt.go (by assumption) ?_))
  all_goals (unfold Hold; first | rfl | (simp [*]; done))
end Go.Proofs.Ytdnhgabopdcjoaa.Ax
