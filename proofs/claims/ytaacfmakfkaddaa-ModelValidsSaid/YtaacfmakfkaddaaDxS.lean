/- Contracts: whether a formula holds, by the program: holds. -/
import Derived.Test.YtaacfmakfkaddaaDxR
set_option linter.unusedVariables false
set_option linter.unusedSimpArgs false
namespace Go.Proofs.Ytaacfmakfkaddaa.Ax
open Go Go.Proofs

theorem shaped_idF {e : Ex} (h : allX e = true) : 0 ≤ e.i := by
  rw [allX_eq, Bool.and_eq_true] at h
  have h1 := h.1
  unfold shapedX at h1
  simp only [Bool.and_eq_true, decide_eq_true_eq] at h1
  exact h1.1.1
theorem kinds_F {e : Ex} (h : allX e = true) (ht : isT e = false) : e.k = 3 ∨ e.k = 4 ∨ e.k = 5 ∨ e.k = 6 ∨ e.k = 7 ∨ e.k = 8 ∨ e.k = 9 ∨ e.k = 10 := by
  rw [allX_eq, Bool.and_eq_true] at h
  have h1 := h.1
  unfold shapedX at h1
  simp only [Bool.and_eq_true] at h1
  have h2 := h1.2
  unfold isT at ht
  simp only [Bool.or_eq_false_iff, decide_eq_false_iff_not] at ht
  repeat' split at h2
  all_goals first | omega | (cases h2; done) | skip
theorem kids_eqF {e : Ex} (h : allX e = true) (hk : e.k = 4) : ∃ a b, e.kids = [a, b] := by
  rw [allX_eq, Bool.and_eq_true] at h
  have h1 := h.1
  unfold shapedX kidsAre at h1
  rw [Bool.and_eq_true] at h1
  have h2 := h1.2
  rw [hk] at h2
  simp at h2
  match hl : e.kids, h2 with
  | [a, b], _ => exact ⟨a, b, rfl⟩
  | [], h2 => simp at h2
  | [_], h2 => simp at h2
  | _ :: _ :: _ :: _, h2 => simp at h2; omega
theorem haP_done {n : Nat} {x : Bool × Nat} (h : n + x.2 ≤ 50000) : haP n x = (if x.1 = true then 1 else 0) ∧ min (n + x.2) 50001 = n + x.2 := ⟨by unfold haP; rw [if_pos h], by omega⟩
theorem haP_over {n : Nat} {x : Bool × Nat} (h : ¬ n + x.2 ≤ 50000) : haP n x = 2 ∧ min (n + x.2) 50001 = 50001 := ⟨by unfold haP; rw [if_neg h], by omega⟩
theorem of_env {w : Wo} {env : List Int} (h : envR w env) (l : List Ex) : ∀ a ∈ ofL w env l, 0 ≤ a ∧ a < w.size := fun a ha => by
  rw [ofL_map] at ha
  obtain ⟨e, _, rfl⟩ := List.mem_map.1 ha
  exact of_range h e
set_option maxHeartbeats 8000000 in
theorem ok_holds {w : Wo} {ri : Path} : ∀ N, MemOk Try.prog 10 (mHolds w ri N) := by
  intro N
  induction N with
  | zero =>
    intro q args M K0 z M' K' h
    unfold mHolds at h
    split at h
    · split at h
      · split at h
        · rename_i hok
          exact absurd hok.2.2.2 (by omega)
        · cases h
      · cases h
    · cases h
  | succ N ih =>
    intro q args M K0 z M' K' h
    unfold mHolds at h
    split at h
    · rename_i i ev
      split at h
      · rename_i e cs he hM
        obtain rfl := dec_inv he
        clear he
        split at h
        · rename_i hok
          obtain ⟨⟨⟨rfl, h64, hn, hcs⟩, her⟩, hall, hform, hsz⟩ := hok
          generalize envOf cs = env at *
          generalize wkN cs = n at *
          subst hcs
          simp only [Option.some.injEq, Prod.mk.injEq] at h
          obtain ⟨rfl, rfl, rfl⟩ := h
          refine ⟨⟨Try.f10, Try.func10, by decide, rfl⟩, add_freshL hM, ?_⟩
          have hea := ok_each (w := w) (ri := i) ih
          have hcm := ok_come (w := w) (env := env) (ri := i)
          have htm := ok_terms (w := w) (env := env) (ri := i) (N := N) (ok_term N)
          have hkf := kinds_F hall hform
          have hkx := allX_kids hall
          have hid := shaped_idF hall
          have hkz : ∀ x ∈ e.kids, SizeOf.sizeOf x < N := fun x hx => by
            obtain ⟨k, id, l⟩ := e
            have := List.sizeOf_lt_of_mem hx
            simp only [Ex.mk.sizeOf_spec, Ex.kids_mk] at hsz this
            omega
          have hko : 5 ≤ e.k → ∀ x ∈ e.kids, okF N x := fun h5 x hx => ⟨hkx x hx, kid_sorts hall h5 x hx, hkz x hx⟩
          have htr := trE_eq w e env
          obtain ⟨x, hxx⟩ : ∃ x, trE w e env = x := ⟨_, rfl⟩
          rw [hxx] at htr ⊢
          have hE := ((((((((EnvOk.nil (P := Try.prog) (eq := fun _ => false) (own := fun _ => false) (mem := fun f => f == 10 || f == 27 || f == 23 || f == 24) EqOk.none).addf ok_told).addf ok_turned).addf ok_mValue).addm ih).addm hea).addm hcm).addm htm)
          refine ctr_of_T Try.func10 rfl (by simp [Try.ntmps10]) fun hMq hKq => ?_
          have hq := not_own hMq (id := i) (by rw [hM]; simp)
          have hq2 : ∀ c d, ¬ c :: d :: q = i := fun c d e => hq c d e.symm
          have hok0 : okLo w env i i (lkN w env n) := okLo_mk h64 hn
          have hwk := fun n => wkN_eq (w := w) h64 n
          have hev := fun n => envOf_eq (w := w) h64 n
          have hM2 : ∀ id : Path, M id ≠ none → ∀ c d, ¬ id = c :: d :: q := fun id hid => not_own hMq hid
          have fin : ∀ r : Int, ∀ k : Nat, True := fun _ _ => trivial
          by_cases c0 : n + 1 ≤ 50000
          · have hok1 : okLo w env i i (lkN w env (n + 1)) := okLo_mk h64 c0
            have hok2 : okHd w i i (lkN w env (n + 1)) := okHd_mk her c0
            obtain ⟨k, i0, l⟩ := e
            simp only [Ex.kids_mk, Ex.i_mk, Ex.k_mk] at *
            clear fin
            obtain ⟨rx, hrx⟩ : ∃ r, haP n x = r := ⟨_, rfl⟩
            obtain ⟨kx, hkx2⟩ : ∃ r, min (n + x.2) 50001 = r := ⟨_, rfl⟩
            rw [hrx, hkx2]
            by_cases k3 : k = 3
            · subst k3
              have hl4 := kids_four hall
              simp only [Ex.kids_mk] at hl4
              have hx : x = (atB w 3 i0 (ofL w env l), 1 + cntL l) := by rw [htr]; unfold trK; rw [if_pos (.inl rfl)]
              have hokt : okTs w env i i N l (lkN w env (n + 1)) := ⟨hok1, her, hl4, fun e he => ⟨hkx e he, hkz e he⟩⟩
              clear hkf hko htr hkz hkx
              by_cases c1 : n + 1 + cntL l ≤ 50000
              · have hok : okLook w.preds w.size (ofL w env l) := ⟨(world_of her.1).1, ⟨_, (world_of her.1).2.2⟩, by rw [ofL_len]; exact hl4, of_env her l⟩
                have htv : tvL w env (n + 1) l = ofL w env l := by unfold tvL; rw [if_pos c1]
                obtain ⟨e1, e2⟩ := haP_done (n := n) (x := x) (by rw [hx]; simp only; omega)
                have e3 : min (n + 1 + cntL l) 50001 = kx := by rw [← hkx2, e2, hx]; simp only; omega
                have e4 : rx = if decide (lookV w.preds w.size i0 (ofL w env l) = 1) = true then 1 else 0 := by rw [← hrx, e1, hx]; rfl
                have hll := lk_length (w := w) h64 kx
                have h68a : (2 : Nat) < (lkN w env kx).length := by rw [hll]; omega
                have h68b : (0 : Nat) < (lkN w env kx).length := by rw [hll]; omega
                have hp1 : (lkN w env kx)[2]'h68a = .sl (rTb.encL w.preds) .no := rfl
                have hp0 : (lkN w env kx)[0]'h68b = .int .i64 w.size := rfl
                clear hx hrx hkx2 e1 e2
                by_cases v : lookV w.preds w.size i0 (ofL w env l) = 1
                · obtain rfl : rx = 1 := by rw [e4, v]; rfl
                  clear e4
                  repeat' (first | (with_reducible refine T.sq fun K hK => ?_) | ((first | ((with_reducible refine T.reg hE ?hd ?_); (case hd => kernel_rfl)) | ((with_reducible refine T.any hE mixed ?hd ?hok ?_); (case hd => kernel_rfl); (case hok => kernel_rfl))); simp [*]; (repeat' (split; all_goals (rename_i hc; try simp [*])))) | ((with_reducible refine T.ret ?_); (refine fin_mem (by simp [*]) ?_ ?_)) | (with_reducible refine T.block ?_) | ((with_reducible refine T.skip ?_); simp [*]) | ((with_reducible refine T.exit ?_); simp [*]) | ((with_reducible refine T.br fun K1 K2 hK1 hK2 => ?_); simp [*]; try ((refine Br.intro (fun hc => ?_) (fun hc => ?_)) <;> (try simp at hc))) | (with_reducible refine Cont.go (by assumption) _ ?_) | (with_reducible refine Cnt.go (by assumption) ?_))
                  · intro id hid
                    by_cases e1 : id = i
                    · subst e1; simp [*]
                    · have hm : M id ≠ none := by rwa [upd_ne _ _ e1] at hid
                      simp [e1, hM2 id hm]
                  · intro u hu; simpa using hu
                · obtain rfl : rx = 0 := by rw [e4, decide_eq_false v]; rfl
                  clear e4
                  repeat' (first | (with_reducible refine T.sq fun K hK => ?_) | ((first | ((with_reducible refine T.reg hE ?hd ?_); (case hd => kernel_rfl)) | ((with_reducible refine T.any hE mixed ?hd ?hok ?_); (case hd => kernel_rfl); (case hok => kernel_rfl))); simp [*]; (repeat' (split; all_goals (rename_i hc; try simp [*])))) | ((with_reducible refine T.ret ?_); (refine fin_mem (by simp [*]) ?_ ?_)) | (with_reducible refine T.block ?_) | ((with_reducible refine T.skip ?_); simp [*]) | ((with_reducible refine T.exit ?_); simp [*]) | ((with_reducible refine T.br fun K1 K2 hK1 hK2 => ?_); simp [*]; try ((refine Br.intro (fun hc => ?_) (fun hc => ?_)) <;> (try simp at hc))) | (with_reducible refine Cont.go (by assumption) _ ?_) | (with_reducible refine Cnt.go (by assumption) ?_))
                  · intro id hid
                    by_cases e1 : id = i
                    · subst e1; simp [*]
                    · have hm : M id ≠ none := by rwa [upd_ne _ _ e1] at hid
                      simp [e1, hM2 id hm]
                  · intro u hu; simpa using hu
              · have e3 : min (n + 1 + cntL l) 50001 = 50001 := by omega
                have hbig : ¬ n + x.2 ≤ 50000 := by rw [hx]; simp only; omega
                obtain ⟨e1, e2⟩ := haP_over (n := n) (x := x) hbig
                obtain rfl : rx = 2 := by rw [← hrx, e1]
                obtain rfl : kx = 50001 := by rw [← hkx2, e2]
                clear hx hrx hkx2 e1 e2 hbig
                repeat' (first | (with_reducible refine T.sq fun K hK => ?_) | ((first | ((with_reducible refine T.reg hE ?hd ?_); (case hd => kernel_rfl)) | ((with_reducible refine T.any hE mixed ?hd ?hok ?_); (case hd => kernel_rfl); (case hok => kernel_rfl))); simp [*]; (repeat' (split; all_goals (rename_i hc; try simp [*])))) | ((with_reducible refine T.ret ?_); (refine fin_mem (by simp [*]) ?_ ?_)) | (with_reducible refine T.block ?_) | ((with_reducible refine T.skip ?_); simp [*]) | ((with_reducible refine T.exit ?_); simp [*]) | ((with_reducible refine T.br fun K1 K2 hK1 hK2 => ?_); simp [*]; try ((refine Br.intro (fun hc => ?_) (fun hc => ?_)) <;> (try simp at hc))) | (with_reducible refine Cont.go (by assumption) _ ?_) | (with_reducible refine Cnt.go (by assumption) ?_))
                · intro id hid
                  by_cases e1 : id = i
                  · subst e1; simp [*]
                  · have hm : M id ≠ none := by rwa [upd_ne _ _ e1] at hid
                    simp [e1, hM2 id hm]
                · intro u hu; simpa using hu
            by_cases k4 : k = 4
            · subst k4
              obtain ⟨a, b, rfl⟩ : ∃ a b, l = [a, b] := kids_eqF hall rfl
              have hof : ofL w env [a, b] = [ofE w env a, ofE w env b] := by rw [ofL_map]; rfl
              have hx : x = (decide (ofE w env a = ofE w env b), 1 + cntL [a, b]) := by rw [htr]; unfold trK; rw [if_pos (.inr rfl), hof]; rfl
              have hokt : okTs w env i i N [a, b] (lkN w env (n + 1)) := ⟨hok1, her, by simp, fun e he => ⟨hkx e he, hkz e he⟩⟩
              clear hkf hko htr hkz hkx
              by_cases c1 : n + 1 + cntL [a, b] ≤ 50000
              · have htv : tvL w env (n + 1) [a, b] = [ofE w env a, ofE w env b] := by unfold tvL; rw [if_pos c1, hof]
                obtain ⟨e1, e2⟩ := haP_done (n := n) (x := x) (by rw [hx]; simp only; omega)
                have e3 : min (n + 1 + cntL [a, b]) 50001 = kx := by rw [← hkx2, e2, hx]; simp only; omega
                have e4 : rx = if decide (ofE w env a = ofE w env b) = true then 1 else 0 := by rw [← hrx, e1, hx]
                clear hx hrx hkx2 e1 e2
                by_cases v : ofE w env a = ofE w env b
                · obtain rfl : rx = 1 := by rw [e4, v]; simp
                  clear e4
                  repeat' (first | (with_reducible refine T.sq fun K hK => ?_) | ((first | ((with_reducible refine T.reg hE ?hd ?_); (case hd => kernel_rfl)) | ((with_reducible refine T.any hE mixed ?hd ?hok ?_); (case hd => kernel_rfl); (case hok => kernel_rfl))); simp [*]; (repeat' (split; all_goals (rename_i hc; try simp [*])))) | ((with_reducible refine T.ret ?_); (refine fin_mem (by simp [*]) ?_ ?_)) | (with_reducible refine T.block ?_) | ((with_reducible refine T.skip ?_); simp [*]) | ((with_reducible refine T.exit ?_); simp [*]) | ((with_reducible refine T.br fun K1 K2 hK1 hK2 => ?_); simp [*]; try ((refine Br.intro (fun hc => ?_) (fun hc => ?_)) <;> (try simp at hc))) | (with_reducible refine Cont.go (by assumption) _ ?_) | (with_reducible refine Cnt.go (by assumption) ?_))
                  · intro id hid
                    by_cases e1 : id = i
                    · subst e1; simp [*]
                    · have hm : M id ≠ none := by rwa [upd_ne _ _ e1] at hid
                      simp [e1, hM2 id hm]
                  · intro u hu; simpa using hu
                · obtain rfl : rx = 0 := by rw [e4, decide_eq_false v]; rfl
                  clear e4
                  repeat' (first | (with_reducible refine T.sq fun K hK => ?_) | ((first | ((with_reducible refine T.reg hE ?hd ?_); (case hd => kernel_rfl)) | ((with_reducible refine T.any hE mixed ?hd ?hok ?_); (case hd => kernel_rfl); (case hok => kernel_rfl))); simp [*]; (repeat' (split; all_goals (rename_i hc; try simp [*])))) | ((with_reducible refine T.ret ?_); (refine fin_mem (by simp [*]) ?_ ?_)) | (with_reducible refine T.block ?_) | ((with_reducible refine T.skip ?_); simp [*]) | ((with_reducible refine T.exit ?_); simp [*]) | ((with_reducible refine T.br fun K1 K2 hK1 hK2 => ?_); simp [*]; try ((refine Br.intro (fun hc => ?_) (fun hc => ?_)) <;> (try simp at hc))) | (with_reducible refine Cont.go (by assumption) _ ?_) | (with_reducible refine Cnt.go (by assumption) ?_))
                  · intro id hid
                    by_cases e1 : id = i
                    · subst e1; simp [*]
                    · have hm : M id ≠ none := by rwa [upd_ne _ _ e1] at hid
                      simp [e1, hM2 id hm]
                  · intro u hu; simpa using hu
              · have e3 : min (n + 1 + cntL [a, b]) 50001 = 50001 := by omega
                have htv : tvL w env (n + 1) [a, b] = tvL w env (n + 1) [a, b] := rfl
                have hbig : ¬ n + x.2 ≤ 50000 := by rw [hx]; simp only; omega
                obtain ⟨e1, e2⟩ := haP_over (n := n) (x := x) hbig
                obtain rfl : rx = 2 := by rw [← hrx, e1]
                obtain rfl : kx = 50001 := by rw [← hkx2, e2]
                clear hx hrx hkx2 e1 e2 hbig
                repeat' (first | (with_reducible refine T.sq fun K hK => ?_) | ((first | ((with_reducible refine T.reg hE ?hd ?_); (case hd => kernel_rfl)) | ((with_reducible refine T.any hE mixed ?hd ?hok ?_); (case hd => kernel_rfl); (case hok => kernel_rfl))); simp [*]; (repeat' (split; all_goals (rename_i hc; try simp [*])))) | ((with_reducible refine T.ret ?_); (refine fin_mem (by simp [*]) ?_ ?_)) | (with_reducible refine T.block ?_) | ((with_reducible refine T.skip ?_); simp [*]) | ((with_reducible refine T.exit ?_); simp [*]) | ((with_reducible refine T.br fun K1 K2 hK1 hK2 => ?_); simp [*]; try ((refine Br.intro (fun hc => ?_) (fun hc => ?_)) <;> (try simp at hc))) | (with_reducible refine Cont.go (by assumption) _ ?_) | (with_reducible refine Cnt.go (by assumption) ?_))
                · intro id hid
                  by_cases e1 : id = i
                  · subst e1; simp [*]
                  · have hm : M id ≠ none := by rwa [upd_ne _ _ e1] at hid
                    simp [e1, hM2 id hm]
                · intro u hu; simpa using hu
            have hkid : ∀ j (h : j < l.length), (trL w l).getD j tf0 = trE w l[j] := fun j h => tr_kid w h
            by_cases k7 : k = 7 ∨ k = 10
            · obtain ⟨a, rfl⟩ : ∃ a, l = [a] := kids_one hall (by simp only [Ex.k_mk]; omega)
              have hi := shaped_var hall (by simp only [Ex.k_mk]; omega)
              simp only [Ex.i_mk] at hi
              have hx : x = ((qx w (.mk k i0 [a]) env (decide (k = 10))).1, 1 + (qx w (.mk k i0 [a]) env (decide (k = 10))).2) := by
                rw [htr]; unfold trK qx; rw [if_neg (by omega), if_pos k7]; rfl
              have hres : haP (n + 1) (qx w (.mk k i0 [a]) env (decide (k = 10))) = rx ∧ min (n + 1 + (qx w (.mk k i0 [a]) env (decide (k = 10))).2) 50001 = kx := by
                rw [← hrx, ← hkx2, hx]
                unfold haP
                simp only [Nat.add_assoc]
                exact ⟨trivial, trivial⟩
              have hfa : okF N a := hko (by omega) a (by simp)
              have hoke : ∀ till : Int, (till = 0 ∨ till = 1) → okEa w i i N (.mk k i0 [a]) (lkN w env (n + 1)) till := fun till ht => ⟨hok2, hi, ht, a, rfl, hfa⟩
              have hoke0 := hoke 0 (.inl rfl)
              have hoke1 := hoke 1 (.inr rfl)
              clear hkf hko htr hkz hkx hx hoke hrx hkx2 hkid
              rcases k7 with rfl | rfl
              · have hd : decide ((7 : Int) = 10) = false := rfl
                rw [hd] at hres
                obtain ⟨hr1, hr2⟩ := hres
                repeat' (first | (with_reducible refine T.sq fun K hK => ?_) | ((first | ((with_reducible refine T.reg hE ?hd ?_); (case hd => kernel_rfl)) | ((with_reducible refine T.any hE mixed ?hd ?hok ?_); (case hd => kernel_rfl); (case hok => kernel_rfl))); simp [*]; (repeat' (split; all_goals (rename_i hc; try simp [*])))) | ((with_reducible refine T.ret ?_); (refine fin_mem (by simp [*]) ?_ ?_)) | (with_reducible refine T.block ?_) | ((with_reducible refine T.skip ?_); simp [*]) | ((with_reducible refine T.exit ?_); simp [*]) | ((with_reducible refine T.br fun K1 K2 hK1 hK2 => ?_); simp [*]; try ((refine Br.intro (fun hc => ?_) (fun hc => ?_)) <;> (try simp at hc))) | (with_reducible refine Cont.go (by assumption) _ ?_) | (with_reducible refine Cnt.go (by assumption) ?_))
                · intro id hid
                  by_cases e1 : id = i
                  · subst e1; simp [*]
                  · have hm : M id ≠ none := by rwa [upd_ne _ _ e1] at hid
                    simp [e1, hM2 id hm]
                · intro u hu; simpa using hu
              · have hd : decide ((10 : Int) = 10) = true := rfl
                rw [hd] at hres
                obtain ⟨hr1, hr2⟩ := hres
                repeat' (first | (with_reducible refine T.sq fun K hK => ?_) | ((first | ((with_reducible refine T.reg hE ?hd ?_); (case hd => kernel_rfl)) | ((with_reducible refine T.any hE mixed ?hd ?hok ?_); (case hd => kernel_rfl); (case hok => kernel_rfl))); simp [*]; (repeat' (split; all_goals (rename_i hc; try simp [*])))) | ((with_reducible refine T.ret ?_); (refine fin_mem (by simp [*]) ?_ ?_)) | (with_reducible refine T.block ?_) | ((with_reducible refine T.skip ?_); simp [*]) | ((with_reducible refine T.exit ?_); simp [*]) | ((with_reducible refine T.br fun K1 K2 hK1 hK2 => ?_); simp [*]; try ((refine Br.intro (fun hc => ?_) (fun hc => ?_)) <;> (try simp at hc))) | (with_reducible refine Cont.go (by assumption) _ ?_) | (with_reducible refine Cnt.go (by assumption) ?_))
                · intro id hid
                  by_cases e1 : id = i
                  · subst e1; simp [*]
                  · have hm : M id ≠ none := by rwa [upd_ne _ _ e1] at hid
                    simp [e1, hM2 id hm]
                · intro u hu; simpa using hu
            by_cases k5 : k = 5
            · subst k5
              obtain ⟨a, rfl⟩ : ∃ a, l = [a] := kids_one hall (.inl rfl)
              have h0 := hkid 0 (by simp)
              simp only [List.getElem_cons_zero] at h0
              have hfa : okF N a := hko (by omega) a (by simp)
              have hoka : okHo w i i N a (lkN w env (n + 1)) := ⟨hok2, hfa⟩
              obtain ⟨y, hy⟩ : ∃ y, trE w a env = y := ⟨_, rfl⟩
              have hx : x = (!y.1, 1 + y.2) := by rw [htr]; unfold trK; rw [if_neg (by omega), if_neg (by omega), if_pos rfl, h0, hy]
              have hr1 : turnI (haP (n + 1) y) = rx := by
                rw [← hrx, hx]; unfold haP; simp only
                by_cases c : n + 1 + y.2 ≤ 50000
                · simp only [if_pos c, if_pos (show n + (1 + y.2) ≤ 50000 by omega)]; cases y.1 <;> rfl
                · simp only [if_neg c, if_neg (show ¬ n + (1 + y.2) ≤ 50000 by omega)]; rfl
              have hr2 : min (n + 1 + y.2) 50001 = kx := by rw [← hkx2, hx]; simp only [Nat.add_assoc]
              have hr3 : 0 ≤ haP (n + 1) y ∧ haP (n + 1) y ≤ 2 := by unfold haP; repeat' split; all_goals omega
              clear hkf hko htr hkz hkx hx hrx hkx2 hkid h0
              repeat' (first | (with_reducible refine T.sq fun K hK => ?_) | ((first | ((with_reducible refine T.reg hE ?hd ?_); (case hd => kernel_rfl)) | ((with_reducible refine T.any hE mixed ?hd ?hok ?_); (case hd => kernel_rfl); (case hok => kernel_rfl))); simp [*]; (repeat' (split; all_goals (rename_i hc; try simp [*])))) | ((with_reducible refine T.ret ?_); (refine fin_mem (by simp [*]) ?_ ?_)) | (with_reducible refine T.block ?_) | ((with_reducible refine T.skip ?_); simp [*]) | ((with_reducible refine T.exit ?_); simp [*]) | ((with_reducible refine T.br fun K1 K2 hK1 hK2 => ?_); simp [*]; try ((refine Br.intro (fun hc => ?_) (fun hc => ?_)) <;> (try simp at hc))) | (with_reducible refine Cont.go (by assumption) _ ?_) | (with_reducible refine Cnt.go (by assumption) ?_))
              · intro id hid
                by_cases e1 : id = i
                · subst e1; simp [*]
                · have hm : M id ≠ none := by rwa [upd_ne _ _ e1] at hid
                  simp [e1, hM2 id hm]
              · intro u hu; simpa using hu
            obtain ⟨a, b, rfl⟩ : ∃ a b, l = [a, b] := kids_two hall (by show k = 6 ∨ k = 8 ∨ k = 9; omega)
            have h0 := hkid 0 (by simp)
            have h1 := hkid 1 (by simp)
            simp only [List.getElem_cons_zero, List.getElem_cons_succ] at h0 h1
            have hk689 : k = 6 ∨ k = 8 ∨ k = 9 := by omega
            have hfa : okF N a := hko (by omega) a (by simp)
            have hfb : okF N b := hko (by omega) b (by simp)
            have hoka : okHo w i i N a (lkN w env (n + 1)) := ⟨hok2, hfa⟩
            obtain ⟨y0, hy0⟩ : ∃ y, trE w a env = y := ⟨_, rfl⟩
            obtain ⟨y1, hy1⟩ : ∃ y, trE w b env = y := ⟨_, rfl⟩
            have hx : x = if shB k y0.1 = true then (decide (k ≠ 8), 1 + y0.2) else (y1.1, 1 + y0.2 + y1.2) := by
              rw [htr]; unfold trK; rw [if_neg (by omega), if_neg (by omega), if_neg k5, h0, h1, hy0, hy1]
            clear hkf hko htr hkz hkx hkid h0 h1 k3 k4 k5 k7
            by_cases c1 : n + 1 + y0.2 ≤ 50000
            · rcases hk689 with rfl | rfl | rfl
              · have hx0 := hx
                obtain ⟨b0, n0⟩ := y0
                simp only at *
                cases b0 with
                | false =>
                  have hx : x = (true, 1 + n0) := by rw [hx0]; rfl
                  obtain ⟨e1, e2⟩ := haP_done (n := n) (x := x) (by rw [hx]; simp only; omega)
                  obtain rfl : rx = 1 := by rw [← hrx, e1, hx]; rfl
                  have e3 : min (n + 1 + n0) 50001 = kx := by rw [← hkx2, e2, hx]; simp only; omega
                  have e4 : haP (n + 1) (false, n0) = 0 := by unfold haP; rw [if_pos c1]; rfl
                  have e5 : turnI 0 = 1 := rfl
                  clear hx hx0 hrx hkx2 e1 e2 hy1
                  repeat' (first | (with_reducible refine T.sq fun K hK => ?_) | ((first | ((with_reducible refine T.reg hE ?hd ?_); (case hd => kernel_rfl)) | ((with_reducible refine T.any hE mixed ?hd ?hok ?_); (case hd => kernel_rfl); (case hok => kernel_rfl))); simp [*]; (repeat' (split; all_goals (rename_i hc; try simp [*])))) | ((with_reducible refine T.ret ?_); (refine fin_mem (by simp [*]) ?_ ?_)) | (with_reducible refine T.block ?_) | ((with_reducible refine T.skip ?_); simp [*]) | ((with_reducible refine T.exit ?_); simp [*]) | ((with_reducible refine T.br fun K1 K2 hK1 hK2 => ?_); simp [*]; try ((refine Br.intro (fun hc => ?_) (fun hc => ?_)) <;> (try simp at hc))) | (with_reducible refine Cont.go (by assumption) _ ?_) | (with_reducible refine Cnt.go (by assumption) ?_))
                  · intro id hid
                    by_cases e1 : id = i
                    · subst e1; simp [*]
                    · have hm : M id ≠ none := by rwa [upd_ne _ _ e1] at hid
                      simp [e1, hM2 id hm]
                  · intro u hu; simpa using hu
                | true =>
                  have hx : x = (y1.1, 1 + n0 + y1.2) := by rw [hx0]; rfl
                  obtain ⟨k1, hk1⟩ : ∃ k1, n + 1 + n0 = k1 := ⟨_, rfl⟩
                  have hk1l : k1 ≤ 50000 := by omega
                  have hokb : okHo w i i N b (lkN w env k1) := ⟨okHd_mk her hk1l, hfb⟩
                  have hrx2 : haP k1 y1 = rx := by rw [← hrx, hx]; unfold haP; simp only; rw [← hk1]; simp only [Nat.add_assoc]
                  have hkx3 : min (k1 + y1.2) 50001 = kx := by rw [← hkx2, hx]; simp only; rw [← hk1]; simp only [Nat.add_assoc]
                  have e3 : min k1 50001 = k1 := by omega
                  have e4 : haP (n + 1) (true, n0) = 1 := by unfold haP; rw [if_pos c1]; rfl
                  have e5 : turnI 1 = 0 := rfl
                  clear hx hx0 hrx hkx2
                  repeat' (first | (with_reducible refine T.sq fun K hK => ?_) | ((first | ((with_reducible refine T.reg hE ?hd ?_); (case hd => kernel_rfl)) | ((with_reducible refine T.any hE mixed ?hd ?hok ?_); (case hd => kernel_rfl); (case hok => kernel_rfl))); simp [*]; (repeat' (split; all_goals (rename_i hc; try simp [*])))) | ((with_reducible refine T.ret ?_); (refine fin_mem (by simp [*]) ?_ ?_)) | (with_reducible refine T.block ?_) | ((with_reducible refine T.skip ?_); simp [*]) | ((with_reducible refine T.exit ?_); simp [*]) | ((with_reducible refine T.br fun K1 K2 hK1 hK2 => ?_); simp [*]; try ((refine Br.intro (fun hc => ?_) (fun hc => ?_)) <;> (try simp at hc))) | (with_reducible refine Cont.go (by assumption) _ ?_) | (with_reducible refine Cnt.go (by assumption) ?_))
                  · intro id hid
                    by_cases e1 : id = i
                    · subst e1; simp [*]
                    · have hm : M id ≠ none := by rwa [upd_ne _ _ e1] at hid
                      simp [e1, hM2 id hm]
                  · intro u hu; simpa using hu
              · have hx0 := hx
                obtain ⟨b0, n0⟩ := y0
                simp only at *
                cases b0 with
                | false =>
                  have hx : x = (false, 1 + n0) := by rw [hx0]; rfl
                  obtain ⟨e1, e2⟩ := haP_done (n := n) (x := x) (by rw [hx]; simp only; omega)
                  obtain rfl : rx = 0 := by rw [← hrx, e1, hx]; rfl
                  have e3 : min (n + 1 + n0) 50001 = kx := by rw [← hkx2, e2, hx]; simp only; omega
                  have e4 : haP (n + 1) (false, n0) = 0 := by unfold haP; rw [if_pos c1]; rfl
                  have e5 : turnI 0 = 1 := rfl
                  clear hx hx0 hrx hkx2 e1 e2 hy1
                  repeat' (first | (with_reducible refine T.sq fun K hK => ?_) | ((first | ((with_reducible refine T.reg hE ?hd ?_); (case hd => kernel_rfl)) | ((with_reducible refine T.any hE mixed ?hd ?hok ?_); (case hd => kernel_rfl); (case hok => kernel_rfl))); simp [*]; (repeat' (split; all_goals (rename_i hc; try simp [*])))) | ((with_reducible refine T.ret ?_); (refine fin_mem (by simp [*]) ?_ ?_)) | (with_reducible refine T.block ?_) | ((with_reducible refine T.skip ?_); simp [*]) | ((with_reducible refine T.exit ?_); simp [*]) | ((with_reducible refine T.br fun K1 K2 hK1 hK2 => ?_); simp [*]; try ((refine Br.intro (fun hc => ?_) (fun hc => ?_)) <;> (try simp at hc))) | (with_reducible refine Cont.go (by assumption) _ ?_) | (with_reducible refine Cnt.go (by assumption) ?_))
                  · intro id hid
                    by_cases e1 : id = i
                    · subst e1; simp [*]
                    · have hm : M id ≠ none := by rwa [upd_ne _ _ e1] at hid
                      simp [e1, hM2 id hm]
                  · intro u hu; simpa using hu
                | true =>
                  have hx : x = (y1.1, 1 + n0 + y1.2) := by rw [hx0]; rfl
                  obtain ⟨k1, hk1⟩ : ∃ k1, n + 1 + n0 = k1 := ⟨_, rfl⟩
                  have hk1l : k1 ≤ 50000 := by omega
                  have hokb : okHo w i i N b (lkN w env k1) := ⟨okHd_mk her hk1l, hfb⟩
                  have hrx2 : haP k1 y1 = rx := by rw [← hrx, hx]; unfold haP; simp only; rw [← hk1]; simp only [Nat.add_assoc]
                  have hkx3 : min (k1 + y1.2) 50001 = kx := by rw [← hkx2, hx]; simp only; rw [← hk1]; simp only [Nat.add_assoc]
                  have e3 : min k1 50001 = k1 := by omega
                  have e4 : haP (n + 1) (true, n0) = 1 := by unfold haP; rw [if_pos c1]; rfl
                  have e5 : turnI 1 = 0 := rfl
                  clear hx hx0 hrx hkx2
                  repeat' (first | (with_reducible refine T.sq fun K hK => ?_) | ((first | ((with_reducible refine T.reg hE ?hd ?_); (case hd => kernel_rfl)) | ((with_reducible refine T.any hE mixed ?hd ?hok ?_); (case hd => kernel_rfl); (case hok => kernel_rfl))); simp [*]; (repeat' (split; all_goals (rename_i hc; try simp [*])))) | ((with_reducible refine T.ret ?_); (refine fin_mem (by simp [*]) ?_ ?_)) | (with_reducible refine T.block ?_) | ((with_reducible refine T.skip ?_); simp [*]) | ((with_reducible refine T.exit ?_); simp [*]) | ((with_reducible refine T.br fun K1 K2 hK1 hK2 => ?_); simp [*]; try ((refine Br.intro (fun hc => ?_) (fun hc => ?_)) <;> (try simp at hc))) | (with_reducible refine Cont.go (by assumption) _ ?_) | (with_reducible refine Cnt.go (by assumption) ?_))
                  · intro id hid
                    by_cases e1 : id = i
                    · subst e1; simp [*]
                    · have hm : M id ≠ none := by rwa [upd_ne _ _ e1] at hid
                      simp [e1, hM2 id hm]
                  · intro u hu; simpa using hu
              · have hx0 := hx
                obtain ⟨b0, n0⟩ := y0
                simp only at *
                cases b0 with
                | true =>
                  have hx : x = (true, 1 + n0) := by rw [hx0]; rfl
                  obtain ⟨e1, e2⟩ := haP_done (n := n) (x := x) (by rw [hx]; simp only; omega)
                  obtain rfl : rx = 1 := by rw [← hrx, e1, hx]; rfl
                  have e3 : min (n + 1 + n0) 50001 = kx := by rw [← hkx2, e2, hx]; simp only; omega
                  have e4 : haP (n + 1) (true, n0) = 1 := by unfold haP; rw [if_pos c1]; rfl
                  have e5 : turnI 1 = 0 := rfl
                  clear hx hx0 hrx hkx2 e1 e2 hy1
                  repeat' (first | (with_reducible refine T.sq fun K hK => ?_) | ((first | ((with_reducible refine T.reg hE ?hd ?_); (case hd => kernel_rfl)) | ((with_reducible refine T.any hE mixed ?hd ?hok ?_); (case hd => kernel_rfl); (case hok => kernel_rfl))); simp [*]; (repeat' (split; all_goals (rename_i hc; try simp [*])))) | ((with_reducible refine T.ret ?_); (refine fin_mem (by simp [*]) ?_ ?_)) | (with_reducible refine T.block ?_) | ((with_reducible refine T.skip ?_); simp [*]) | ((with_reducible refine T.exit ?_); simp [*]) | ((with_reducible refine T.br fun K1 K2 hK1 hK2 => ?_); simp [*]; try ((refine Br.intro (fun hc => ?_) (fun hc => ?_)) <;> (try simp at hc))) | (with_reducible refine Cont.go (by assumption) _ ?_) | (with_reducible refine Cnt.go (by assumption) ?_))
                  · intro id hid
                    by_cases e1 : id = i
                    · subst e1; simp [*]
                    · have hm : M id ≠ none := by rwa [upd_ne _ _ e1] at hid
                      simp [e1, hM2 id hm]
                  · intro u hu; simpa using hu
                | false =>
                  have hx : x = (y1.1, 1 + n0 + y1.2) := by rw [hx0]; rfl
                  obtain ⟨k1, hk1⟩ : ∃ k1, n + 1 + n0 = k1 := ⟨_, rfl⟩
                  have hk1l : k1 ≤ 50000 := by omega
                  have hokb : okHo w i i N b (lkN w env k1) := ⟨okHd_mk her hk1l, hfb⟩
                  have hrx2 : haP k1 y1 = rx := by rw [← hrx, hx]; unfold haP; simp only; rw [← hk1]; simp only [Nat.add_assoc]
                  have hkx3 : min (k1 + y1.2) 50001 = kx := by rw [← hkx2, hx]; simp only; rw [← hk1]; simp only [Nat.add_assoc]
                  have e3 : min k1 50001 = k1 := by omega
                  have e4 : haP (n + 1) (false, n0) = 0 := by unfold haP; rw [if_pos c1]; rfl
                  have e5 : turnI 0 = 1 := rfl
                  clear hx hx0 hrx hkx2
                  repeat' (first | (with_reducible refine T.sq fun K hK => ?_) | ((first | ((with_reducible refine T.reg hE ?hd ?_); (case hd => kernel_rfl)) | ((with_reducible refine T.any hE mixed ?hd ?hok ?_); (case hd => kernel_rfl); (case hok => kernel_rfl))); simp [*]; (repeat' (split; all_goals (rename_i hc; try simp [*])))) | ((with_reducible refine T.ret ?_); (refine fin_mem (by simp [*]) ?_ ?_)) | (with_reducible refine T.block ?_) | ((with_reducible refine T.skip ?_); simp [*]) | ((with_reducible refine T.exit ?_); simp [*]) | ((with_reducible refine T.br fun K1 K2 hK1 hK2 => ?_); simp [*]; try ((refine Br.intro (fun hc => ?_) (fun hc => ?_)) <;> (try simp at hc))) | (with_reducible refine Cont.go (by assumption) _ ?_) | (with_reducible refine Cnt.go (by assumption) ?_))
                  · intro id hid
                    by_cases e1 : id = i
                    · subst e1; simp [*]
                    · have hm : M id ≠ none := by rwa [upd_ne _ _ e1] at hid
                      simp [e1, hM2 id hm]
                  · intro u hu; simpa using hu
            · have hbig : ¬ n + x.2 ≤ 50000 := by rw [hx]; split <;> (simp only; omega)
              obtain ⟨e1, e2⟩ := haP_over (n := n) (x := x) hbig
              obtain rfl : rx = 2 := by rw [← hrx, e1]
              obtain rfl : kx = 50001 := by rw [← hkx2, e2]
              obtain ⟨e3, e4⟩ := haP_over (n := n + 1) (x := y0) c1
              clear hx hrx hkx2 e1 e2 hbig
              rcases hk689 with rfl | rfl | rfl
              · repeat' (first | (with_reducible refine T.sq fun K hK => ?_) | ((first | ((with_reducible refine T.reg hE ?hd ?_); (case hd => kernel_rfl)) | ((with_reducible refine T.any hE mixed ?hd ?hok ?_); (case hd => kernel_rfl); (case hok => kernel_rfl))); simp [*]; (repeat' (split; all_goals (rename_i hc; try simp [*])))) | ((with_reducible refine T.ret ?_); (refine fin_mem (by simp [*]) ?_ ?_)) | (with_reducible refine T.block ?_) | ((with_reducible refine T.skip ?_); simp [*]) | ((with_reducible refine T.exit ?_); simp [*]) | ((with_reducible refine T.br fun K1 K2 hK1 hK2 => ?_); simp [*]; try ((refine Br.intro (fun hc => ?_) (fun hc => ?_)) <;> (try simp at hc))) | (with_reducible refine Cont.go (by assumption) _ ?_) | (with_reducible refine Cnt.go (by assumption) ?_))
                · intro id hid
                  by_cases e1 : id = i
                  · subst e1; simp [*]
                  · have hm : M id ≠ none := by rwa [upd_ne _ _ e1] at hid
                    simp [e1, hM2 id hm]
                · intro u hu; simpa using hu
              · repeat' (first | (with_reducible refine T.sq fun K hK => ?_) | ((first | ((with_reducible refine T.reg hE ?hd ?_); (case hd => kernel_rfl)) | ((with_reducible refine T.any hE mixed ?hd ?hok ?_); (case hd => kernel_rfl); (case hok => kernel_rfl))); simp [*]; (repeat' (split; all_goals (rename_i hc; try simp [*])))) | ((with_reducible refine T.ret ?_); (refine fin_mem (by simp [*]) ?_ ?_)) | (with_reducible refine T.block ?_) | ((with_reducible refine T.skip ?_); simp [*]) | ((with_reducible refine T.exit ?_); simp [*]) | ((with_reducible refine T.br fun K1 K2 hK1 hK2 => ?_); simp [*]; try ((refine Br.intro (fun hc => ?_) (fun hc => ?_)) <;> (try simp at hc))) | (with_reducible refine Cont.go (by assumption) _ ?_) | (with_reducible refine Cnt.go (by assumption) ?_))
                · intro id hid
                  by_cases e1 : id = i
                  · subst e1; simp [*]
                  · have hm : M id ≠ none := by rwa [upd_ne _ _ e1] at hid
                    simp [e1, hM2 id hm]
                · intro u hu; simpa using hu
              · repeat' (first | (with_reducible refine T.sq fun K hK => ?_) | ((first | ((with_reducible refine T.reg hE ?hd ?_); (case hd => kernel_rfl)) | ((with_reducible refine T.any hE mixed ?hd ?hok ?_); (case hd => kernel_rfl); (case hok => kernel_rfl))); simp [*]; (repeat' (split; all_goals (rename_i hc; try simp [*])))) | ((with_reducible refine T.ret ?_); (refine fin_mem (by simp [*]) ?_ ?_)) | (with_reducible refine T.block ?_) | ((with_reducible refine T.skip ?_); simp [*]) | ((with_reducible refine T.exit ?_); simp [*]) | ((with_reducible refine T.br fun K1 K2 hK1 hK2 => ?_); simp [*]; try ((refine Br.intro (fun hc => ?_) (fun hc => ?_)) <;> (try simp at hc))) | (with_reducible refine Cont.go (by assumption) _ ?_) | (with_reducible refine Cnt.go (by assumption) ?_))
                · intro id hid
                  by_cases e1 : id = i
                  · subst e1; simp [*]
                  · have hm : M id ≠ none := by rwa [upd_ne _ _ e1] at hid
                    simp [e1, hM2 id hm]
                · intro u hu; simpa using hu
          · have hp := tr_pos w e env
            rw [hxx] at hp
            obtain ⟨e1, e2⟩ := haP_over (n := n) (x := x) (by omega)
            have e3 : n + 1 = 50001 := by omega
            rw [e1, e2]
            clear hkf hko hkz hkx htr fin
            repeat' (first | (with_reducible refine T.sq fun K hK => ?_) | ((first | ((with_reducible refine T.reg hE ?hd ?_); (case hd => kernel_rfl)) | ((with_reducible refine T.any hE mixed ?hd ?hok ?_); (case hd => kernel_rfl); (case hok => kernel_rfl))); simp [*]; (repeat' (split; all_goals (rename_i hc; try simp [*])))) | ((with_reducible refine T.ret ?_); (refine fin_mem (by simp [*]) ?_ ?_)) | (with_reducible refine T.block ?_) | ((with_reducible refine T.skip ?_); simp [*]) | ((with_reducible refine T.exit ?_); simp [*]) | ((with_reducible refine T.br fun K1 K2 hK1 hK2 => ?_); simp [*]; try ((refine Br.intro (fun hc => ?_) (fun hc => ?_)) <;> (try simp at hc))) | (with_reducible refine Cont.go (by assumption) _ ?_) | (with_reducible refine Cnt.go (by assumption) ?_))
            · intro id hid
              by_cases e1 : id = i
              · subst e1; simp [hq]
              · have hm : M id ≠ none := by rwa [upd_ne _ _ e1] at hid
                simp [e1, hM2 id hm]
            · intro u hu; simpa using hu
        · cases h
      · cases h
    · cases h
end Go.Proofs.Ytaacfmakfkaddaa.Ax
