/- Contracts: the sets of an expression, by the program and by the reference. -/
import Derived.Test.YtiippmhlkcbjmaaBxU
import Derived.Test.YtiippmhlkcbjmaaBxK
set_option linter.unusedVariables false
set_option linter.unusedSimpArgs false
namespace Go.Proofs.Ytiippmhlkcbjmaa.Ax
open Go Go.Proofs

def okX (e : Ex) : Prop := allX e = true
noncomputable instance (e : Ex) : Decidable (okX e) := Classical.propDecidable _
@[simp] noncomputable def gSet (F : Ex → Nat) : List V → Option V := f1 kE fun e => if okX e then some (.int .u64 (F e : Nat)) else none
def vaE (e : Ex) : Nat := boE e ||| ocE e
theorem vaE_lt {e : Ex} (h : allX e = true) : vaE e < 18446744073709551616 := or_lt (boE_lt h) (ocE_lt h)
theorem u64_nat {n : Nat} (h : n < 18446744073709551616) : isU64 (n : Int) := ⟨by omega, by omega⟩
theorem ok_freeIn : PureOk Try.prog 62 (gSet frE) := by
  intro args r h
  obtain ⟨e, rfl, hr⟩ := f1_inv h; clear h
  split at hr
  · rename_i hm
    cases hr
    have hE := ((EnvOk.nil (P := Try.prog) (eq := fun _ => false) (own := fun _ => false) (mem := fun _ => false) EqOk.none).addf (ok_gather ok_isFree))
    refine ⟨⟨Try.f62, Try.func62, by decide, rfl⟩, pure_of_T Try.func62 rfl (by simp [Try.ntmps62]) fun q => ?_⟩
    have hok := okGat_mk 110 hm
    have hv : runO (stp1 prF) (occE e 0) 0 = frE e := by rw [free_run e 0 0 hm]; simp [dif]
    repeat' (first
      | (with_reducible refine T.sq fun K hK => ?_)
      | ((first | ((with_reducible refine T.reg hE ?hd ?_); (case hd => kernel_rfl)) | ((with_reducible refine T.any hE mixed ?hd ?hok ?_); (case hd => kernel_rfl); (case hok => kernel_rfl))); simp [*]; (repeat' (split; all_goals (rename_i hc; try simp [*]))))
      | ((with_reducible refine T.ret ?_); refine fin_pure ?_; simp [*]; try (change Hold _))
      | (with_reducible refine T.block ?_)
      | ((with_reducible refine T.skip ?_); simp [*])
      | ((with_reducible refine T.exit ?_); simp [*])
      | ((with_reducible refine T.br fun K1 K2 hK1 hK2 => ?_); simp [*]; try ((refine Br.intro (fun hc => ?_) (fun hc => ?_)) <;> (try simp at hc)))
      | (with_reducible refine Cont.go (by assumption) _ ?_)
      | (with_reducible refine Cnt.go (by assumption) ?_))
  · cases hr
set_option maxHeartbeats 1000000 in
theorem ok_named : PureOk Try.prog 64 (gSet boE) := by
  refine rec1 fun e ih r hr => ?_
  split at hr
  · rename_i hm
    cases hr
    have hokx : ∀ (j : Nat) (hj : j < e.kids.length), okX e.kids[j] := fun j hj => allX_kid hm j hj
    have hE := (((EnvOk.nil (P := Try.prog) (eq := fun _ => false) (own := fun _ => false) (mem := fun _ => false) EqOk.none).addf ok_fBinds).addf ih)
    refine ⟨⟨Try.f64, Try.func64, by decide, rfl⟩, pure_of_T Try.func64 rfl (by simp [Try.ntmps64]) fun q => ?_⟩
    have hbl := binP_lt hm
    by_cases c : isQb e = true
    · have c' : e.k = 7 ∨ e.k = 10 := by simpa [isQb] using c
      have hv := shaped_var hm (.inr c')
      have hp : binP e.k e.i = pw e.i.toNat := by unfold binP; rw [if_pos c']
      obtain ⟨m, hmm⟩ := Int.eq_ofNat_of_zero_le hv.1
      have hs0 : IntKind.u64.wrap e.i = e.i := by rw [hmm]; exact wrap64u (by omega)
      have hs2 : IntKind.u64.wrap (2 ^ min e.i.toNat IntKind.u64.bits) = (pw e.i.toNat : Nat) := shl_pw (by omega)
      have hv1 := hv.1
      clear hmm hv c'
      repeat' (first
        | (with_reducible refine T.sq fun K hK => ?_)
        | ((first | ((with_reducible refine T.reg hE ?hd ?_); (case hd => kernel_rfl)) | ((with_reducible refine T.any hE mixed ?hd ?hok ?_); (case hd => kernel_rfl); (case hok => kernel_rfl))); simp [*]; (repeat' (split; all_goals (rename_i hc; try simp [*]))))
        | ((with_reducible refine T.ret ?_); refine fin_pure ?_; simp [*]; try (change Hold _))
        | (with_reducible refine T.block ?_)
        | ((with_reducible refine T.skip ?_); simp [*])
        | ((with_reducible refine T.exit ?_); simp [*])
        | ((with_reducible refine T.br fun K1 K2 hK1 hK2 => ?_); simp [*]; try ((refine Br.intro (fun hc => ?_) (fun hc => ?_)) <;> (try simp at hc)))
        | (with_reducible refine Cont.go (by assumption) _ ?_)
        | (with_reducible refine Cnt.go (by assumption) ?_))
      refine T.len (t := 13) (els := encL e.kids) (tk := .no) (by simp [*]) fun hlen => ?_
      rw [encL_length] at hlen
      refine T.loop (fun n σ => ∃ (j s : Nat), n = e.kids.length - j ∧ σ.get 13 = .sl (encL e.kids) .no ∧ σ.get 14 = .int .i64 e.kids.length ∧ σ.get 15 = .int .i64 j ∧ σ.get 3 = .int .u64 s ∧ j ≤ e.kids.length ∧ s < 18446744073709551616 ∧ Hold (s = pw e.i.toNat ||| boL (e.kids.take j))) e.kids.length ⟨0, pw e.i.toNat, by simp [*], by simp [*], by simp [*], by simp [*], by simp [*], by omega, hp ▸ hbl, by simp [Hold, boL]⟩ ?_
      rintro n σ ⟨j, s, rfl, g1, g2, g3, g4, g5, g6, g7⟩
      have hus : isU64 (s : Int) := ⟨by omega, by omega⟩
      by_cases hj : j < e.kids.length
      · have hw := wrap_succ hlen hj
        have hs := ex_kid_lt e j hj
        have hak := allX_kid hm j hj
        have hkl := boE_lt hak
        have huk : isU64 (boE e.kids[j] : Nat) := ⟨by omega, by omega⟩
        have hol := or_lt g6 hkl
        have hbt := bits_or (k := .u64) rfl (a := s) (b := boE e.kids[j]) (by simpa [IntKind.bits] using g6) (by simpa [IntKind.bits] using hkl)
        have hnx : Hold (s ||| boE e.kids[j] = pw e.i.toNat ||| boL (e.kids.take (j + 1))) := by unfold Hold at *; rw [boL_take _ _ hj, g7, Nat.or_assoc]
        clear g7
        repeat' (first
          | (with_reducible refine T.sq fun K hK => ?_)
          | ((first | ((with_reducible refine T.reg hE ?hd ?_); (case hd => kernel_rfl)) | ((with_reducible refine T.any hE mixed ?hd ?hok ?_); (case hd => kernel_rfl); (case hok => kernel_rfl))); simp [*]; (repeat' (split; all_goals (rename_i hc; try simp [*]))))
          | ((with_reducible refine T.ret ?_); refine fin_pure ?_; simp [*]; try (change Hold _))
          | (with_reducible refine T.block ?_)
          | ((with_reducible refine T.skip ?_); simp [*])
          | ((with_reducible refine T.exit ?_); simp [*])
          | ((with_reducible refine T.br fun K1 K2 hK1 hK2 => ?_); simp [*]; try ((refine Br.intro (fun hc => ?_) (fun hc => ?_)) <;> (try simp at hc)))
          | (with_reducible refine Cont.go (by assumption) _ ?_)
          | (with_reducible refine Cnt.go (by assumption) ?_))
        exact ⟨e.kids.length - (j + 1), by omega, j + 1, rfl, by omega, _, rfl, by omega, hol, by first | exact hnx | simpa [Hold] using hnx⟩
      · have w8 : j = e.kids.length := by omega
        have w9 : e.kids.take j = e.kids := by rw [w8, List.take_length]
        rw [w9] at g7
        clear w9
        have he : Hold (boE e = s) := by unfold Hold at *; rw [boE_eq, g7, hp]
        repeat' (first
          | (with_reducible refine T.sq fun K hK => ?_)
          | ((first | ((with_reducible refine T.reg hE ?hd ?_); (case hd => kernel_rfl)) | ((with_reducible refine T.any hE mixed ?hd ?hok ?_); (case hd => kernel_rfl); (case hok => kernel_rfl))); simp [*]; (repeat' (split; all_goals (rename_i hc; try simp [*]))))
          | ((with_reducible refine T.ret ?_); refine fin_pure ?_; simp [*]; try (change Hold _))
          | (with_reducible refine T.block ?_)
          | ((with_reducible refine T.skip ?_); simp [*])
          | ((with_reducible refine T.exit ?_); simp [*])
          | ((with_reducible refine T.br fun K1 K2 hK1 hK2 => ?_); simp [*]; try ((refine Br.intro (fun hc => ?_) (fun hc => ?_)) <;> (try simp at hc)))
          | (with_reducible refine Cont.go (by assumption) _ ?_)
          | (with_reducible refine Cnt.go (by assumption) ?_))
        all_goals (unfold Hold at *; rw [he])
    · have hp : binP e.k e.i = 0 := by unfold binP; rw [if_neg (by simpa [isQb] using c)]
      repeat' (first
        | (with_reducible refine T.sq fun K hK => ?_)
        | ((first | ((with_reducible refine T.reg hE ?hd ?_); (case hd => kernel_rfl)) | ((with_reducible refine T.any hE mixed ?hd ?hok ?_); (case hd => kernel_rfl); (case hok => kernel_rfl))); simp [*]; (repeat' (split; all_goals (rename_i hc; try simp [*]))))
        | ((with_reducible refine T.ret ?_); refine fin_pure ?_; simp [*]; try (change Hold _))
        | (with_reducible refine T.block ?_)
        | ((with_reducible refine T.skip ?_); simp [*])
        | ((with_reducible refine T.exit ?_); simp [*])
        | ((with_reducible refine T.br fun K1 K2 hK1 hK2 => ?_); simp [*]; try ((refine Br.intro (fun hc => ?_) (fun hc => ?_)) <;> (try simp at hc)))
        | (with_reducible refine Cont.go (by assumption) _ ?_)
        | (with_reducible refine Cnt.go (by assumption) ?_))
      refine T.len (t := 13) (els := encL e.kids) (tk := .no) (by simp [*]) fun hlen => ?_
      rw [encL_length] at hlen
      refine T.loop (fun n σ => ∃ (j s : Nat), n = e.kids.length - j ∧ σ.get 13 = .sl (encL e.kids) .no ∧ σ.get 14 = .int .i64 e.kids.length ∧ σ.get 15 = .int .i64 j ∧ σ.get 3 = .int .u64 s ∧ j ≤ e.kids.length ∧ s < 18446744073709551616 ∧ Hold (s = 0 ||| boL (e.kids.take j))) e.kids.length ⟨0, 0, by simp [*], by simp [*], by simp [*], by simp [*], by simp [*], by omega, by omega, by simp [Hold, boL]⟩ ?_
      rintro n σ ⟨j, s, rfl, g1, g2, g3, g4, g5, g6, g7⟩
      have hus : isU64 (s : Int) := ⟨by omega, by omega⟩
      by_cases hj : j < e.kids.length
      · have hw := wrap_succ hlen hj
        have hs := ex_kid_lt e j hj
        have hak := allX_kid hm j hj
        have hkl := boE_lt hak
        have huk : isU64 (boE e.kids[j] : Nat) := ⟨by omega, by omega⟩
        have hol := or_lt g6 hkl
        have hbt := bits_or (k := .u64) rfl (a := s) (b := boE e.kids[j]) (by simpa [IntKind.bits] using g6) (by simpa [IntKind.bits] using hkl)
        have hnx : Hold (s ||| boE e.kids[j] = 0 ||| boL (e.kids.take (j + 1))) := by unfold Hold at *; rw [boL_take _ _ hj, g7, Nat.or_assoc]
        clear g7
        repeat' (first
          | (with_reducible refine T.sq fun K hK => ?_)
          | ((first | ((with_reducible refine T.reg hE ?hd ?_); (case hd => kernel_rfl)) | ((with_reducible refine T.any hE mixed ?hd ?hok ?_); (case hd => kernel_rfl); (case hok => kernel_rfl))); simp [*]; (repeat' (split; all_goals (rename_i hc; try simp [*]))))
          | ((with_reducible refine T.ret ?_); refine fin_pure ?_; simp [*]; try (change Hold _))
          | (with_reducible refine T.block ?_)
          | ((with_reducible refine T.skip ?_); simp [*])
          | ((with_reducible refine T.exit ?_); simp [*])
          | ((with_reducible refine T.br fun K1 K2 hK1 hK2 => ?_); simp [*]; try ((refine Br.intro (fun hc => ?_) (fun hc => ?_)) <;> (try simp at hc)))
          | (with_reducible refine Cont.go (by assumption) _ ?_)
          | (with_reducible refine Cnt.go (by assumption) ?_))
        exact ⟨e.kids.length - (j + 1), by omega, j + 1, rfl, by omega, _, rfl, by omega, hol, by first | exact hnx | simpa [Hold] using hnx⟩
      · have w8 : j = e.kids.length := by omega
        have w9 : e.kids.take j = e.kids := by rw [w8, List.take_length]
        rw [w9] at g7
        clear w9
        have he : Hold (boE e = s) := by unfold Hold at *; rw [boE_eq, g7, hp]
        repeat' (first
          | (with_reducible refine T.sq fun K hK => ?_)
          | ((first | ((with_reducible refine T.reg hE ?hd ?_); (case hd => kernel_rfl)) | ((with_reducible refine T.any hE mixed ?hd ?hok ?_); (case hd => kernel_rfl); (case hok => kernel_rfl))); simp [*]; (repeat' (split; all_goals (rename_i hc; try simp [*]))))
          | ((with_reducible refine T.ret ?_); refine fin_pure ?_; simp [*]; try (change Hold _))
          | (with_reducible refine T.block ?_)
          | ((with_reducible refine T.skip ?_); simp [*])
          | ((with_reducible refine T.exit ?_); simp [*])
          | ((with_reducible refine T.br fun K1 K2 hK1 hK2 => ?_); simp [*]; try ((refine Br.intro (fun hc => ?_) (fun hc => ?_)) <;> (try simp at hc)))
          | (with_reducible refine Cont.go (by assumption) _ ?_)
          | (with_reducible refine Cnt.go (by assumption) ?_))
        all_goals (unfold Hold at *; rw [he])
  · cases hr
set_option maxHeartbeats 1000000 in
theorem ok_rBound : PureOk Try.prog 119 (gSet boE) := by
  refine rec1 fun e ih r hr => ?_
  split at hr
  · rename_i hm
    cases hr
    have hokx : ∀ (j : Nat) (hj : j < e.kids.length), okX e.kids[j] := fun j hj => allX_kid hm j hj
    have hE := (((((EnvOk.nil (P := Try.prog) (eq := fun _ => false) (own := fun _ => false) (mem := fun _ => false) EqOk.none).addf ok_rQuant).addf ok_rPow).addf ok_rUnion).addf ih)
    refine ⟨⟨Try.f119, Try.func119, by decide, rfl⟩, pure_of_T Try.func119 rfl (by simp [Try.ntmps119]) fun q => ?_⟩
    have hbl := binP_lt hm
    by_cases c : isQ e = true
    · have c' : e.k = 7 ∨ e.k = 10 := by simpa [isQ] using c
      have hv := shaped_var hm (.inr c')
      have hp : binP e.k e.i = pw e.i.toNat := by unfold binP; rw [if_pos c']
      have hpv : powV e.i = pw e.i.toNat := by unfold powV; rw [if_pos hv]
      clear hv c'
      repeat' (first
        | (with_reducible refine T.sq fun K hK => ?_)
        | ((first | ((with_reducible refine T.reg hE ?hd ?_); (case hd => kernel_rfl)) | ((with_reducible refine T.any hE mixed ?hd ?hok ?_); (case hd => kernel_rfl); (case hok => kernel_rfl))); simp [*]; (repeat' (split; all_goals (rename_i hc; try simp [*]))))
        | ((with_reducible refine T.ret ?_); refine fin_pure ?_; simp [*]; try (change Hold _))
        | (with_reducible refine T.block ?_)
        | ((with_reducible refine T.skip ?_); simp [*])
        | ((with_reducible refine T.exit ?_); simp [*])
        | ((with_reducible refine T.br fun K1 K2 hK1 hK2 => ?_); simp [*]; try ((refine Br.intro (fun hc => ?_) (fun hc => ?_)) <;> (try simp at hc)))
        | (with_reducible refine Cont.go (by assumption) _ ?_)
        | (with_reducible refine Cnt.go (by assumption) ?_))
      refine T.len (t := 12) (els := encL e.kids) (tk := .no) (by simp [*]) fun hlen => ?_
      rw [encL_length] at hlen
      refine T.loop (fun n σ => ∃ (j s : Nat), n = e.kids.length - j ∧ σ.get 12 = .sl (encL e.kids) .no ∧ σ.get 13 = .int .i64 e.kids.length ∧ σ.get 14 = .int .i64 j ∧ σ.get 3 = .int .u64 s ∧ j ≤ e.kids.length ∧ s < 18446744073709551616 ∧ Hold (s = pw e.i.toNat ||| boL (e.kids.take j))) e.kids.length ⟨0, pw e.i.toNat, by simp [*], by simp [*], by simp [*], by simp [*], by simp [*], by omega, hp ▸ hbl, by simp [Hold, boL]⟩ ?_
      rintro n σ ⟨j, s, rfl, g1, g2, g3, g4, g5, g6, g7⟩
      have hus : isU64 (s : Int) := ⟨by omega, by omega⟩
      by_cases hj : j < e.kids.length
      · have hw := wrap_succ hlen hj
        have hs := ex_kid_lt e j hj
        have hak := allX_kid hm j hj
        have hkl := boE_lt hak
        have huk : isU64 (boE e.kids[j] : Nat) := ⟨by omega, by omega⟩
        have hol := or_lt g6 hkl
        have hbt := bits_or (k := .u64) rfl (a := s) (b := boE e.kids[j]) (by simpa [IntKind.bits] using g6) (by simpa [IntKind.bits] using hkl)
        have hnx : Hold (s ||| boE e.kids[j] = pw e.i.toNat ||| boL (e.kids.take (j + 1))) := by unfold Hold at *; rw [boL_take _ _ hj, g7, Nat.or_assoc]
        clear g7
        repeat' (first
          | (with_reducible refine T.sq fun K hK => ?_)
          | ((first | ((with_reducible refine T.reg hE ?hd ?_); (case hd => kernel_rfl)) | ((with_reducible refine T.any hE mixed ?hd ?hok ?_); (case hd => kernel_rfl); (case hok => kernel_rfl))); simp [*]; (repeat' (split; all_goals (rename_i hc; try simp [*]))))
          | ((with_reducible refine T.ret ?_); refine fin_pure ?_; simp [*]; try (change Hold _))
          | (with_reducible refine T.block ?_)
          | ((with_reducible refine T.skip ?_); simp [*])
          | ((with_reducible refine T.exit ?_); simp [*])
          | ((with_reducible refine T.br fun K1 K2 hK1 hK2 => ?_); simp [*]; try ((refine Br.intro (fun hc => ?_) (fun hc => ?_)) <;> (try simp at hc)))
          | (with_reducible refine Cont.go (by assumption) _ ?_)
          | (with_reducible refine Cnt.go (by assumption) ?_))
        exact ⟨e.kids.length - (j + 1), by omega, j + 1, rfl, by omega, _, rfl, by omega, hol, by first | exact hnx | simpa [Hold] using hnx⟩
      · have w8 : j = e.kids.length := by omega
        have w9 : e.kids.take j = e.kids := by rw [w8, List.take_length]
        rw [w9] at g7
        clear w9
        have he : Hold (boE e = s) := by unfold Hold at *; rw [boE_eq, g7, hp]
        repeat' (first
          | (with_reducible refine T.sq fun K hK => ?_)
          | ((first | ((with_reducible refine T.reg hE ?hd ?_); (case hd => kernel_rfl)) | ((with_reducible refine T.any hE mixed ?hd ?hok ?_); (case hd => kernel_rfl); (case hok => kernel_rfl))); simp [*]; (repeat' (split; all_goals (rename_i hc; try simp [*]))))
          | ((with_reducible refine T.ret ?_); refine fin_pure ?_; simp [*]; try (change Hold _))
          | (with_reducible refine T.block ?_)
          | ((with_reducible refine T.skip ?_); simp [*])
          | ((with_reducible refine T.exit ?_); simp [*])
          | ((with_reducible refine T.br fun K1 K2 hK1 hK2 => ?_); simp [*]; try ((refine Br.intro (fun hc => ?_) (fun hc => ?_)) <;> (try simp at hc)))
          | (with_reducible refine Cont.go (by assumption) _ ?_)
          | (with_reducible refine Cnt.go (by assumption) ?_))
        all_goals (unfold Hold at *; rw [he])
    · have hp : binP e.k e.i = 0 := by unfold binP; rw [if_neg (by simpa [isQ] using c)]
      repeat' (first
        | (with_reducible refine T.sq fun K hK => ?_)
        | ((first | ((with_reducible refine T.reg hE ?hd ?_); (case hd => kernel_rfl)) | ((with_reducible refine T.any hE mixed ?hd ?hok ?_); (case hd => kernel_rfl); (case hok => kernel_rfl))); simp [*]; (repeat' (split; all_goals (rename_i hc; try simp [*]))))
        | ((with_reducible refine T.ret ?_); refine fin_pure ?_; simp [*]; try (change Hold _))
        | (with_reducible refine T.block ?_)
        | ((with_reducible refine T.skip ?_); simp [*])
        | ((with_reducible refine T.exit ?_); simp [*])
        | ((with_reducible refine T.br fun K1 K2 hK1 hK2 => ?_); simp [*]; try ((refine Br.intro (fun hc => ?_) (fun hc => ?_)) <;> (try simp at hc)))
        | (with_reducible refine Cont.go (by assumption) _ ?_)
        | (with_reducible refine Cnt.go (by assumption) ?_))
      refine T.len (t := 12) (els := encL e.kids) (tk := .no) (by simp [*]) fun hlen => ?_
      rw [encL_length] at hlen
      refine T.loop (fun n σ => ∃ (j s : Nat), n = e.kids.length - j ∧ σ.get 12 = .sl (encL e.kids) .no ∧ σ.get 13 = .int .i64 e.kids.length ∧ σ.get 14 = .int .i64 j ∧ σ.get 3 = .int .u64 s ∧ j ≤ e.kids.length ∧ s < 18446744073709551616 ∧ Hold (s = 0 ||| boL (e.kids.take j))) e.kids.length ⟨0, 0, by simp [*], by simp [*], by simp [*], by simp [*], by simp [*], by omega, by omega, by simp [Hold, boL]⟩ ?_
      rintro n σ ⟨j, s, rfl, g1, g2, g3, g4, g5, g6, g7⟩
      have hus : isU64 (s : Int) := ⟨by omega, by omega⟩
      by_cases hj : j < e.kids.length
      · have hw := wrap_succ hlen hj
        have hs := ex_kid_lt e j hj
        have hak := allX_kid hm j hj
        have hkl := boE_lt hak
        have huk : isU64 (boE e.kids[j] : Nat) := ⟨by omega, by omega⟩
        have hol := or_lt g6 hkl
        have hbt := bits_or (k := .u64) rfl (a := s) (b := boE e.kids[j]) (by simpa [IntKind.bits] using g6) (by simpa [IntKind.bits] using hkl)
        have hnx : Hold (s ||| boE e.kids[j] = 0 ||| boL (e.kids.take (j + 1))) := by unfold Hold at *; rw [boL_take _ _ hj, g7, Nat.or_assoc]
        clear g7
        repeat' (first
          | (with_reducible refine T.sq fun K hK => ?_)
          | ((first | ((with_reducible refine T.reg hE ?hd ?_); (case hd => kernel_rfl)) | ((with_reducible refine T.any hE mixed ?hd ?hok ?_); (case hd => kernel_rfl); (case hok => kernel_rfl))); simp [*]; (repeat' (split; all_goals (rename_i hc; try simp [*]))))
          | ((with_reducible refine T.ret ?_); refine fin_pure ?_; simp [*]; try (change Hold _))
          | (with_reducible refine T.block ?_)
          | ((with_reducible refine T.skip ?_); simp [*])
          | ((with_reducible refine T.exit ?_); simp [*])
          | ((with_reducible refine T.br fun K1 K2 hK1 hK2 => ?_); simp [*]; try ((refine Br.intro (fun hc => ?_) (fun hc => ?_)) <;> (try simp at hc)))
          | (with_reducible refine Cont.go (by assumption) _ ?_)
          | (with_reducible refine Cnt.go (by assumption) ?_))
        exact ⟨e.kids.length - (j + 1), by omega, j + 1, rfl, by omega, _, rfl, by omega, hol, by first | exact hnx | simpa [Hold] using hnx⟩
      · have w8 : j = e.kids.length := by omega
        have w9 : e.kids.take j = e.kids := by rw [w8, List.take_length]
        rw [w9] at g7
        clear w9
        have he : Hold (boE e = s) := by unfold Hold at *; rw [boE_eq, g7, hp]
        repeat' (first
          | (with_reducible refine T.sq fun K hK => ?_)
          | ((first | ((with_reducible refine T.reg hE ?hd ?_); (case hd => kernel_rfl)) | ((with_reducible refine T.any hE mixed ?hd ?hok ?_); (case hd => kernel_rfl); (case hok => kernel_rfl))); simp [*]; (repeat' (split; all_goals (rename_i hc; try simp [*]))))
          | ((with_reducible refine T.ret ?_); refine fin_pure ?_; simp [*]; try (change Hold _))
          | (with_reducible refine T.block ?_)
          | ((with_reducible refine T.skip ?_); simp [*])
          | ((with_reducible refine T.exit ?_); simp [*])
          | ((with_reducible refine T.br fun K1 K2 hK1 hK2 => ?_); simp [*]; try ((refine Br.intro (fun hc => ?_) (fun hc => ?_)) <;> (try simp at hc)))
          | (with_reducible refine Cont.go (by assumption) _ ?_)
          | (with_reducible refine Cnt.go (by assumption) ?_))
        all_goals (unfold Hold at *; rw [he])
  · cases hr
set_option maxHeartbeats 1000000 in
theorem ok_rOcc : PureOk Try.prog 118 (gSet ocE) := by
  refine rec1 fun e ih r hr => ?_
  split at hr
  · rename_i hm
    cases hr
    have hokx : ∀ (j : Nat) (hj : j < e.kids.length), okX e.kids[j] := fun j hj => allX_kid hm j hj
    have hE := ((((EnvOk.nil (P := Try.prog) (eq := fun _ => false) (own := fun _ => false) (mem := fun _ => false) EqOk.none).addf ok_rPow).addf ok_rUnion).addf ih)
    refine ⟨⟨Try.f118, Try.func118, by decide, rfl⟩, pure_of_T Try.func118 rfl (by simp [Try.ntmps118]) fun q => ?_⟩
    by_cases c : e.k = 1
    · have hv := shaped_var hm (.inl c)
      have hpv : powV e.i = pw e.i.toNat := by unfold powV; rw [if_pos hv]
      have he : Hold (ocE e = pw e.i.toNat) := by unfold Hold; rw [ocE_eq, if_pos c]
      repeat' (first
        | (with_reducible refine T.sq fun K hK => ?_)
        | ((first | ((with_reducible refine T.reg hE ?hd ?_); (case hd => kernel_rfl)) | ((with_reducible refine T.any hE mixed ?hd ?hok ?_); (case hd => kernel_rfl); (case hok => kernel_rfl))); simp [*]; (repeat' (split; all_goals (rename_i hc; try simp [*]))))
        | ((with_reducible refine T.ret ?_); refine fin_pure ?_; simp [*]; try (change Hold _))
        | (with_reducible refine T.block ?_)
        | ((with_reducible refine T.skip ?_); simp [*])
        | ((with_reducible refine T.exit ?_); simp [*])
        | ((with_reducible refine T.br fun K1 K2 hK1 hK2 => ?_); simp [*]; try ((refine Br.intro (fun hc => ?_) (fun hc => ?_)) <;> (try simp at hc)))
        | (with_reducible refine Cont.go (by assumption) _ ?_)
        | (with_reducible refine Cnt.go (by assumption) ?_))
      all_goals (unfold Hold at *; rw [he])
    · repeat' (first
        | (with_reducible refine T.sq fun K hK => ?_)
        | ((first | ((with_reducible refine T.reg hE ?hd ?_); (case hd => kernel_rfl)) | ((with_reducible refine T.any hE mixed ?hd ?hok ?_); (case hd => kernel_rfl); (case hok => kernel_rfl))); simp [*]; (repeat' (split; all_goals (rename_i hc; try simp [*]))))
        | ((with_reducible refine T.ret ?_); refine fin_pure ?_; simp [*]; try (change Hold _))
        | (with_reducible refine T.block ?_)
        | ((with_reducible refine T.skip ?_); simp [*])
        | ((with_reducible refine T.exit ?_); simp [*])
        | ((with_reducible refine T.br fun K1 K2 hK1 hK2 => ?_); simp [*]; try ((refine Br.intro (fun hc => ?_) (fun hc => ?_)) <;> (try simp at hc)))
        | (with_reducible refine Cont.go (by assumption) _ ?_)
        | (with_reducible refine Cnt.go (by assumption) ?_))
      refine T.len (t := 13) (els := encL e.kids) (tk := .no) (by simp [*]) fun hlen => ?_
      rw [encL_length] at hlen
      refine T.loop (fun n σ => ∃ (j s : Nat), n = e.kids.length - j ∧ σ.get 13 = .sl (encL e.kids) .no ∧ σ.get 14 = .int .i64 e.kids.length ∧ σ.get 15 = .int .i64 j ∧ σ.get 3 = .int .u64 s ∧ j ≤ e.kids.length ∧ s < 18446744073709551616 ∧ Hold (s = 0 ||| ocL (e.kids.take j))) e.kids.length ⟨0, 0, by simp [*], by simp [*], by simp [*], by simp [*], by simp [*], by omega, by omega, by simp [Hold, ocL]⟩ ?_
      rintro n σ ⟨j, s, rfl, g1, g2, g3, g4, g5, g6, g7⟩
      have hus : isU64 (s : Int) := ⟨by omega, by omega⟩
      by_cases hj : j < e.kids.length
      · have hw := wrap_succ hlen hj
        have hs := ex_kid_lt e j hj
        have hak := allX_kid hm j hj
        have hkl := ocE_lt hak
        have huk : isU64 (ocE e.kids[j] : Nat) := ⟨by omega, by omega⟩
        have hol := or_lt g6 hkl
        have hbt := bits_or (k := .u64) rfl (a := s) (b := ocE e.kids[j]) (by simpa [IntKind.bits] using g6) (by simpa [IntKind.bits] using hkl)
        have hnx : Hold (s ||| ocE e.kids[j] = 0 ||| ocL (e.kids.take (j + 1))) := by unfold Hold at *; rw [ocL_take _ _ hj, g7, Nat.or_assoc]
        clear g7
        repeat' (first
          | (with_reducible refine T.sq fun K hK => ?_)
          | ((first | ((with_reducible refine T.reg hE ?hd ?_); (case hd => kernel_rfl)) | ((with_reducible refine T.any hE mixed ?hd ?hok ?_); (case hd => kernel_rfl); (case hok => kernel_rfl))); simp [*]; (repeat' (split; all_goals (rename_i hc; try simp [*]))))
          | ((with_reducible refine T.ret ?_); refine fin_pure ?_; simp [*]; try (change Hold _))
          | (with_reducible refine T.block ?_)
          | ((with_reducible refine T.skip ?_); simp [*])
          | ((with_reducible refine T.exit ?_); simp [*])
          | ((with_reducible refine T.br fun K1 K2 hK1 hK2 => ?_); simp [*]; try ((refine Br.intro (fun hc => ?_) (fun hc => ?_)) <;> (try simp at hc)))
          | (with_reducible refine Cont.go (by assumption) _ ?_)
          | (with_reducible refine Cnt.go (by assumption) ?_))
        exact ⟨e.kids.length - (j + 1), by omega, j + 1, rfl, by omega, _, rfl, by omega, hol, by first | exact hnx | simpa [Hold] using hnx⟩
      · have w8 : j = e.kids.length := by omega
        have w9 : e.kids.take j = e.kids := by rw [w8, List.take_length]
        rw [w9] at g7
        clear w9
        have he : Hold (ocE e = s) := by unfold Hold at *; rw [ocE_eq, if_neg c, g7]; simp
        repeat' (first
          | (with_reducible refine T.sq fun K hK => ?_)
          | ((first | ((with_reducible refine T.reg hE ?hd ?_); (case hd => kernel_rfl)) | ((with_reducible refine T.any hE mixed ?hd ?hok ?_); (case hd => kernel_rfl); (case hok => kernel_rfl))); simp [*]; (repeat' (split; all_goals (rename_i hc; try simp [*]))))
          | ((with_reducible refine T.ret ?_); refine fin_pure ?_; simp [*]; try (change Hold _))
          | (with_reducible refine T.block ?_)
          | ((with_reducible refine T.skip ?_); simp [*])
          | ((with_reducible refine T.exit ?_); simp [*])
          | ((with_reducible refine T.br fun K1 K2 hK1 hK2 => ?_); simp [*]; try ((refine Br.intro (fun hc => ?_) (fun hc => ?_)) <;> (try simp at hc)))
          | (with_reducible refine Cont.go (by assumption) _ ?_)
          | (with_reducible refine Cnt.go (by assumption) ?_))
        all_goals (unfold Hold at *; rw [he])
  · cases hr
set_option maxHeartbeats 1000000 in
theorem ok_rFreeS : PureOk Try.prog 40 (gSet frE) := by
  refine rec1 fun e ih r hr => ?_
  split at hr
  · rename_i hm
    cases hr
    have hokx : ∀ (j : Nat) (hj : j < e.kids.length), okX e.kids[j] := fun j hj => allX_kid hm j hj
    have hE := ((((((EnvOk.nil (P := Try.prog) (eq := fun _ => false) (own := fun _ => false) (mem := fun _ => false) EqOk.none).addf ok_rQuant).addf ok_rPow).addf ok_rUnion).addf ok_rWithout).addf ih)
    refine ⟨⟨Try.f40, Try.func40, by decide, rfl⟩, pure_of_T Try.func40 rfl (by simp [Try.ntmps40]) fun q => ?_⟩
    by_cases c : e.k = 1
    · have hv := shaped_var hm (.inl c)
      have hpv : powV e.i = pw e.i.toNat := by unfold powV; rw [if_pos hv]
      have he : Hold (frE e = pw e.i.toNat) := by unfold Hold; rw [frE_eq, if_pos c]
      repeat' (first
        | (with_reducible refine T.sq fun K hK => ?_)
        | ((first | ((with_reducible refine T.reg hE ?hd ?_); (case hd => kernel_rfl)) | ((with_reducible refine T.any hE mixed ?hd ?hok ?_); (case hd => kernel_rfl); (case hok => kernel_rfl))); simp [*]; (repeat' (split; all_goals (rename_i hc; try simp [*]))))
        | ((with_reducible refine T.ret ?_); refine fin_pure ?_; simp [*]; try (change Hold _))
        | (with_reducible refine T.block ?_)
        | ((with_reducible refine T.skip ?_); simp [*])
        | ((with_reducible refine T.exit ?_); simp [*])
        | ((with_reducible refine T.br fun K1 K2 hK1 hK2 => ?_); simp [*]; try ((refine Br.intro (fun hc => ?_) (fun hc => ?_)) <;> (try simp at hc)))
        | (with_reducible refine Cont.go (by assumption) _ ?_)
        | (with_reducible refine Cnt.go (by assumption) ?_))
      all_goals (unfold Hold at *; rw [he])
    · repeat' (first
        | (with_reducible refine T.sq fun K hK => ?_)
        | ((first | ((with_reducible refine T.reg hE ?hd ?_); (case hd => kernel_rfl)) | ((with_reducible refine T.any hE mixed ?hd ?hok ?_); (case hd => kernel_rfl); (case hok => kernel_rfl))); simp [*]; (repeat' (split; all_goals (rename_i hc; try simp [*]))))
        | ((with_reducible refine T.ret ?_); refine fin_pure ?_; simp [*]; try (change Hold _))
        | (with_reducible refine T.block ?_)
        | ((with_reducible refine T.skip ?_); simp [*])
        | ((with_reducible refine T.exit ?_); simp [*])
        | ((with_reducible refine T.br fun K1 K2 hK1 hK2 => ?_); simp [*]; try ((refine Br.intro (fun hc => ?_) (fun hc => ?_)) <;> (try simp at hc)))
        | (with_reducible refine Cont.go (by assumption) _ ?_)
        | (with_reducible refine Cnt.go (by assumption) ?_))
      refine T.len (t := 13) (els := encL e.kids) (tk := .no) (by simp [*]) fun hlen => ?_
      rw [encL_length] at hlen
      refine T.loop (fun n σ => ∃ (j s : Nat), n = e.kids.length - j ∧ σ.get 13 = .sl (encL e.kids) .no ∧ σ.get 14 = .int .i64 e.kids.length ∧ σ.get 15 = .int .i64 j ∧ σ.get 3 = .int .u64 s ∧ σ.get 1 = .ptr (0 :: 3 :: q) 0 ∧ σ.M (0 :: 3 :: q) = some (.cells [.int .i64 e.k, .int .i64 e.i, .sl (encL e.kids) .no]) ∧ j ≤ e.kids.length ∧ s < 18446744073709551616 ∧ Hold (s = 0 ||| frL (e.kids.take j))) e.kids.length ⟨0, 0, by simp [*], by simp [*], by simp [*], by simp [*], by simp [*], by simp [*], by simp [*], by omega, by omega, by simp [Hold, frL]⟩ ?_
      rintro n σ ⟨j, s, rfl, g1, g2, g3, g4, q0, q1, g5, g6, g7⟩
      have hus : isU64 (s : Int) := ⟨by omega, by omega⟩
      by_cases hj : j < e.kids.length
      · have hw := wrap_succ hlen hj
        have hs := ex_kid_lt e j hj
        have hak := allX_kid hm j hj
        have hkl := frE_lt hak
        have huk : isU64 (frE e.kids[j] : Nat) := ⟨by omega, by omega⟩
        have hol := or_lt g6 hkl
        have hbt := bits_or (k := .u64) rfl (a := s) (b := frE e.kids[j]) (by simpa [IntKind.bits] using g6) (by simpa [IntKind.bits] using hkl)
        have hnx : Hold (s ||| frE e.kids[j] = 0 ||| frL (e.kids.take (j + 1))) := by unfold Hold at *; rw [frL_take _ _ hj, g7, Nat.or_assoc]
        clear g7
        repeat' (first
          | (with_reducible refine T.sq fun K hK => ?_)
          | ((first | ((with_reducible refine T.reg hE ?hd ?_); (case hd => kernel_rfl)) | ((with_reducible refine T.any hE mixed ?hd ?hok ?_); (case hd => kernel_rfl); (case hok => kernel_rfl))); simp [*]; (repeat' (split; all_goals (rename_i hc; try simp [*]))))
          | ((with_reducible refine T.ret ?_); refine fin_pure ?_; simp [*]; try (change Hold _))
          | (with_reducible refine T.block ?_)
          | ((with_reducible refine T.skip ?_); simp [*])
          | ((with_reducible refine T.exit ?_); simp [*])
          | ((with_reducible refine T.br fun K1 K2 hK1 hK2 => ?_); simp [*]; try ((refine Br.intro (fun hc => ?_) (fun hc => ?_)) <;> (try simp at hc)))
          | (with_reducible refine Cont.go (by assumption) _ ?_)
          | (with_reducible refine Cnt.go (by assumption) ?_))
        exact ⟨e.kids.length - (j + 1), by omega, j + 1, rfl, by omega, _, rfl, by omega, hol, by first | exact hnx | simpa [Hold] using hnx⟩
      · have w8 : j = e.kids.length := by omega
        have w9 : e.kids.take j = e.kids := by rw [w8, List.take_length]
        rw [w9] at g7
        clear w9
        rw [Nat.zero_or] at g7
        by_cases c2 : isQ e = true
        · have c' : e.k = 7 ∨ e.k = 10 := by simpa [isQ] using c2
          have hv := shaped_var hm (.inr c')
          have hwo : Hold (withoutN s e.i = frE e) := by unfold Hold at *; rw [frE_eq, if_neg c, g7]; unfold withoutN binP; rw [if_pos (by omega), if_pos c']
          clear hv c'
          repeat' (first
            | (with_reducible refine T.sq fun K hK => ?_)
            | ((first | ((with_reducible refine T.reg hE ?hd ?_); (case hd => kernel_rfl)) | ((with_reducible refine T.any hE mixed ?hd ?hok ?_); (case hd => kernel_rfl); (case hok => kernel_rfl))); simp [*]; (repeat' (split; all_goals (rename_i hc; try simp [*]))))
            | ((with_reducible refine T.ret ?_); refine fin_pure ?_; simp [*]; try (change Hold _))
            | (with_reducible refine T.block ?_)
            | ((with_reducible refine T.skip ?_); simp [*])
            | ((with_reducible refine T.exit ?_); simp [*])
            | ((with_reducible refine T.br fun K1 K2 hK1 hK2 => ?_); simp [*]; try ((refine Br.intro (fun hc => ?_) (fun hc => ?_)) <;> (try simp at hc)))
            | (with_reducible refine Cont.go (by assumption) _ ?_)
            | (with_reducible refine Cnt.go (by assumption) ?_))
          all_goals (unfold Hold at *; rw [hwo])
        · have he : Hold (frE e = s) := by unfold Hold at *; rw [frE_eq, if_neg c, g7]; unfold binP; rw [if_neg (by simpa [isQ] using c2)]; simp [dif]
          repeat' (first
            | (with_reducible refine T.sq fun K hK => ?_)
            | ((first | ((with_reducible refine T.reg hE ?hd ?_); (case hd => kernel_rfl)) | ((with_reducible refine T.any hE mixed ?hd ?hok ?_); (case hd => kernel_rfl); (case hok => kernel_rfl))); simp [*]; (repeat' (split; all_goals (rename_i hc; try simp [*]))))
            | ((with_reducible refine T.ret ?_); refine fin_pure ?_; simp [*]; try (change Hold _))
            | (with_reducible refine T.block ?_)
            | ((with_reducible refine T.skip ?_); simp [*])
            | ((with_reducible refine T.exit ?_); simp [*])
            | ((with_reducible refine T.br fun K1 K2 hK1 hK2 => ?_); simp [*]; try ((refine Br.intro (fun hc => ?_) (fun hc => ?_)) <;> (try simp at hc)))
            | (with_reducible refine Cont.go (by assumption) _ ?_)
            | (with_reducible refine Cnt.go (by assumption) ?_))
          all_goals (unfold Hold at *; rw [he])
  · cases hr
end Go.Proofs.Ytiippmhlkcbjmaa.Ax
