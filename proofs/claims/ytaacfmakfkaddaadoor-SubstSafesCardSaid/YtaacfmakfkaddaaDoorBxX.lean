/- Contracts: the sets of an expression, by the program and by the reference. -/
import Derived.Test.YtaacfmakfkaddaaDoorBxU
import Derived.Test.YtaacfmakfkaddaaDoorBxJ
set_option linter.unusedVariables false
set_option linter.unusedSimpArgs false
namespace Go.Proofs.YtaacfmakfkaddaaDoor.Ax
section
open Go Go.Proofs

def okX (e : Ex) : Prop := allX e = true
noncomputable instance (e : Ex) : Decidable (okX e) := Classical.propDecidable _
@[simp] noncomputable def gSet (F : Ex → Nat) : List V → Option V := f1 kE fun e => if okX e then some (.int .u64 (F e : Nat)) else none
def vaE (e : Ex) : Nat := boE e ||| ocE e
theorem vaE_lt {e : Ex} (h : allX e = true) : vaE e < 18446744073709551616 := or_lt (boE_lt h) (ocE_lt h)
theorem u64_nat {n : Nat} (h : n < 18446744073709551616) : isU64 (n : Int) := ⟨by omega, by omega⟩
theorem ok_freeIn : PureOk Tryd.prog 66 (gSet frE) := by
  intro args r h
  obtain ⟨e, rfl, hr⟩ := f1_inv h; clear h
  split at hr
  · rename_i hm
    cases hr
    have hE := ((EnvOk.nil (P := Tryd.prog) (eq := fun _ => false) (own := fun _ => false) (mem := fun _ => false) EqOk.none).addf (ok_gather ok_isFree))
    refine ⟨⟨Tryd.f66, Tryd.func66, by decide, rfl⟩, pure_of_T Tryd.func66 rfl (by simp [Tryd.ntmps66]) fun q => ?_⟩
    have hok := okGat_mk 107 hm
    have hv : runO (stp1 prF) (occE e 0) 0 = frE e := by rw [free_run e 0 0 hm]; simp [dif]
    repeat' (first | (with_reducible refine T.sq fun K hK => ?_) | ((first | ((with_reducible refine T.reg hE ?hd ?_); (case hd => kernel_rfl)) | ((with_reducible refine T.any hE mixed ?hd ?hok ?_); (case hd => kernel_rfl); (case hok => kernel_rfl))); simp [*]; (repeat' (split; all_goals (rename_i hc; try simp [*])))) | ((with_reducible refine T.ret ?_); refine fin_pure ?_; simp [*]; try (change Hold _)) | (with_reducible refine T.block ?_) | ((with_reducible refine T.skip ?_); simp [*]) | ((with_reducible refine T.exit ?_); simp [*]) | ((with_reducible refine T.br fun K1 K2 hK1 hK2 => ?_); simp [*]; try ((refine Br.intro (fun hc => ?_) (fun hc => ?_)) <;> (try simp at hc))) | (with_reducible refine Cont.go (by assumption) _ ?_) | (with_reducible refine Cnt.go (by assumption) ?_))
  · cases hr
set_option maxHeartbeats 1000000 in
theorem ok_named : PureOk Tryd.prog 114 (gSet boE) := by
  refine rec1 fun e ih r hr => ?_
  split at hr
  · rename_i hm
    cases hr
    have hokx : ∀ (j : Nat) (hj : j < e.kids.length), okX e.kids[j] := fun j hj => allX_kid hm j hj
    have hE := (((EnvOk.nil (P := Tryd.prog) (eq := fun _ => false) (own := fun _ => false) (mem := fun _ => false) EqOk.none).addf ok_fBinds).addf ih)
    refine ⟨⟨Tryd.f114, Tryd.func114, by decide, rfl⟩, pure_of_T Tryd.func114 rfl (by simp [Tryd.ntmps114]) fun q => ?_⟩
    have hbl := binP_lt hm
    by_cases c : isQb e = true
    · have c' : e.k = 7 ∨ e.k = 10 := by simpa [isQb] using c
      have hv := shaped_var hm (.inr c')
      have hp : binP e.k e.i = pw e.i.toNat := by unfold binP; rw [if_pos c']
      obtain ⟨m, hmm⟩ := Int.eq_ofNat_of_zero_le hv.1
      have hs0 : IntKind.u64.wrap e.i = e.i := by rw [hmm]; exact wrap64u (by omega)
      have hs2 : IntKind.u64.wrap (2 ^ min e.i.toNat IntKind.u64.bits) = (pw e.i.toNat : Nat) := shl_pw (by omega)
      have hv1 := hv.1
      clear hmm hv c'
      repeat' (first | (with_reducible refine T.sq fun K hK => ?_) | ((first | ((with_reducible refine T.reg hE ?hd ?_); (case hd => kernel_rfl)) | ((with_reducible refine T.any hE mixed ?hd ?hok ?_); (case hd => kernel_rfl); (case hok => kernel_rfl))); simp [*]; (repeat' (split; all_goals (rename_i hc; try simp [*])))) | ((with_reducible refine T.ret ?_); refine fin_pure ?_; simp [*]; try (change Hold _)) | (with_reducible refine T.block ?_) | ((with_reducible refine T.skip ?_); simp [*]) | ((with_reducible refine T.exit ?_); simp [*]) | ((with_reducible refine T.br fun K1 K2 hK1 hK2 => ?_); simp [*]; try ((refine Br.intro (fun hc => ?_) (fun hc => ?_)) <;> (try simp at hc))) | (with_reducible refine Cont.go (by assumption) _ ?_) | (with_reducible refine Cnt.go (by assumption) ?_))
      refine T.len (t := 13) (els := encL e.kids) (tk := .no) (by simp [*]) fun hlen => ?_
      rw [encL_length] at hlen
      refine T.loop (fun n σ => ∃ (j s : Nat), n = e.kids.length - j ∧ σ.get 13 = .sl (encL e.kids) .no ∧ σ.get 14 = .int .i64 e.kids.length ∧ σ.get 15 = .int .i64 j ∧ σ.get 3 = .int .u64 s ∧ j ≤ e.kids.length ∧ s < 18446744073709551616 ∧ Hold (s = pw e.i.toNat ||| boL (e.kids.take j))) e.kids.length ⟨0, pw e.i.toNat, by simp [*], by simp [*], by simp [*], by simp [*], by simp [*], by omega, hp ▸ hbl, by simp [Hold, boL]⟩ ?_
      rintro n σ ⟨j, s, rfl, g1, g2, g3, g4, g5, g6, g7⟩
      have hus : isU64 (s : Int) := ⟨by omega, by omega⟩
      by_cases hj : j < e.kids.length
      · have hw := wrap_succ hlen hj
        have hs := ex_kid_lt e j hj
        have hak := allX_kid hm j hj
        have hkl := boE_lt hak
        have huk : isU64 (boE e.kids[j] : Nat) := ⟨by omega, by omega⟩
        have hol := or_lt g6 hkl
        have hbt := bits_or (k := .u64) rfl (a := s) (b := boE e.kids[j]) (by simpa [IntKind.bits] using g6) (by simpa [IntKind.bits] using hkl)
        have hnx : Hold (s ||| boE e.kids[j] = pw e.i.toNat ||| boL (e.kids.take (j + 1))) := by unfold Hold at *; rw [boL_take _ _ hj, g7, Nat.or_assoc]
        clear g7
        repeat' (first | (with_reducible refine T.sq fun K hK => ?_) | ((first | ((with_reducible refine T.reg hE ?hd ?_); (case hd => kernel_rfl)) | ((with_reducible refine T.any hE mixed ?hd ?hok ?_); (case hd => kernel_rfl); (case hok => kernel_rfl))); simp [*]; (repeat' (split; all_goals (rename_i hc; try simp [*])))) | ((with_reducible refine T.ret ?_); refine fin_pure ?_; simp [*]; try (change Hold _)) | (with_reducible refine T.block ?_) | ((with_reducible refine T.skip ?_); simp [*]) | ((with_reducible refine T.exit ?_); simp [*]) | ((with_reducible refine T.br fun K1 K2 hK1 hK2 => ?_); simp [*]; try ((refine Br.intro (fun hc => ?_) (fun hc => ?_)) <;> (try simp at hc))) | (with_reducible refine Cont.go (by assumption) _ ?_) | (with_reducible refine Cnt.go (by assumption) ?_))
        exact ⟨e.kids.length - (j + 1), by omega, j + 1, rfl, by omega, _, rfl, by omega, hol, by first | exact hnx | simpa [Hold] using hnx⟩
      · have w8 : j = e.kids.length := by omega
        have w9 : e.kids.take j = e.kids := by rw [w8, List.take_length]
        rw [w9] at g7
        clear w9
        have he : Hold (boE e = s) := by unfold Hold at *; rw [boE_eq, g7, hp]
        repeat' (first | (with_reducible refine T.sq fun K hK => ?_) | ((first | ((with_reducible refine T.reg hE ?hd ?_); (case hd => kernel_rfl)) | ((with_reducible refine T.any hE mixed ?hd ?hok ?_); (case hd => kernel_rfl); (case hok => kernel_rfl))); simp [*]; (repeat' (split; all_goals (rename_i hc; try simp [*])))) | ((with_reducible refine T.ret ?_); refine fin_pure ?_; simp [*]; try (change Hold _)) | (with_reducible refine T.block ?_) | ((with_reducible refine T.skip ?_); simp [*]) | ((with_reducible refine T.exit ?_); simp [*]) | ((with_reducible refine T.br fun K1 K2 hK1 hK2 => ?_); simp [*]; try ((refine Br.intro (fun hc => ?_) (fun hc => ?_)) <;> (try simp at hc))) | (with_reducible refine Cont.go (by assumption) _ ?_) | (with_reducible refine Cnt.go (by assumption) ?_))
        all_goals (unfold Hold at *; rw [he])
    · have hp : binP e.k e.i = 0 := by unfold binP; rw [if_neg (by simpa [isQb] using c)]
      repeat' (first | (with_reducible refine T.sq fun K hK => ?_) | ((first | ((with_reducible refine T.reg hE ?hd ?_); (case hd => kernel_rfl)) | ((with_reducible refine T.any hE mixed ?hd ?hok ?_); (case hd => kernel_rfl); (case hok => kernel_rfl))); simp [*]; (repeat' (split; all_goals (rename_i hc; try simp [*])))) | ((with_reducible refine T.ret ?_); refine fin_pure ?_; simp [*]; try (change Hold _)) | (with_reducible refine T.block ?_) | ((with_reducible refine T.skip ?_); simp [*]) | ((with_reducible refine T.exit ?_); simp [*]) | ((with_reducible refine T.br fun K1 K2 hK1 hK2 => ?_); simp [*]; try ((refine Br.intro (fun hc => ?_) (fun hc => ?_)) <;> (try simp at hc))) | (with_reducible refine Cont.go (by assumption) _ ?_) | (with_reducible refine Cnt.go (by assumption) ?_))
      refine T.len (t := 13) (els := encL e.kids) (tk := .no) (by simp [*]) fun hlen => ?_
      rw [encL_length] at hlen
      refine T.loop (fun n σ => ∃ (j s : Nat), n = e.kids.length - j ∧ σ.get 13 = .sl (encL e.kids) .no ∧ σ.get 14 = .int .i64 e.kids.length ∧ σ.get 15 = .int .i64 j ∧ σ.get 3 = .int .u64 s ∧ j ≤ e.kids.length ∧ s < 18446744073709551616 ∧ Hold (s = 0 ||| boL (e.kids.take j))) e.kids.length ⟨0, 0, by simp [*], by simp [*], by simp [*], by simp [*], by simp [*], by omega, by omega, by simp [Hold, boL]⟩ ?_
      rintro n σ ⟨j, s, rfl, g1, g2, g3, g4, g5, g6, g7⟩
      have hus : isU64 (s : Int) := ⟨by omega, by omega⟩
      by_cases hj : j < e.kids.length
      · have hw := wrap_succ hlen hj
        have hs := ex_kid_lt e j hj
        have hak := allX_kid hm j hj
        have hkl := boE_lt hak
        have huk : isU64 (boE e.kids[j] : Nat) := ⟨by omega, by omega⟩
        have hol := or_lt g6 hkl
        have hbt := bits_or (k := .u64) rfl (a := s) (b := boE e.kids[j]) (by simpa [IntKind.bits] using g6) (by simpa [IntKind.bits] using hkl)
        have hnx : Hold (s ||| boE e.kids[j] = 0 ||| boL (e.kids.take (j + 1))) := by unfold Hold at *; rw [boL_take _ _ hj, g7, Nat.or_assoc]
        clear g7
        repeat' (first | (with_reducible refine T.sq fun K hK => ?_) | ((first | ((with_reducible refine T.reg hE ?hd ?_); (case hd => kernel_rfl)) | ((with_reducible refine T.any hE mixed ?hd ?hok ?_); (case hd => kernel_rfl); (case hok => kernel_rfl))); simp [*]; (repeat' (split; all_goals (rename_i hc; try simp [*])))) | ((with_reducible refine T.ret ?_); refine fin_pure ?_; simp [*]; try (change Hold _)) | (with_reducible refine T.block ?_) | ((with_reducible refine T.skip ?_); simp [*]) | ((with_reducible refine T.exit ?_); simp [*]) | ((with_reducible refine T.br fun K1 K2 hK1 hK2 => ?_); simp [*]; try ((refine Br.intro (fun hc => ?_) (fun hc => ?_)) <;> (try simp at hc))) | (with_reducible refine Cont.go (by assumption) _ ?_) | (with_reducible refine Cnt.go (by assumption) ?_))
        exact ⟨e.kids.length - (j + 1), by omega, j + 1, rfl, by omega, _, rfl, by omega, hol, by first | exact hnx | simpa [Hold] using hnx⟩
      · have w8 : j = e.kids.length := by omega
        have w9 : e.kids.take j = e.kids := by rw [w8, List.take_length]
        rw [w9] at g7
        clear w9
        have he : Hold (boE e = s) := by unfold Hold at *; rw [boE_eq, g7, hp]
        repeat' (first | (with_reducible refine T.sq fun K hK => ?_) | ((first | ((with_reducible refine T.reg hE ?hd ?_); (case hd => kernel_rfl)) | ((with_reducible refine T.any hE mixed ?hd ?hok ?_); (case hd => kernel_rfl); (case hok => kernel_rfl))); simp [*]; (repeat' (split; all_goals (rename_i hc; try simp [*])))) | ((with_reducible refine T.ret ?_); refine fin_pure ?_; simp [*]; try (change Hold _)) | (with_reducible refine T.block ?_) | ((with_reducible refine T.skip ?_); simp [*]) | ((with_reducible refine T.exit ?_); simp [*]) | ((with_reducible refine T.br fun K1 K2 hK1 hK2 => ?_); simp [*]; try ((refine Br.intro (fun hc => ?_) (fun hc => ?_)) <;> (try simp at hc))) | (with_reducible refine Cont.go (by assumption) _ ?_) | (with_reducible refine Cnt.go (by assumption) ?_))
        all_goals (unfold Hold at *; rw [he])
  · cases hr
set_option maxHeartbeats 1000000 in
theorem ok_rBound : PureOk Tryd.prog 58 (gSet boE) := by
  refine rec1 fun e ih r hr => ?_
  split at hr
  · rename_i hm
    cases hr
    have hokx : ∀ (j : Nat) (hj : j < e.kids.length), okX e.kids[j] := fun j hj => allX_kid hm j hj
    have hE := (((((EnvOk.nil (P := Tryd.prog) (eq := fun _ => false) (own := fun _ => false) (mem := fun _ => false) EqOk.none).addf ok_rQuant).addf ok_rPow).addf ok_rUnion).addf ih)
    refine ⟨⟨Tryd.f58, Tryd.func58, by decide, rfl⟩, pure_of_T Tryd.func58 rfl (by simp [Tryd.ntmps58]) fun q => ?_⟩
    have hbl := binP_lt hm
    by_cases c : isQ e = true
    · have c' : e.k = 7 ∨ e.k = 10 := by simpa [isQ] using c
      have hv := shaped_var hm (.inr c')
      have hp : binP e.k e.i = pw e.i.toNat := by unfold binP; rw [if_pos c']
      have hpv : powV e.i = pw e.i.toNat := by unfold powV; rw [if_pos hv]
      clear hv c'
      repeat' (first | (with_reducible refine T.sq fun K hK => ?_) | ((first | ((with_reducible refine T.reg hE ?hd ?_); (case hd => kernel_rfl)) | ((with_reducible refine T.any hE mixed ?hd ?hok ?_); (case hd => kernel_rfl); (case hok => kernel_rfl))); simp [*]; (repeat' (split; all_goals (rename_i hc; try simp [*])))) | ((with_reducible refine T.ret ?_); refine fin_pure ?_; simp [*]; try (change Hold _)) | (with_reducible refine T.block ?_) | ((with_reducible refine T.skip ?_); simp [*]) | ((with_reducible refine T.exit ?_); simp [*]) | ((with_reducible refine T.br fun K1 K2 hK1 hK2 => ?_); simp [*]; try ((refine Br.intro (fun hc => ?_) (fun hc => ?_)) <;> (try simp at hc))) | (with_reducible refine Cont.go (by assumption) _ ?_) | (with_reducible refine Cnt.go (by assumption) ?_))
      refine T.len (t := 12) (els := encL e.kids) (tk := .no) (by simp [*]) fun hlen => ?_
      rw [encL_length] at hlen
      refine T.loop (fun n σ => ∃ (j s : Nat), n = e.kids.length - j ∧ σ.get 12 = .sl (encL e.kids) .no ∧ σ.get 13 = .int .i64 e.kids.length ∧ σ.get 14 = .int .i64 j ∧ σ.get 3 = .int .u64 s ∧ j ≤ e.kids.length ∧ s < 18446744073709551616 ∧ Hold (s = pw e.i.toNat ||| boL (e.kids.take j))) e.kids.length ⟨0, pw e.i.toNat, by simp [*], by simp [*], by simp [*], by simp [*], by simp [*], by omega, hp ▸ hbl, by simp [Hold, boL]⟩ ?_
      rintro n σ ⟨j, s, rfl, g1, g2, g3, g4, g5, g6, g7⟩
      have hus : isU64 (s : Int) := ⟨by omega, by omega⟩
      by_cases hj : j < e.kids.length
      · have hw := wrap_succ hlen hj
        have hs := ex_kid_lt e j hj
        have hak := allX_kid hm j hj
        have hkl := boE_lt hak
        have huk : isU64 (boE e.kids[j] : Nat) := ⟨by omega, by omega⟩
        have hol := or_lt g6 hkl
        have hbt := bits_or (k := .u64) rfl (a := s) (b := boE e.kids[j]) (by simpa [IntKind.bits] using g6) (by simpa [IntKind.bits] using hkl)
        have hnx : Hold (s ||| boE e.kids[j] = pw e.i.toNat ||| boL (e.kids.take (j + 1))) := by unfold Hold at *; rw [boL_take _ _ hj, g7, Nat.or_assoc]
        clear g7
        repeat' (first | (with_reducible refine T.sq fun K hK => ?_) | ((first | ((with_reducible refine T.reg hE ?hd ?_); (case hd => kernel_rfl)) | ((with_reducible refine T.any hE mixed ?hd ?hok ?_); (case hd => kernel_rfl); (case hok => kernel_rfl))); simp [*]; (repeat' (split; all_goals (rename_i hc; try simp [*])))) | ((with_reducible refine T.ret ?_); refine fin_pure ?_; simp [*]; try (change Hold _)) | (with_reducible refine T.block ?_) | ((with_reducible refine T.skip ?_); simp [*]) | ((with_reducible refine T.exit ?_); simp [*]) | ((with_reducible refine T.br fun K1 K2 hK1 hK2 => ?_); simp [*]; try ((refine Br.intro (fun hc => ?_) (fun hc => ?_)) <;> (try simp at hc))) | (with_reducible refine Cont.go (by assumption) _ ?_) | (with_reducible refine Cnt.go (by assumption) ?_))
        exact ⟨e.kids.length - (j + 1), by omega, j + 1, rfl, by omega, _, rfl, by omega, hol, by first | exact hnx | simpa [Hold] using hnx⟩
      · have w8 : j = e.kids.length := by omega
        have w9 : e.kids.take j = e.kids := by rw [w8, List.take_length]
        rw [w9] at g7
        clear w9
        have he : Hold (boE e = s) := by unfold Hold at *; rw [boE_eq, g7, hp]
        repeat' (first | (with_reducible refine T.sq fun K hK => ?_) | ((first | ((with_reducible refine T.reg hE ?hd ?_); (case hd => kernel_rfl)) | ((with_reducible refine T.any hE mixed ?hd ?hok ?_); (case hd => kernel_rfl); (case hok => kernel_rfl))); simp [*]; (repeat' (split; all_goals (rename_i hc; try simp [*])))) | ((with_reducible refine T.ret ?_); refine fin_pure ?_; simp [*]; try (change Hold _)) | (with_reducible refine T.block ?_) | ((with_reducible refine T.skip ?_); simp [*]) | ((with_reducible refine T.exit ?_); simp [*]) | ((with_reducible refine T.br fun K1 K2 hK1 hK2 => ?_); simp [*]; try ((refine Br.intro (fun hc => ?_) (fun hc => ?_)) <;> (try simp at hc))) | (with_reducible refine Cont.go (by assumption) _ ?_) | (with_reducible refine Cnt.go (by assumption) ?_))
        all_goals (unfold Hold at *; rw [he])
    · have hp : binP e.k e.i = 0 := by unfold binP; rw [if_neg (by simpa [isQ] using c)]
      repeat' (first | (with_reducible refine T.sq fun K hK => ?_) | ((first | ((with_reducible refine T.reg hE ?hd ?_); (case hd => kernel_rfl)) | ((with_reducible refine T.any hE mixed ?hd ?hok ?_); (case hd => kernel_rfl); (case hok => kernel_rfl))); simp [*]; (repeat' (split; all_goals (rename_i hc; try simp [*])))) | ((with_reducible refine T.ret ?_); refine fin_pure ?_; simp [*]; try (change Hold _)) | (with_reducible refine T.block ?_) | ((with_reducible refine T.skip ?_); simp [*]) | ((with_reducible refine T.exit ?_); simp [*]) | ((with_reducible refine T.br fun K1 K2 hK1 hK2 => ?_); simp [*]; try ((refine Br.intro (fun hc => ?_) (fun hc => ?_)) <;> (try simp at hc))) | (with_reducible refine Cont.go (by assumption) _ ?_) | (with_reducible refine Cnt.go (by assumption) ?_))
      refine T.len (t := 12) (els := encL e.kids) (tk := .no) (by simp [*]) fun hlen => ?_
      rw [encL_length] at hlen
      refine T.loop (fun n σ => ∃ (j s : Nat), n = e.kids.length - j ∧ σ.get 12 = .sl (encL e.kids) .no ∧ σ.get 13 = .int .i64 e.kids.length ∧ σ.get 14 = .int .i64 j ∧ σ.get 3 = .int .u64 s ∧ j ≤ e.kids.length ∧ s < 18446744073709551616 ∧ Hold (s = 0 ||| boL (e.kids.take j))) e.kids.length ⟨0, 0, by simp [*], by simp [*], by simp [*], by simp [*], by simp [*], by omega, by omega, by simp [Hold, boL]⟩ ?_
      rintro n σ ⟨j, s, rfl, g1, g2, g3, g4, g5, g6, g7⟩
      have hus : isU64 (s : Int) := ⟨by omega, by omega⟩
      by_cases hj : j < e.kids.length
      · have hw := wrap_succ hlen hj
        have hs := ex_kid_lt e j hj
        have hak := allX_kid hm j hj
        have hkl := boE_lt hak
        have huk : isU64 (boE e.kids[j] : Nat) := ⟨by omega, by omega⟩
        have hol := or_lt g6 hkl
        have hbt := bits_or (k := .u64) rfl (a := s) (b := boE e.kids[j]) (by simpa [IntKind.bits] using g6) (by simpa [IntKind.bits] using hkl)
        have hnx : Hold (s ||| boE e.kids[j] = 0 ||| boL (e.kids.take (j + 1))) := by unfold Hold at *; rw [boL_take _ _ hj, g7, Nat.or_assoc]
        clear g7
        repeat' (first | (with_reducible refine T.sq fun K hK => ?_) | ((first | ((with_reducible refine T.reg hE ?hd ?_); (case hd => kernel_rfl)) | ((with_reducible refine T.any hE mixed ?hd ?hok ?_); (case hd => kernel_rfl); (case hok => kernel_rfl))); simp [*]; (repeat' (split; all_goals (rename_i hc; try simp [*])))) | ((with_reducible refine T.ret ?_); refine fin_pure ?_; simp [*]; try (change Hold _)) | (with_reducible refine T.block ?_) | ((with_reducible refine T.skip ?_); simp [*]) | ((with_reducible refine T.exit ?_); simp [*]) | ((with_reducible refine T.br fun K1 K2 hK1 hK2 => ?_); simp [*]; try ((refine Br.intro (fun hc => ?_) (fun hc => ?_)) <;> (try simp at hc))) | (with_reducible refine Cont.go (by assumption) _ ?_) | (with_reducible refine Cnt.go (by assumption) ?_))
        exact ⟨e.kids.length - (j + 1), by omega, j + 1, rfl, by omega, _, rfl, by omega, hol, by first | exact hnx | simpa [Hold] using hnx⟩
      · have w8 : j = e.kids.length := by omega
        have w9 : e.kids.take j = e.kids := by rw [w8, List.take_length]
        rw [w9] at g7
        clear w9
        have he : Hold (boE e = s) := by unfold Hold at *; rw [boE_eq, g7, hp]
        repeat' (first | (with_reducible refine T.sq fun K hK => ?_) | ((first | ((with_reducible refine T.reg hE ?hd ?_); (case hd => kernel_rfl)) | ((with_reducible refine T.any hE mixed ?hd ?hok ?_); (case hd => kernel_rfl); (case hok => kernel_rfl))); simp [*]; (repeat' (split; all_goals (rename_i hc; try simp [*])))) | ((with_reducible refine T.ret ?_); refine fin_pure ?_; simp [*]; try (change Hold _)) | (with_reducible refine T.block ?_) | ((with_reducible refine T.skip ?_); simp [*]) | ((with_reducible refine T.exit ?_); simp [*]) | ((with_reducible refine T.br fun K1 K2 hK1 hK2 => ?_); simp [*]; try ((refine Br.intro (fun hc => ?_) (fun hc => ?_)) <;> (try simp at hc))) | (with_reducible refine Cont.go (by assumption) _ ?_) | (with_reducible refine Cnt.go (by assumption) ?_))
        all_goals (unfold Hold at *; rw [he])
  · cases hr
set_option maxHeartbeats 1000000 in
theorem ok_rOcc : PureOk Tryd.prog 57 (gSet ocE) := by
  refine rec1 fun e ih r hr => ?_
  split at hr
  · rename_i hm
    cases hr
    have hokx : ∀ (j : Nat) (hj : j < e.kids.length), okX e.kids[j] := fun j hj => allX_kid hm j hj
    have hE := ((((EnvOk.nil (P := Tryd.prog) (eq := fun _ => false) (own := fun _ => false) (mem := fun _ => false) EqOk.none).addf ok_rPow).addf ok_rUnion).addf ih)
    refine ⟨⟨Tryd.f57, Tryd.func57, by decide, rfl⟩, pure_of_T Tryd.func57 rfl (by simp [Tryd.ntmps57]) fun q => ?_⟩
    by_cases c : e.k = 1
    · have hv := shaped_var hm (.inl c)
      have hpv : powV e.i = pw e.i.toNat := by unfold powV; rw [if_pos hv]
      have he : Hold (ocE e = pw e.i.toNat) := by unfold Hold; rw [ocE_eq, if_pos c]
      repeat' (first | (with_reducible refine T.sq fun K hK => ?_) | ((first | ((with_reducible refine T.reg hE ?hd ?_); (case hd => kernel_rfl)) | ((with_reducible refine T.any hE mixed ?hd ?hok ?_); (case hd => kernel_rfl); (case hok => kernel_rfl))); simp [*]; (repeat' (split; all_goals (rename_i hc; try simp [*])))) | ((with_reducible refine T.ret ?_); refine fin_pure ?_; simp [*]; try (change Hold _)) | (with_reducible refine T.block ?_) | ((with_reducible refine T.skip ?_); simp [*]) | ((with_reducible refine T.exit ?_); simp [*]) | ((with_reducible refine T.br fun K1 K2 hK1 hK2 => ?_); simp [*]; try ((refine Br.intro (fun hc => ?_) (fun hc => ?_)) <;> (try simp at hc))) | (with_reducible refine Cont.go (by assumption) _ ?_) | (with_reducible refine Cnt.go (by assumption) ?_))
      all_goals (unfold Hold at *; rw [he])
    · repeat' (first | (with_reducible refine T.sq fun K hK => ?_) | ((first | ((with_reducible refine T.reg hE ?hd ?_); (case hd => kernel_rfl)) | ((with_reducible refine T.any hE mixed ?hd ?hok ?_); (case hd => kernel_rfl); (case hok => kernel_rfl))); simp [*]; (repeat' (split; all_goals (rename_i hc; try simp [*])))) | ((with_reducible refine T.ret ?_); refine fin_pure ?_; simp [*]; try (change Hold _)) | (with_reducible refine T.block ?_) | ((with_reducible refine T.skip ?_); simp [*]) | ((with_reducible refine T.exit ?_); simp [*]) | ((with_reducible refine T.br fun K1 K2 hK1 hK2 => ?_); simp [*]; try ((refine Br.intro (fun hc => ?_) (fun hc => ?_)) <;> (try simp at hc))) | (with_reducible refine Cont.go (by assumption) _ ?_) | (with_reducible refine Cnt.go (by assumption) ?_))
      refine T.len (t := 13) (els := encL e.kids) (tk := .no) (by simp [*]) fun hlen => ?_
      rw [encL_length] at hlen
      refine T.loop (fun n σ => ∃ (j s : Nat), n = e.kids.length - j ∧ σ.get 13 = .sl (encL e.kids) .no ∧ σ.get 14 = .int .i64 e.kids.length ∧ σ.get 15 = .int .i64 j ∧ σ.get 3 = .int .u64 s ∧ j ≤ e.kids.length ∧ s < 18446744073709551616 ∧ Hold (s = 0 ||| ocL (e.kids.take j))) e.kids.length ⟨0, 0, by simp [*], by simp [*], by simp [*], by simp [*], by simp [*], by omega, by omega, by simp [Hold, ocL]⟩ ?_
      rintro n σ ⟨j, s, rfl, g1, g2, g3, g4, g5, g6, g7⟩
      have hus : isU64 (s : Int) := ⟨by omega, by omega⟩
      by_cases hj : j < e.kids.length
      · have hw := wrap_succ hlen hj
        have hs := ex_kid_lt e j hj
        have hak := allX_kid hm j hj
        have hkl := ocE_lt hak
        have huk : isU64 (ocE e.kids[j] : Nat) := ⟨by omega, by omega⟩
        have hol := or_lt g6 hkl
        have hbt := bits_or (k := .u64) rfl (a := s) (b := ocE e.kids[j]) (by simpa [IntKind.bits] using g6) (by simpa [IntKind.bits] using hkl)
        have hnx : Hold (s ||| ocE e.kids[j] = 0 ||| ocL (e.kids.take (j + 1))) := by unfold Hold at *; rw [ocL_take _ _ hj, g7, Nat.or_assoc]
        clear g7
        repeat' (first | (with_reducible refine T.sq fun K hK => ?_) | ((first | ((with_reducible refine T.reg hE ?hd ?_); (case hd => kernel_rfl)) | ((with_reducible refine T.any hE mixed ?hd ?hok ?_); (case hd => kernel_rfl); (case hok => kernel_rfl))); simp [*]; (repeat' (split; all_goals (rename_i hc; try simp [*])))) | ((with_reducible refine T.ret ?_); refine fin_pure ?_; simp [*]; try (change Hold _)) | (with_reducible refine T.block ?_) | ((with_reducible refine T.skip ?_); simp [*]) | ((with_reducible refine T.exit ?_); simp [*]) | ((with_reducible refine T.br fun K1 K2 hK1 hK2 => ?_); simp [*]; try ((refine Br.intro (fun hc => ?_) (fun hc => ?_)) <;> (try simp at hc))) | (with_reducible refine Cont.go (by assumption) _ ?_) | (with_reducible refine Cnt.go (by assumption) ?_))
        exact ⟨e.kids.length - (j + 1), by omega, j + 1, rfl, by omega, _, rfl, by omega, hol, by first | exact hnx | simpa [Hold] using hnx⟩
      · have w8 : j = e.kids.length := by omega
        have w9 : e.kids.take j = e.kids := by rw [w8, List.take_length]
        rw [w9] at g7
        clear w9
        have he : Hold (ocE e = s) := by unfold Hold at *; rw [ocE_eq, if_neg c, g7]; simp
        repeat' (first | (with_reducible refine T.sq fun K hK => ?_) | ((first | ((with_reducible refine T.reg hE ?hd ?_); (case hd => kernel_rfl)) | ((with_reducible refine T.any hE mixed ?hd ?hok ?_); (case hd => kernel_rfl); (case hok => kernel_rfl))); simp [*]; (repeat' (split; all_goals (rename_i hc; try simp [*])))) | ((with_reducible refine T.ret ?_); refine fin_pure ?_; simp [*]; try (change Hold _)) | (with_reducible refine T.block ?_) | ((with_reducible refine T.skip ?_); simp [*]) | ((with_reducible refine T.exit ?_); simp [*]) | ((with_reducible refine T.br fun K1 K2 hK1 hK2 => ?_); simp [*]; try ((refine Br.intro (fun hc => ?_) (fun hc => ?_)) <;> (try simp at hc))) | (with_reducible refine Cont.go (by assumption) _ ?_) | (with_reducible refine Cnt.go (by assumption) ?_))
        all_goals (unfold Hold at *; rw [he])
  · cases hr
set_option maxHeartbeats 1000000 in
theorem ok_rFreeS : PureOk Tryd.prog 21 (gSet frE) := by
  refine rec1 fun e ih r hr => ?_
  split at hr
  · rename_i hm
    cases hr
    have hokx : ∀ (j : Nat) (hj : j < e.kids.length), okX e.kids[j] := fun j hj => allX_kid hm j hj
    have hE := ((((((EnvOk.nil (P := Tryd.prog) (eq := fun _ => false) (own := fun _ => false) (mem := fun _ => false) EqOk.none).addf ok_rQuant).addf ok_rPow).addf ok_rUnion).addf ok_rWithout).addf ih)
    refine ⟨⟨Tryd.f21, Tryd.func21, by decide, rfl⟩, pure_of_T Tryd.func21 rfl (by simp [Tryd.ntmps21]) fun q => ?_⟩
    by_cases c : e.k = 1
    · have hv := shaped_var hm (.inl c)
      have hpv : powV e.i = pw e.i.toNat := by unfold powV; rw [if_pos hv]
      have he : Hold (frE e = pw e.i.toNat) := by unfold Hold; rw [frE_eq, if_pos c]
      repeat' (first | (with_reducible refine T.sq fun K hK => ?_) | ((first | ((with_reducible refine T.reg hE ?hd ?_); (case hd => kernel_rfl)) | ((with_reducible refine T.any hE mixed ?hd ?hok ?_); (case hd => kernel_rfl); (case hok => kernel_rfl))); simp [*]; (repeat' (split; all_goals (rename_i hc; try simp [*])))) | ((with_reducible refine T.ret ?_); refine fin_pure ?_; simp [*]; try (change Hold _)) | (with_reducible refine T.block ?_) | ((with_reducible refine T.skip ?_); simp [*]) | ((with_reducible refine T.exit ?_); simp [*]) | ((with_reducible refine T.br fun K1 K2 hK1 hK2 => ?_); simp [*]; try ((refine Br.intro (fun hc => ?_) (fun hc => ?_)) <;> (try simp at hc))) | (with_reducible refine Cont.go (by assumption) _ ?_) | (with_reducible refine Cnt.go (by assumption) ?_))
      all_goals (unfold Hold at *; rw [he])
    · repeat' (first | (with_reducible refine T.sq fun K hK => ?_) | ((first | ((with_reducible refine T.reg hE ?hd ?_); (case hd => kernel_rfl)) | ((with_reducible refine T.any hE mixed ?hd ?hok ?_); (case hd => kernel_rfl); (case hok => kernel_rfl))); simp [*]; (repeat' (split; all_goals (rename_i hc; try simp [*])))) | ((with_reducible refine T.ret ?_); refine fin_pure ?_; simp [*]; try (change Hold _)) | (with_reducible refine T.block ?_) | ((with_reducible refine T.skip ?_); simp [*]) | ((with_reducible refine T.exit ?_); simp [*]) | ((with_reducible refine T.br fun K1 K2 hK1 hK2 => ?_); simp [*]; try ((refine Br.intro (fun hc => ?_) (fun hc => ?_)) <;> (try simp at hc))) | (with_reducible refine Cont.go (by assumption) _ ?_) | (with_reducible refine Cnt.go (by assumption) ?_))
      refine T.len (t := 13) (els := encL e.kids) (tk := .no) (by simp [*]) fun hlen => ?_
      rw [encL_length] at hlen
      refine T.loop (fun n σ => ∃ (j s : Nat), n = e.kids.length - j ∧ σ.get 13 = .sl (encL e.kids) .no ∧ σ.get 14 = .int .i64 e.kids.length ∧ σ.get 15 = .int .i64 j ∧ σ.get 3 = .int .u64 s ∧ σ.get 1 = .ptr (0 :: 3 :: q) 0 ∧ σ.M (0 :: 3 :: q) = some (.cells [.int .i64 e.k, .int .i64 e.i, .sl (encL e.kids) .no]) ∧ j ≤ e.kids.length ∧ s < 18446744073709551616 ∧ Hold (s = 0 ||| frL (e.kids.take j))) e.kids.length ⟨0, 0, by simp [*], by simp [*], by simp [*], by simp [*], by simp [*], by simp [*], by simp [*], by omega, by omega, by simp [Hold, frL]⟩ ?_
      rintro n σ ⟨j, s, rfl, g1, g2, g3, g4, q0, q1, g5, g6, g7⟩
      have hus : isU64 (s : Int) := ⟨by omega, by omega⟩
      by_cases hj : j < e.kids.length
      · have hw := wrap_succ hlen hj
        have hs := ex_kid_lt e j hj
        have hak := allX_kid hm j hj
        have hkl := frE_lt hak
        have huk : isU64 (frE e.kids[j] : Nat) := ⟨by omega, by omega⟩
        have hol := or_lt g6 hkl
        have hbt := bits_or (k := .u64) rfl (a := s) (b := frE e.kids[j]) (by simpa [IntKind.bits] using g6) (by simpa [IntKind.bits] using hkl)
        have hnx : Hold (s ||| frE e.kids[j] = 0 ||| frL (e.kids.take (j + 1))) := by unfold Hold at *; rw [frL_take _ _ hj, g7, Nat.or_assoc]
        clear g7
        repeat' (first | (with_reducible refine T.sq fun K hK => ?_) | ((first | ((with_reducible refine T.reg hE ?hd ?_); (case hd => kernel_rfl)) | ((with_reducible refine T.any hE mixed ?hd ?hok ?_); (case hd => kernel_rfl); (case hok => kernel_rfl))); simp [*]; (repeat' (split; all_goals (rename_i hc; try simp [*])))) | ((with_reducible refine T.ret ?_); refine fin_pure ?_; simp [*]; try (change Hold _)) | (with_reducible refine T.block ?_) | ((with_reducible refine T.skip ?_); simp [*]) | ((with_reducible refine T.exit ?_); simp [*]) | ((with_reducible refine T.br fun K1 K2 hK1 hK2 => ?_); simp [*]; try ((refine Br.intro (fun hc => ?_) (fun hc => ?_)) <;> (try simp at hc))) | (with_reducible refine Cont.go (by assumption) _ ?_) | (with_reducible refine Cnt.go (by assumption) ?_))
        exact ⟨e.kids.length - (j + 1), by omega, j + 1, rfl, by omega, _, rfl, by omega, hol, by first | exact hnx | simpa [Hold] using hnx⟩
      · have w8 : j = e.kids.length := by omega
        have w9 : e.kids.take j = e.kids := by rw [w8, List.take_length]
        rw [w9] at g7
        clear w9
        rw [Nat.zero_or] at g7
        by_cases c2 : isQ e = true
        · have c' : e.k = 7 ∨ e.k = 10 := by simpa [isQ] using c2
          have hv := shaped_var hm (.inr c')
          have hwo : Hold (withoutN s e.i = frE e) := by unfold Hold at *; rw [frE_eq, if_neg c, g7]; unfold withoutN binP; rw [if_pos (by omega), if_pos c']
          clear hv c'
          repeat' (first | (with_reducible refine T.sq fun K hK => ?_) | ((first | ((with_reducible refine T.reg hE ?hd ?_); (case hd => kernel_rfl)) | ((with_reducible refine T.any hE mixed ?hd ?hok ?_); (case hd => kernel_rfl); (case hok => kernel_rfl))); simp [*]; (repeat' (split; all_goals (rename_i hc; try simp [*])))) | ((with_reducible refine T.ret ?_); refine fin_pure ?_; simp [*]; try (change Hold _)) | (with_reducible refine T.block ?_) | ((with_reducible refine T.skip ?_); simp [*]) | ((with_reducible refine T.exit ?_); simp [*]) | ((with_reducible refine T.br fun K1 K2 hK1 hK2 => ?_); simp [*]; try ((refine Br.intro (fun hc => ?_) (fun hc => ?_)) <;> (try simp at hc))) | (with_reducible refine Cont.go (by assumption) _ ?_) | (with_reducible refine Cnt.go (by assumption) ?_))
          all_goals (unfold Hold at *; rw [hwo])
        · have he : Hold (frE e = s) := by unfold Hold at *; rw [frE_eq, if_neg c, g7]; unfold binP; rw [if_neg (by simpa [isQ] using c2)]; simp [dif]
          repeat' (first | (with_reducible refine T.sq fun K hK => ?_) | ((first | ((with_reducible refine T.reg hE ?hd ?_); (case hd => kernel_rfl)) | ((with_reducible refine T.any hE mixed ?hd ?hok ?_); (case hd => kernel_rfl); (case hok => kernel_rfl))); simp [*]; (repeat' (split; all_goals (rename_i hc; try simp [*])))) | ((with_reducible refine T.ret ?_); refine fin_pure ?_; simp [*]; try (change Hold _)) | (with_reducible refine T.block ?_) | ((with_reducible refine T.skip ?_); simp [*]) | ((with_reducible refine T.exit ?_); simp [*]) | ((with_reducible refine T.br fun K1 K2 hK1 hK2 => ?_); simp [*]; try ((refine Br.intro (fun hc => ?_) (fun hc => ?_)) <;> (try simp at hc))) | (with_reducible refine Cont.go (by assumption) _ ?_) | (with_reducible refine Cnt.go (by assumption) ?_))
          all_goals (unfold Hold at *; rw [he])
  · cases hr
end
section
open Go Go.Proofs

theorem ok_all : PureOk Tryd.prog 79 (gSet vaE) := by
  intro args r h
  obtain ⟨e, rfl, hr⟩ := f1_inv h; clear h
  split at hr
  · rename_i hm
    cases hr
    have hE := (((EnvOk.nil (P := Tryd.prog) (eq := fun _ => false) (own := fun _ => false) (mem := fun _ => false) EqOk.none).addf (ok_gather ok_isAll)).addf ok_named)
    refine ⟨⟨Tryd.f79, Tryd.func79, by decide, rfl⟩, pure_of_T Tryd.func79 rfl (by simp [Tryd.ntmps79]) fun q => ?_⟩
    have hok := okGat_mk 115 hm
    have hv : runO (stp1 prA) (occE e 0) 0 = ocE e := by rw [all_run]; simp
    have hokx : okX e := hm
    have hbt : bits .or .u64 (boE e : Nat) (ocE e : Nat) = (vaE e : Nat) := bits_or rfl (by simpa [IntKind.bits] using boE_lt hm) (by simpa [IntKind.bits] using ocE_lt hm)
    repeat' (first | (with_reducible refine T.sq fun K hK => ?_) | ((first | ((with_reducible refine T.reg hE ?hd ?_); (case hd => kernel_rfl)) | ((with_reducible refine T.any hE mixed ?hd ?hok ?_); (case hd => kernel_rfl); (case hok => kernel_rfl))); simp [*]; (repeat' (split; all_goals (rename_i hc; try simp [*])))) | ((with_reducible refine T.ret ?_); refine fin_pure ?_; simp [*]; try (change Hold _)) | (with_reducible refine T.block ?_) | ((with_reducible refine T.skip ?_); simp [*]) | ((with_reducible refine T.exit ?_); simp [*]) | ((with_reducible refine T.br fun K1 K2 hK1 hK2 => ?_); simp [*]; try ((refine Br.intro (fun hc => ?_) (fun hc => ?_)) <;> (try simp at hc))) | (with_reducible refine Cont.go (by assumption) _ ?_) | (with_reducible refine Cnt.go (by assumption) ?_))
  · cases hr
theorem ok_rVarsS : PureOk Tryd.prog 25 (gSet vaE) := by
  intro args r h
  obtain ⟨e, rfl, hr⟩ := f1_inv h; clear h
  split at hr
  · rename_i hm
    cases hr
    have hE := ((((EnvOk.nil (P := Tryd.prog) (eq := fun _ => false) (own := fun _ => false) (mem := fun _ => false) EqOk.none).addf ok_rOcc).addf ok_rBound).addf ok_rUnion)
    refine ⟨⟨Tryd.f25, Tryd.func25, by decide, rfl⟩, pure_of_T Tryd.func25 rfl (by simp [Tryd.ntmps25]) fun q => ?_⟩
    have hokx : okX e := hm
    have h1 := u64_nat (boE_lt hm)
    have h2 := u64_nat (ocE_lt hm)
    have hv : Hold (ocE e ||| boE e = vaE e) := Nat.or_comm _ _
    repeat' (first | (with_reducible refine T.sq fun K hK => ?_) | ((first | ((with_reducible refine T.reg hE ?hd ?_); (case hd => kernel_rfl)) | ((with_reducible refine T.any hE mixed ?hd ?hok ?_); (case hd => kernel_rfl); (case hok => kernel_rfl))); simp [*]; (repeat' (split; all_goals (rename_i hc; try simp [*])))) | ((with_reducible refine T.ret ?_); refine fin_pure ?_; simp [*]; try (change Hold _)) | (with_reducible refine T.block ?_) | ((with_reducible refine T.skip ?_); simp [*]) | ((with_reducible refine T.exit ?_); simp [*]) | ((with_reducible refine T.br fun K1 K2 hK1 hK2 => ?_); simp [*]; try ((refine Br.intro (fun hc => ?_) (fun hc => ?_)) <;> (try simp at hc))) | (with_reducible refine Cont.go (by assumption) _ ?_) | (with_reducible refine Cnt.go (by assumption) ?_))
    all_goals (unfold Hold at *; rw [hv])
  · cases hr
def okOf (fi f : FuncId) (cs : List V) : Prop := f = fi ∧ cs = []
noncomputable instance (fi f : FuncId) (cs : List V) : Decidable (okOf fi f cs) := Classical.propDecidable _
theorem okOf_mk (fi : FuncId) : okOf fi fi [] := ⟨rfl, rfl⟩
def setV (F : Ex → Nat) (e : Ex) : V := .tup [.int .u64 ((if rightE e = 0 then F e else 0 : Nat) : Int), .int .i64 (rightE e)]
@[simp] noncomputable def gOf (fi : FuncId) (F : Ex → Nat) : List V → Option V := fun args => match args with
  | [ev, .fn f cs] => (dec ev).bind fun e => if okOf fi f cs then some (setV F e) else none
  | _ => none
theorem ok_of {fi : FuncId} {F : Ex → Nat} (hi : PureOk Tryd.prog fi (gSet F)) (hne : ¬ 36 = fi) : PureOk Tryd.prog 65 (gOf fi F) := by
  intro args r h
  simp only [gOf] at h
  split at h
  · rename_i ev f cs
    obtain ⟨e, he, h2⟩ := Option.bind_eq_some_iff.1 h
    clear h
    split at h2
    · rename_i hok
      obtain ⟨rfl, rfl⟩ := hok
      obtain rfl := Option.some.inj h2
      obtain rfl := dec_inv he
      clear he
      have hE := (((EnvOk.nil (P := Tryd.prog) (eq := fun _ => false) (own := fun _ => false) (mem := fun _ => false) EqOk.none).addf hi).addf ok_Right)
      refine ⟨⟨Tryd.f65, Tryd.func65, by decide, rfl⟩, pure_of_T Tryd.func65 rfl (by simp [Tryd.ntmps65]) fun q => ?_⟩
      have hne2 : ¬ f = 36 := fun h => hne h.symm
      by_cases v : rightE e = 0
      · obtain ⟨z1, z2, z3⟩ := right_zero v
        have hokx : okX e := z3
        repeat' (first | (with_reducible refine T.sq fun K hK => ?_) | ((first | ((with_reducible refine T.reg hE ?hd ?_); (case hd => kernel_rfl)) | ((with_reducible refine T.any hE mixed ?hd ?hok ?_); (case hd => kernel_rfl); (case hok => kernel_rfl))); simp [*]; (repeat' (split; all_goals (rename_i hc; try simp [*])))) | ((with_reducible refine T.ret ?_); refine fin_pure ?_; simp [*]; try (change Hold _)) | (with_reducible refine T.block ?_) | ((with_reducible refine T.skip ?_); simp [*]) | ((with_reducible refine T.exit ?_); simp [*]) | ((with_reducible refine T.br fun K1 K2 hK1 hK2 => ?_); simp [*]; try ((refine Br.intro (fun hc => ?_) (fun hc => ?_)) <;> (try simp at hc))) | (with_reducible refine Cont.go (by assumption) _ ?_) | (with_reducible refine Cnt.go (by assumption) ?_))
        all_goals (unfold Hold setV; simp [v])
      · repeat' (first | (with_reducible refine T.sq fun K hK => ?_) | ((first | ((with_reducible refine T.reg hE ?hd ?_); (case hd => kernel_rfl)) | ((with_reducible refine T.any hE mixed ?hd ?hok ?_); (case hd => kernel_rfl); (case hok => kernel_rfl))); simp [*]; (repeat' (split; all_goals (rename_i hc; try simp [*])))) | ((with_reducible refine T.ret ?_); refine fin_pure ?_; simp [*]; try (change Hold _)) | (with_reducible refine T.block ?_) | ((with_reducible refine T.skip ?_); simp [*]) | ((with_reducible refine T.exit ?_); simp [*]) | ((with_reducible refine T.br fun K1 K2 hK1 hK2 => ?_); simp [*]; try ((refine Br.intro (fun hc => ?_) (fun hc => ?_)) <;> (try simp at hc))) | (with_reducible refine Cont.go (by assumption) _ ?_) | (with_reducible refine Cnt.go (by assumption) ?_))
        all_goals (unfold Hold setV; simp [v])
    · cases h2
  · cases h
@[simp] def gSetV (F : Ex → Nat) : List V → Option V := f1 kE fun e => some (setV F e)
theorem setV_eq (F : Ex → Nat) (e : Ex) : setV F e = .tup [.int .u64 ((if rightE e = 0 then F e else 0 : Nat) : Int), .int .i64 (rightE e)] := rfl
theorem ok_Vars : PureOk Tryd.prog 39 (gSetV vaE) := by
  intro args r h
  obtain ⟨e, rfl, ⟨⟩⟩ := f1_inv h
  clear h
  have hE := ((EnvOk.nil (P := Tryd.prog) (eq := fun _ => false) (own := fun _ => false) (mem := fun _ => false) EqOk.none).addf (ok_of ok_all (by decide)))
  refine ⟨⟨Tryd.f39, Tryd.func39, by decide, rfl⟩, pure_of_T Tryd.func39 rfl (by simp [Tryd.ntmps39]) fun q => ?_⟩
  have hok := okOf_mk 79
  have hv : setV vaE e = _ := setV_eq vaE e
  repeat' (first | (with_reducible refine T.sq fun K hK => ?_) | ((first | ((with_reducible refine T.reg hE ?hd ?_); (case hd => kernel_rfl)) | ((with_reducible refine T.any hE mixed ?hd ?hok ?_); (case hd => kernel_rfl); (case hok => kernel_rfl))); simp [*]; (repeat' (split; all_goals (rename_i hc; try simp [*])))) | ((with_reducible refine T.ret ?_); refine fin_pure ?_; simp [*]; try (change Hold _)) | (with_reducible refine T.block ?_) | ((with_reducible refine T.skip ?_); simp [*]) | ((with_reducible refine T.exit ?_); simp [*]) | ((with_reducible refine T.br fun K1 K2 hK1 hK2 => ?_); simp [*]; try ((refine Br.intro (fun hc => ?_) (fun hc => ?_)) <;> (try simp at hc))) | (with_reducible refine Cont.go (by assumption) _ ?_) | (with_reducible refine Cnt.go (by assumption) ?_))
theorem ok_Free : PureOk Tryd.prog 32 (gSetV frE) := by
  intro args r h
  obtain ⟨e, rfl, ⟨⟩⟩ := f1_inv h
  clear h
  have hE := ((EnvOk.nil (P := Tryd.prog) (eq := fun _ => false) (own := fun _ => false) (mem := fun _ => false) EqOk.none).addf (ok_of ok_freeIn (by decide)))
  refine ⟨⟨Tryd.f32, Tryd.func32, by decide, rfl⟩, pure_of_T Tryd.func32 rfl (by simp [Tryd.ntmps32]) fun q => ?_⟩
  have hok := okOf_mk 66
  have hv : setV frE e = _ := setV_eq frE e
  repeat' (first | (with_reducible refine T.sq fun K hK => ?_) | ((first | ((with_reducible refine T.reg hE ?hd ?_); (case hd => kernel_rfl)) | ((with_reducible refine T.any hE mixed ?hd ?hok ?_); (case hd => kernel_rfl); (case hok => kernel_rfl))); simp [*]; (repeat' (split; all_goals (rename_i hc; try simp [*])))) | ((with_reducible refine T.ret ?_); refine fin_pure ?_; simp [*]; try (change Hold _)) | (with_reducible refine T.block ?_) | ((with_reducible refine T.skip ?_); simp [*]) | ((with_reducible refine T.exit ?_); simp [*]) | ((with_reducible refine T.br fun K1 K2 hK1 hK2 => ?_); simp [*]; try ((refine Br.intro (fun hc => ?_) (fun hc => ?_)) <;> (try simp at hc))) | (with_reducible refine Cont.go (by assumption) _ ?_) | (with_reducible refine Cnt.go (by assumption) ?_))
@[simp] def gIsVar : List V → Option V := f1 (kI .i64) fun x => some (.bool (decide (0 ≤ x) && decide (x ≤ 63)))
def nfV (x : Int) (e : Ex) : V := if 0 ≤ x ∧ x ≤ 63 then .tup [.bool (decide (rightE e = 0) && !hasB (frE e) x), .int .i64 (rightE e)] else .tup [.bool false, .int .i64 1]
@[simp] def gNotFree : List V → Option V := f2 (kI .i64) kE fun x e => some (nfV x e)
@[simp] noncomputable def gIsFree : List V → Option V := f2 (kI .i64) kE fun x e => if okX e then some (.bool (hasB (frE e) x)) else none
theorem ok_rIsFree : PureOk Tryd.prog 22 gIsFree := by
  intro args r h
  obtain ⟨x, e, rfl, hr⟩ := f2_inv h; clear h
  split at hr
  · rename_i hm
    cases hr
    have hE := (((EnvOk.nil (P := Tryd.prog) (eq := fun _ => false) (own := fun _ => false) (mem := fun _ => false) EqOk.none).addf ok_rFreeS).addf ok_rHas)
    refine ⟨⟨Tryd.f22, Tryd.func22, by decide, rfl⟩, pure_of_T Tryd.func22 rfl (by simp [Tryd.ntmps22]) fun q => ?_⟩
    have hu := u64_nat (frE_lt hm)
    repeat' (first | (with_reducible refine T.sq fun K hK => ?_) | ((first | ((with_reducible refine T.reg hE ?hd ?_); (case hd => kernel_rfl)) | ((with_reducible refine T.any hE mixed ?hd ?hok ?_); (case hd => kernel_rfl); (case hok => kernel_rfl))); simp [*]; (repeat' (split; all_goals (rename_i hc; try simp [*])))) | ((with_reducible refine T.ret ?_); refine fin_pure ?_; simp [*]; try (change Hold _)) | (with_reducible refine T.block ?_) | ((with_reducible refine T.skip ?_); simp [*]) | ((with_reducible refine T.exit ?_); simp [*]) | ((with_reducible refine T.br fun K1 K2 hK1 hK2 => ?_); simp [*]; try ((refine Br.intro (fun hc => ?_) (fun hc => ?_)) <;> (try simp at hc))) | (with_reducible refine Cont.go (by assumption) _ ?_) | (with_reducible refine Cnt.go (by assumption) ?_))
  · cases hr
end
end Go.Proofs.YtaacfmakfkaddaaDoor.Ax
