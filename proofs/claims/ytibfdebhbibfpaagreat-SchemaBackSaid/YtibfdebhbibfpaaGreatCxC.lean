/- Contracts: what is caught; FreeCatches, walked. -/
import Derived.Test.YtibfdebhbibfpaaGreatBxX
import Derived.Test.YtibfdebhbibfpaaGreatPlG
import Derived.Test.YtibfdebhbibfpaaGreatBxZ
set_option linter.unusedVariables false
set_option linter.unusedSimpArgs false
namespace Go.Proofs.YtibfdebhbibfpaaGreat.Ax
section
open Go Go.Proofs

section
variable {P : Program} {f : FuncId} {β γ : Type} {B : Kd β} {C : Kd γ}
theorem recz {F : β → γ → Ex → Option V} (h : ∀ e, PureOk P f (f3 B C kE fun b c x => if SizeOf.sizeOf x < SizeOf.sizeOf e then F b c x else none) → ∀ b c r, F b c e = some r → Okat P f [B.enc b, C.enc c, enc e] r) : PureOk P f (f3 B C kE F) := by
  have main : ∀ (n : Nat) (e : Ex), SizeOf.sizeOf e < n → ∀ b c r, F b c e = some r → Okat P f [B.enc b, C.enc c, enc e] r := by
    intro n
    induction n with
    | zero => intro e he; omega
    | succ n ih =>
      intro e he b c r hr
      refine h e (fun args r h1 => ?_) b c r hr
      obtain ⟨b, c, x, rfl, h2⟩ := f3_inv h1
      split at h2
      · rename_i hlt; exact ih x (by omega) b c r h2
      · cases h2
  intro args r h1
  obtain ⟨b, c, x, rfl, h2⟩ := f3_inv h1
  exact main _ x (Nat.lt_succ_self _) b c r h2
end
def wantT (e : Ex) : Int := if rightE e ≠ 0 then rightE e else if isT e then 0 else 40
@[simp] def gWantT : List V → Option V := f1 kE fun e => some (.int .i64 (wantT e))
theorem ok_rWantT : PureOk Tryz.prog 212 gWantT := by
  intro args r h
  obtain ⟨e, rfl, ⟨⟩⟩ := f1_inv h
  clear h
  have hE := (((EnvOk.nil (P := Tryz.prog) (eq := fun _ => false) (own := fun _ => false) (mem := fun _ => false) EqOk.none).addf ok_rRight).addf ok_rTerm)
  refine ⟨⟨Tryz.f212, Tryz.func212, by decide, rfl⟩, pure_of_T Tryz.func212 rfl (by simp [Tryz.ntmps212]) fun q => ?_⟩
  by_cases v : rightE e = 0
  · by_cases u : isT e = true
    · repeat' (first | (with_reducible refine T.sq fun K hK => ?_) | ((first | ((with_reducible refine T.reg hE ?hd ?_); (case hd => kernel_rfl)) | ((with_reducible refine T.any hE mixed ?hd ?hok ?_); (case hd => kernel_rfl); (case hok => kernel_rfl))); simp [*]; (repeat' (split; all_goals (rename_i hc; try simp [*])))) | ((with_reducible refine T.ret ?_); refine fin_pure ?_; simp [*]; try (change Hold _)) | (with_reducible refine T.block ?_) | ((with_reducible refine T.skip ?_); simp [*]) | ((with_reducible refine T.exit ?_); simp [*]) | ((with_reducible refine T.br fun K1 K2 hK1 hK2 => ?_); simp [*]; try ((refine Br.intro (fun hc => ?_) (fun hc => ?_)) <;> (try simp at hc))) | (with_reducible refine Cont.go (by assumption) _ ?_) | (with_reducible refine Cnt.go (by assumption) ?_))
      all_goals (unfold Hold wantT; simp [v, u])
    · repeat' (first | (with_reducible refine T.sq fun K hK => ?_) | ((first | ((with_reducible refine T.reg hE ?hd ?_); (case hd => kernel_rfl)) | ((with_reducible refine T.any hE mixed ?hd ?hok ?_); (case hd => kernel_rfl); (case hok => kernel_rfl))); simp [*]; (repeat' (split; all_goals (rename_i hc; try simp [*])))) | ((with_reducible refine T.ret ?_); refine fin_pure ?_; simp [*]; try (change Hold _)) | (with_reducible refine T.block ?_) | ((with_reducible refine T.skip ?_); simp [*]) | ((with_reducible refine T.exit ?_); simp [*]) | ((with_reducible refine T.br fun K1 K2 hK1 hK2 => ?_); simp [*]; try ((refine Br.intro (fun hc => ?_) (fun hc => ?_)) <;> (try simp at hc))) | (with_reducible refine Cont.go (by assumption) _ ?_) | (with_reducible refine Cnt.go (by assumption) ?_))
      all_goals (unfold Hold wantT; simp [v, u])
  · repeat' (first | (with_reducible refine T.sq fun K hK => ?_) | ((first | ((with_reducible refine T.reg hE ?hd ?_); (case hd => kernel_rfl)) | ((with_reducible refine T.any hE mixed ?hd ?hok ?_); (case hd => kernel_rfl); (case hok => kernel_rfl))); simp [*]; (repeat' (split; all_goals (rename_i hc; try simp [*])))) | ((with_reducible refine T.ret ?_); refine fin_pure ?_; simp [*]; try (change Hold _)) | (with_reducible refine T.block ?_) | ((with_reducible refine T.skip ?_); simp [*]) | ((with_reducible refine T.exit ?_); simp [*]) | ((with_reducible refine T.br fun K1 K2 hK1 hK2 => ?_); simp [*]; try ((refine Br.intro (fun hc => ?_) (fun hc => ?_)) <;> (try simp at hc))) | (with_reducible refine Cont.go (by assumption) _ ?_) | (with_reducible refine Cnt.go (by assumption) ?_))
    all_goals (unfold Hold wantT; simp [v])
def okCat (own : Int) (e : Ex) : Prop := isU64 own ∧ okX e
noncomputable instance (own : Int) (e : Ex) : Decidable (okCat own e) := Classical.propDecidable _
@[simp] noncomputable def gCat : List V → Option V := f3 (kI .u64) (kI .i64) kE fun own x e => if okCat own e then some (.int .u64 (catE own.toNat x e : Nat)) else none
theorem own_pw {own : Nat} {k i : Int} (hi : 0 ≤ i ∧ i ≤ 63) (hq : k = 7 ∨ k = 10) : own &&& binP k i = if hasB own i = true then pw i.toNat else 0 := by
  unfold binP hasB
  rw [if_pos hq, show pw i.toNat = 2 ^ i.toNat from rfl, and_pow, decide_eq_true hi.1, decide_eq_true (show i < 64 by omega)]
  simp
set_option maxHeartbeats 2000000 in
theorem ok_rCat : PureOk Tryz.prog 196 gCat := by
  refine recz fun e ih own x r hr => ?_
  split at hr
  · rename_i hok0
    cases hr
    obtain ⟨hu0, hm⟩ := hok0
    obtain ⟨own, rfl, hown⟩ := u64_of hu0
    simp only [Int.toNat_natCast] at *
    have hokx : okX e := hm
    have hokk : ∀ (j : Nat) (hj : j < e.kids.length), okCat (own : Int) e.kids[j] := fun j hj => ⟨hu0, allX_kid hm j hj⟩
    have hE := (((((((EnvOk.nil (P := Tryz.prog) (eq := fun _ => false) (own := fun _ => false) (mem := fun _ => false) EqOk.none).addf ok_rIsFree).addf ok_rQuant).addf ok_rHas).addf ok_rPow).addf ok_rUnion).addf ih)
    refine ⟨⟨Tryz.f196, Tryz.func196, by decide, rfl⟩, pure_of_T Tryz.func196 rfl (by simp [Tryz.ntmps196]) fun q => ?_⟩
    have hce := catE_eq own x e
    by_cases z : hasB (frE e) x = true
    · rw [if_pos z] at hce
      by_cases c : isQ e = true
      · have c' : e.k = 7 ∨ e.k = 10 := by simpa [isQ] using c
        have hv := shaped_var hm (.inr c')
        have hop := own_pw (own := own) hv c'
        have hpv : powV e.i = pw e.i.toNat := by unfold powV; rw [if_pos hv]
        have hbl := pw_lt (n := e.i.toNat) (by omega)
        by_cases d : hasB own e.i = true
        · have hp : own &&& binP e.k e.i = pw e.i.toNat := by rw [hop, if_pos d]
          clear hv c' hop
          repeat' (first | (with_reducible refine T.sq fun K hK => ?_) | ((first | ((with_reducible refine T.reg hE ?hd ?_); (case hd => kernel_rfl)) | ((with_reducible refine T.any hE mixed ?hd ?hok ?_); (case hd => kernel_rfl); (case hok => kernel_rfl))); simp [*]; (repeat' (split; all_goals (rename_i hc; try simp [*])))) | ((with_reducible refine T.ret ?_); refine fin_pure ?_; simp [*]; try (change Hold _)) | (with_reducible refine T.block ?_) | ((with_reducible refine T.skip ?_); simp [*]) | ((with_reducible refine T.exit ?_); simp [*]) | ((with_reducible refine T.br fun K1 K2 hK1 hK2 => ?_); simp [*]; try ((refine Br.intro (fun hc => ?_) (fun hc => ?_)) <;> (try simp at hc))) | (with_reducible refine Cont.go (by assumption) _ ?_) | (with_reducible refine Cnt.go (by assumption) ?_))
          refine T.len (t := 27) (els := encL e.kids) (tk := .no) (by simp [*]) fun hlen => ?_
          rw [encL_length] at hlen
          refine T.loop (fun n σ => ∃ (j s : Nat), n = e.kids.length - j ∧ σ.get 27 = .sl (encL e.kids) .no ∧ σ.get 28 = .int .i64 e.kids.length ∧ σ.get 29 = .int .i64 j ∧ σ.get 7 = .int .u64 s ∧ σ.get 0 = .int .u64 (own : Nat) ∧ σ.get 1 = .int .i64 x ∧ j ≤ e.kids.length ∧ s < 18446744073709551616 ∧ Hold (s = pw e.i.toNat ||| catL own x (e.kids.take j))) e.kids.length ⟨0, pw e.i.toNat, by simp [*], by simp [*], by simp [*], by simp [*], by simp [*], by simp [*], by simp [*], by omega, hbl, by simp [Hold, catL]⟩ ?_
          rintro n σ ⟨j, s, rfl, g1, g2, g3, g4, q0, q1, g5, g6, g7⟩
          have hus : isU64 (s : Int) := ⟨by omega, by omega⟩
          by_cases hj : j < e.kids.length
          · have hw := wrap_succ hlen hj
            have hs := ex_kid_lt e j hj
            have hok := hokk j hj
            have hkl := cat_lt (x := x) (e := e.kids[j]) hown
            have huk : isU64 (catE own x e.kids[j] : Nat) := ⟨by omega, by omega⟩
            have hol := or_lt g6 hkl
            have hbt := bits_or (k := .u64) rfl (a := s) (b := catE own x e.kids[j]) (by simpa [IntKind.bits] using g6) (by simpa [IntKind.bits] using hkl)
            have hnx : Hold (s ||| catE own x e.kids[j] = pw e.i.toNat ||| catL own x (e.kids.take (j + 1))) := by unfold Hold at *; rw [catL_take own x e.kids j hj, g7, Nat.or_assoc]
            clear g7
            repeat' (first | (with_reducible refine T.sq fun K hK => ?_) | ((first | ((with_reducible refine T.reg hE ?hd ?_); (case hd => kernel_rfl)) | ((with_reducible refine T.any hE mixed ?hd ?hok ?_); (case hd => kernel_rfl); (case hok => kernel_rfl))); simp [*]; (repeat' (split; all_goals (rename_i hc; try simp [*])))) | ((with_reducible refine T.ret ?_); refine fin_pure ?_; simp [*]; try (change Hold _)) | (with_reducible refine T.block ?_) | ((with_reducible refine T.skip ?_); simp [*]) | ((with_reducible refine T.exit ?_); simp [*]) | ((with_reducible refine T.br fun K1 K2 hK1 hK2 => ?_); simp [*]; try ((refine Br.intro (fun hc => ?_) (fun hc => ?_)) <;> (try simp at hc))) | (with_reducible refine Cont.go (by assumption) _ ?_) | (with_reducible refine Cnt.go (by assumption) ?_))
            exact ⟨e.kids.length - (j + 1), by omega, j + 1, rfl, by omega, _, rfl, by omega, hol, by first | exact hnx | simpa [Hold] using hnx⟩
          · have w8 : j = e.kids.length := by omega
            have w9 : e.kids.take j = e.kids := by rw [w8, List.take_length]
            rw [w9] at g7
            clear w9
            have he : Hold (catE own x e = s) := by unfold Hold at *; rw [hce, hp, g7]
            clear hce
            repeat' (first | (with_reducible refine T.sq fun K hK => ?_) | ((first | ((with_reducible refine T.reg hE ?hd ?_); (case hd => kernel_rfl)) | ((with_reducible refine T.any hE mixed ?hd ?hok ?_); (case hd => kernel_rfl); (case hok => kernel_rfl))); simp [*]; (repeat' (split; all_goals (rename_i hc; try simp [*])))) | ((with_reducible refine T.ret ?_); refine fin_pure ?_; simp [*]; try (change Hold _)) | (with_reducible refine T.block ?_) | ((with_reducible refine T.skip ?_); simp [*]) | ((with_reducible refine T.exit ?_); simp [*]) | ((with_reducible refine T.br fun K1 K2 hK1 hK2 => ?_); simp [*]; try ((refine Br.intro (fun hc => ?_) (fun hc => ?_)) <;> (try simp at hc))) | (with_reducible refine Cont.go (by assumption) _ ?_) | (with_reducible refine Cnt.go (by assumption) ?_))
            all_goals (unfold Hold at *; rw [he])
        · rw [Bool.not_eq_true] at d
          have hp : own &&& binP e.k e.i = 0 := by rw [hop, if_neg (by simp [d])]
          clear hv c' hop hbl
          repeat' (first | (with_reducible refine T.sq fun K hK => ?_) | ((first | ((with_reducible refine T.reg hE ?hd ?_); (case hd => kernel_rfl)) | ((with_reducible refine T.any hE mixed ?hd ?hok ?_); (case hd => kernel_rfl); (case hok => kernel_rfl))); simp [*]; (repeat' (split; all_goals (rename_i hc; try simp [*])))) | ((with_reducible refine T.ret ?_); refine fin_pure ?_; simp [*]; try (change Hold _)) | (with_reducible refine T.block ?_) | ((with_reducible refine T.skip ?_); simp [*]) | ((with_reducible refine T.exit ?_); simp [*]) | ((with_reducible refine T.br fun K1 K2 hK1 hK2 => ?_); simp [*]; try ((refine Br.intro (fun hc => ?_) (fun hc => ?_)) <;> (try simp at hc))) | (with_reducible refine Cont.go (by assumption) _ ?_) | (with_reducible refine Cnt.go (by assumption) ?_))
          refine T.len (t := 27) (els := encL e.kids) (tk := .no) (by simp [*]) fun hlen => ?_
          rw [encL_length] at hlen
          refine T.loop (fun n σ => ∃ (j s : Nat), n = e.kids.length - j ∧ σ.get 27 = .sl (encL e.kids) .no ∧ σ.get 28 = .int .i64 e.kids.length ∧ σ.get 29 = .int .i64 j ∧ σ.get 7 = .int .u64 s ∧ σ.get 0 = .int .u64 (own : Nat) ∧ σ.get 1 = .int .i64 x ∧ j ≤ e.kids.length ∧ s < 18446744073709551616 ∧ Hold (s = 0 ||| catL own x (e.kids.take j))) e.kids.length ⟨0, 0, by simp [*], by simp [*], by simp [*], by simp [*], by simp [*], by simp [*], by simp [*], by omega, by omega, by simp [Hold, catL]⟩ ?_
          rintro n σ ⟨j, s, rfl, g1, g2, g3, g4, q0, q1, g5, g6, g7⟩
          have hus : isU64 (s : Int) := ⟨by omega, by omega⟩
          by_cases hj : j < e.kids.length
          · have hw := wrap_succ hlen hj
            have hs := ex_kid_lt e j hj
            have hok := hokk j hj
            have hkl := cat_lt (x := x) (e := e.kids[j]) hown
            have huk : isU64 (catE own x e.kids[j] : Nat) := ⟨by omega, by omega⟩
            have hol := or_lt g6 hkl
            have hbt := bits_or (k := .u64) rfl (a := s) (b := catE own x e.kids[j]) (by simpa [IntKind.bits] using g6) (by simpa [IntKind.bits] using hkl)
            have hnx : Hold (s ||| catE own x e.kids[j] = 0 ||| catL own x (e.kids.take (j + 1))) := by unfold Hold at *; rw [catL_take own x e.kids j hj, g7, Nat.or_assoc]
            clear g7
            repeat' (first | (with_reducible refine T.sq fun K hK => ?_) | ((first | ((with_reducible refine T.reg hE ?hd ?_); (case hd => kernel_rfl)) | ((with_reducible refine T.any hE mixed ?hd ?hok ?_); (case hd => kernel_rfl); (case hok => kernel_rfl))); simp [*]; (repeat' (split; all_goals (rename_i hc; try simp [*])))) | ((with_reducible refine T.ret ?_); refine fin_pure ?_; simp [*]; try (change Hold _)) | (with_reducible refine T.block ?_) | ((with_reducible refine T.skip ?_); simp [*]) | ((with_reducible refine T.exit ?_); simp [*]) | ((with_reducible refine T.br fun K1 K2 hK1 hK2 => ?_); simp [*]; try ((refine Br.intro (fun hc => ?_) (fun hc => ?_)) <;> (try simp at hc))) | (with_reducible refine Cont.go (by assumption) _ ?_) | (with_reducible refine Cnt.go (by assumption) ?_))
            exact ⟨e.kids.length - (j + 1), by omega, j + 1, rfl, by omega, _, rfl, by omega, hol, by first | exact hnx | simpa [Hold] using hnx⟩
          · have w8 : j = e.kids.length := by omega
            have w9 : e.kids.take j = e.kids := by rw [w8, List.take_length]
            rw [w9] at g7
            clear w9
            have he : Hold (catE own x e = s) := by unfold Hold at *; rw [hce, hp, g7]
            clear hce
            repeat' (first | (with_reducible refine T.sq fun K hK => ?_) | ((first | ((with_reducible refine T.reg hE ?hd ?_); (case hd => kernel_rfl)) | ((with_reducible refine T.any hE mixed ?hd ?hok ?_); (case hd => kernel_rfl); (case hok => kernel_rfl))); simp [*]; (repeat' (split; all_goals (rename_i hc; try simp [*])))) | ((with_reducible refine T.ret ?_); refine fin_pure ?_; simp [*]; try (change Hold _)) | (with_reducible refine T.block ?_) | ((with_reducible refine T.skip ?_); simp [*]) | ((with_reducible refine T.exit ?_); simp [*]) | ((with_reducible refine T.br fun K1 K2 hK1 hK2 => ?_); simp [*]; try ((refine Br.intro (fun hc => ?_) (fun hc => ?_)) <;> (try simp at hc))) | (with_reducible refine Cont.go (by assumption) _ ?_) | (with_reducible refine Cnt.go (by assumption) ?_))
            all_goals (unfold Hold at *; rw [he])
      · have hp : own &&& binP e.k e.i = 0 := by unfold binP; rw [if_neg (by simpa [isQ] using c)]; simp
        rw [Bool.not_eq_true] at c
        repeat' (first | (with_reducible refine T.sq fun K hK => ?_) | ((first | ((with_reducible refine T.reg hE ?hd ?_); (case hd => kernel_rfl)) | ((with_reducible refine T.any hE mixed ?hd ?hok ?_); (case hd => kernel_rfl); (case hok => kernel_rfl))); simp [*]; (repeat' (split; all_goals (rename_i hc; try simp [*])))) | ((with_reducible refine T.ret ?_); refine fin_pure ?_; simp [*]; try (change Hold _)) | (with_reducible refine T.block ?_) | ((with_reducible refine T.skip ?_); simp [*]) | ((with_reducible refine T.exit ?_); simp [*]) | ((with_reducible refine T.br fun K1 K2 hK1 hK2 => ?_); simp [*]; try ((refine Br.intro (fun hc => ?_) (fun hc => ?_)) <;> (try simp at hc))) | (with_reducible refine Cont.go (by assumption) _ ?_) | (with_reducible refine Cnt.go (by assumption) ?_))
        refine T.len (t := 27) (els := encL e.kids) (tk := .no) (by simp [*]) fun hlen => ?_
        rw [encL_length] at hlen
        refine T.loop (fun n σ => ∃ (j s : Nat), n = e.kids.length - j ∧ σ.get 27 = .sl (encL e.kids) .no ∧ σ.get 28 = .int .i64 e.kids.length ∧ σ.get 29 = .int .i64 j ∧ σ.get 7 = .int .u64 s ∧ σ.get 0 = .int .u64 (own : Nat) ∧ σ.get 1 = .int .i64 x ∧ j ≤ e.kids.length ∧ s < 18446744073709551616 ∧ Hold (s = 0 ||| catL own x (e.kids.take j))) e.kids.length ⟨0, 0, by simp [*], by simp [*], by simp [*], by simp [*], by simp [*], by simp [*], by simp [*], by omega, by omega, by simp [Hold, catL]⟩ ?_
        rintro n σ ⟨j, s, rfl, g1, g2, g3, g4, q0, q1, g5, g6, g7⟩
        have hus : isU64 (s : Int) := ⟨by omega, by omega⟩
        by_cases hj : j < e.kids.length
        · have hw := wrap_succ hlen hj
          have hs := ex_kid_lt e j hj
          have hok := hokk j hj
          have hkl := cat_lt (x := x) (e := e.kids[j]) hown
          have huk : isU64 (catE own x e.kids[j] : Nat) := ⟨by omega, by omega⟩
          have hol := or_lt g6 hkl
          have hbt := bits_or (k := .u64) rfl (a := s) (b := catE own x e.kids[j]) (by simpa [IntKind.bits] using g6) (by simpa [IntKind.bits] using hkl)
          have hnx : Hold (s ||| catE own x e.kids[j] = 0 ||| catL own x (e.kids.take (j + 1))) := by unfold Hold at *; rw [catL_take own x e.kids j hj, g7, Nat.or_assoc]
          clear g7
          repeat' (first | (with_reducible refine T.sq fun K hK => ?_) | ((first | ((with_reducible refine T.reg hE ?hd ?_); (case hd => kernel_rfl)) | ((with_reducible refine T.any hE mixed ?hd ?hok ?_); (case hd => kernel_rfl); (case hok => kernel_rfl))); simp [*]; (repeat' (split; all_goals (rename_i hc; try simp [*])))) | ((with_reducible refine T.ret ?_); refine fin_pure ?_; simp [*]; try (change Hold _)) | (with_reducible refine T.block ?_) | ((with_reducible refine T.skip ?_); simp [*]) | ((with_reducible refine T.exit ?_); simp [*]) | ((with_reducible refine T.br fun K1 K2 hK1 hK2 => ?_); simp [*]; try ((refine Br.intro (fun hc => ?_) (fun hc => ?_)) <;> (try simp at hc))) | (with_reducible refine Cont.go (by assumption) _ ?_) | (with_reducible refine Cnt.go (by assumption) ?_))
          exact ⟨e.kids.length - (j + 1), by omega, j + 1, rfl, by omega, _, rfl, by omega, hol, by first | exact hnx | simpa [Hold] using hnx⟩
        · have w8 : j = e.kids.length := by omega
          have w9 : e.kids.take j = e.kids := by rw [w8, List.take_length]
          rw [w9] at g7
          clear w9
          have he : Hold (catE own x e = s) := by unfold Hold at *; rw [hce, hp, g7]
          clear hce
          repeat' (first | (with_reducible refine T.sq fun K hK => ?_) | ((first | ((with_reducible refine T.reg hE ?hd ?_); (case hd => kernel_rfl)) | ((with_reducible refine T.any hE mixed ?hd ?hok ?_); (case hd => kernel_rfl); (case hok => kernel_rfl))); simp [*]; (repeat' (split; all_goals (rename_i hc; try simp [*])))) | ((with_reducible refine T.ret ?_); refine fin_pure ?_; simp [*]; try (change Hold _)) | (with_reducible refine T.block ?_) | ((with_reducible refine T.skip ?_); simp [*]) | ((with_reducible refine T.exit ?_); simp [*]) | ((with_reducible refine T.br fun K1 K2 hK1 hK2 => ?_); simp [*]; try ((refine Br.intro (fun hc => ?_) (fun hc => ?_)) <;> (try simp at hc))) | (with_reducible refine Cont.go (by assumption) _ ?_) | (with_reducible refine Cnt.go (by assumption) ?_))
          all_goals (unfold Hold at *; rw [he])
    · have he : Hold (catE own x e = 0) := by unfold Hold; rw [hce, if_neg z]
      rw [Bool.not_eq_true] at z
      clear hce
      repeat' (first | (with_reducible refine T.sq fun K hK => ?_) | ((first | ((with_reducible refine T.reg hE ?hd ?_); (case hd => kernel_rfl)) | ((with_reducible refine T.any hE mixed ?hd ?hok ?_); (case hd => kernel_rfl); (case hok => kernel_rfl))); simp [*]; (repeat' (split; all_goals (rename_i hc; try simp [*])))) | ((with_reducible refine T.ret ?_); refine fin_pure ?_; simp [*]; try (change Hold _)) | (with_reducible refine T.block ?_) | ((with_reducible refine T.skip ?_); simp [*]) | ((with_reducible refine T.exit ?_); simp [*]) | ((with_reducible refine T.br fun K1 K2 hK1 hK2 => ?_); simp [*]; try ((refine Br.intro (fun hc => ?_) (fun hc => ?_)) <;> (try simp at hc))) | (with_reducible refine Cont.go (by assumption) _ ?_) | (with_reducible refine Cnt.go (by assumption) ?_))
      all_goals (unfold Hold at *; rw [he]; rfl)
  · cases hr
def ctErr (t : Ex) (x : Int) (a : Ex) : Int := if 0 ≤ x ∧ x ≤ 63 then if bothE t a ≠ 0 then bothE t a else if isT t = true then 0 else 40 else 1
def ctS (t : Ex) (x : Int) (a : Ex) : Nat := if ctErr t x a = 0 then catE (vaE t) x a else 0
theorem ct_good {t : Ex} {x : Int} {a : Ex} (h : ctErr t x a = 0) : ctS t x a = catE (vaE t) x a := by unfold ctS; rw [if_pos h]
theorem ct_bad {t : Ex} {x : Int} {a : Ex} {n : Int} (h : ctErr t x a = n) (hn : n ≠ 0) : ctS t x a = 0 := by unfold ctS; rw [h, if_neg hn]
theorem ct_ok {t : Ex} {x : Int} {a : Ex} (h : ctErr t x a = 0) : (0 ≤ x ∧ x ≤ 63) ∧ rightE t = 0 ∧ rightE a = 0 ∧ isT t = true := by
  unfold ctErr at h
  split at h
  · rename_i hx
    split at h
    · rename_i hb; exact absurd h hb
    · rename_i hb
      have hb : bothE t a = 0 := by omega
      split at h
      · rename_i ht
        unfold bothE at hb
        split at hb
        · rename_i h1; exact absurd hb h1
        · exact ⟨hx, by omega, hb, ht⟩
      · cases h
  · cases h
@[simp] def gAsked : List V → Option V := f3 kE (kI .i64) kE fun t x a => some (.int .i64 (ctErr t x a))
theorem ok_rAsked : PureOk Tryz.prog 195 gAsked := by
  intro args r h
  obtain ⟨t, x, a, rfl, ⟨⟩⟩ := f3_inv h
  clear h
  have hE := (((EnvOk.nil (P := Tryz.prog) (eq := fun _ => false) (own := fun _ => false) (mem := fun _ => false) EqOk.none).addf ok_rFirst).addf ok_rWantT)
  refine ⟨⟨Tryz.f195, Tryz.func195, by decide, rfl⟩, pure_of_T Tryz.func195 rfl (by simp [Tryz.ntmps195]) fun q => ?_⟩
  by_cases c : 0 ≤ x ∧ x ≤ 63
  · have c1 : ¬ x < 0 := by omega
    have c2 : ¬ 63 < x := by omega
    by_cases v : bothE t a = 0
    · have hv : Hold (ctErr t x a = wantT t) := by
        have : rightE t = 0 := by unfold bothE at v; split at v <;> omega
        unfold Hold ctErr wantT
        rw [if_pos c, if_neg (show ¬ bothE t a ≠ 0 by omega), if_neg (show ¬ rightE t ≠ 0 by omega)]
      clear c
      repeat' (first | (with_reducible refine T.sq fun K hK => ?_) | ((first | ((with_reducible refine T.reg hE ?hd ?_); (case hd => kernel_rfl)) | ((with_reducible refine T.any hE mixed ?hd ?hok ?_); (case hd => kernel_rfl); (case hok => kernel_rfl))); simp [*]; (repeat' (split; all_goals (rename_i hc; try simp [*])))) | ((with_reducible refine T.ret ?_); refine fin_pure ?_; simp [*]; try (change Hold _)) | (with_reducible refine T.block ?_) | ((with_reducible refine T.skip ?_); simp [*]) | ((with_reducible refine T.exit ?_); simp [*]) | ((with_reducible refine T.br fun K1 K2 hK1 hK2 => ?_); simp [*]; try ((refine Br.intro (fun hc => ?_) (fun hc => ?_)) <;> (try simp at hc))) | (with_reducible refine Cont.go (by assumption) _ ?_) | (with_reducible refine Cnt.go (by assumption) ?_))
      all_goals (unfold Hold at *; rw [hv])
    · have hv : Hold (ctErr t x a = bothE t a) := by unfold Hold ctErr; rw [if_pos c, if_pos v]
      clear c
      repeat' (first | (with_reducible refine T.sq fun K hK => ?_) | ((first | ((with_reducible refine T.reg hE ?hd ?_); (case hd => kernel_rfl)) | ((with_reducible refine T.any hE mixed ?hd ?hok ?_); (case hd => kernel_rfl); (case hok => kernel_rfl))); simp [*]; (repeat' (split; all_goals (rename_i hc; try simp [*])))) | ((with_reducible refine T.ret ?_); refine fin_pure ?_; simp [*]; try (change Hold _)) | (with_reducible refine T.block ?_) | ((with_reducible refine T.skip ?_); simp [*]) | ((with_reducible refine T.exit ?_); simp [*]) | ((with_reducible refine T.br fun K1 K2 hK1 hK2 => ?_); simp [*]; try ((refine Br.intro (fun hc => ?_) (fun hc => ?_)) <;> (try simp at hc))) | (with_reducible refine Cont.go (by assumption) _ ?_) | (with_reducible refine Cnt.go (by assumption) ?_))
      all_goals (unfold Hold at *; rw [hv])
  · have hv : Hold (ctErr t x a = 1) := by unfold Hold ctErr; rw [if_neg c]
    by_cases c1 : x < 0
    · clear c
      repeat' (first | (with_reducible refine T.sq fun K hK => ?_) | ((first | ((with_reducible refine T.reg hE ?hd ?_); (case hd => kernel_rfl)) | ((with_reducible refine T.any hE mixed ?hd ?hok ?_); (case hd => kernel_rfl); (case hok => kernel_rfl))); simp [*]; (repeat' (split; all_goals (rename_i hc; try simp [*])))) | ((with_reducible refine T.ret ?_); refine fin_pure ?_; simp [*]; try (change Hold _)) | (with_reducible refine T.block ?_) | ((with_reducible refine T.skip ?_); simp [*]) | ((with_reducible refine T.exit ?_); simp [*]) | ((with_reducible refine T.br fun K1 K2 hK1 hK2 => ?_); simp [*]; try ((refine Br.intro (fun hc => ?_) (fun hc => ?_)) <;> (try simp at hc))) | (with_reducible refine Cont.go (by assumption) _ ?_) | (with_reducible refine Cnt.go (by assumption) ?_))
      all_goals (unfold Hold at *; rw [hv])
    · have c2 : 63 < x := by omega
      clear c
      repeat' (first | (with_reducible refine T.sq fun K hK => ?_) | ((first | ((with_reducible refine T.reg hE ?hd ?_); (case hd => kernel_rfl)) | ((with_reducible refine T.any hE mixed ?hd ?hok ?_); (case hd => kernel_rfl); (case hok => kernel_rfl))); simp [*]; (repeat' (split; all_goals (rename_i hc; try simp [*])))) | ((with_reducible refine T.ret ?_); refine fin_pure ?_; simp [*]; try (change Hold _)) | (with_reducible refine T.block ?_) | ((with_reducible refine T.skip ?_); simp [*]) | ((with_reducible refine T.exit ?_); simp [*]) | ((with_reducible refine T.br fun K1 K2 hK1 hK2 => ?_); simp [*]; try ((refine Br.intro (fun hc => ?_) (fun hc => ?_)) <;> (try simp at hc))) | (with_reducible refine Cont.go (by assumption) _ ?_) | (with_reducible refine Cnt.go (by assumption) ?_))
      all_goals (unfold Hold at *; rw [hv])
@[simp] def gCaught : List V → Option V := f3 kE (kI .i64) kE fun t x a => some (.tup [.int .u64 (ctS t x a : Nat), .int .i64 (ctErr t x a)])
set_option maxHeartbeats 1000000 in
theorem ok_rCaught : PureOk Tryz.prog 158 gCaught := by
  intro args r h
  obtain ⟨t, x, a, rfl, ⟨⟩⟩ := f3_inv h
  clear h
  have hE := ((((EnvOk.nil (P := Tryz.prog) (eq := fun _ => false) (own := fun _ => false) (mem := fun _ => false) EqOk.none).addf ok_rAsked).addf ok_rVarsS).addf ok_rCat)
  refine ⟨⟨Tryz.f158, Tryz.func158, by decide, rfl⟩, pure_of_T Tryz.func158 rfl (by simp [Tryz.ntmps158]) fun q => ?_⟩
  by_cases v : ctErr t x a = 0
  · obtain ⟨hx, v1, v2, v3⟩ := ct_ok v
    have hkt : okX t := (right_zero v1).2.2
    have hka : okX a := (right_zero v2).2.2
    have hok : okCat (vaE t : Nat) a := ⟨u64_nat (vaE_lt hkt), hka⟩
    have hv : Hold (ctS t x a = catE (vaE t) x a) := ct_good v
    repeat' (first | (with_reducible refine T.sq fun K hK => ?_) | ((first | ((with_reducible refine T.reg hE ?hd ?_); (case hd => kernel_rfl)) | ((with_reducible refine T.any hE mixed ?hd ?hok ?_); (case hd => kernel_rfl); (case hok => kernel_rfl))); simp [*]; (repeat' (split; all_goals (rename_i hc; try simp [*])))) | ((with_reducible refine T.ret ?_); refine fin_pure ?_; simp [*]; try (change Hold _)) | (with_reducible refine T.block ?_) | ((with_reducible refine T.skip ?_); simp [*]) | ((with_reducible refine T.exit ?_); simp [*]) | ((with_reducible refine T.br fun K1 K2 hK1 hK2 => ?_); simp [*]; try ((refine Br.intro (fun hc => ?_) (fun hc => ?_)) <;> (try simp at hc))) | (with_reducible refine Cont.go (by assumption) _ ?_) | (with_reducible refine Cnt.go (by assumption) ?_))
    all_goals (unfold Hold at *; rw [hv])
  · have hv : Hold (ctS t x a = 0) := ct_bad rfl v
    repeat' (first | (with_reducible refine T.sq fun K hK => ?_) | ((first | ((with_reducible refine T.reg hE ?hd ?_); (case hd => kernel_rfl)) | ((with_reducible refine T.any hE mixed ?hd ?hok ?_); (case hd => kernel_rfl); (case hok => kernel_rfl))); simp [*]; (repeat' (split; all_goals (rename_i hc; try simp [*])))) | ((with_reducible refine T.ret ?_); refine fin_pure ?_; simp [*]; try (change Hold _)) | (with_reducible refine T.block ?_) | ((with_reducible refine T.skip ?_); simp [*]) | ((with_reducible refine T.exit ?_); simp [*]) | ((with_reducible refine T.br fun K1 K2 hK1 hK2 => ?_); simp [*]; try ((refine Br.intro (fun hc => ?_) (fun hc => ?_)) <;> (try simp at hc))) | (with_reducible refine Cont.go (by assumption) _ ?_) | (with_reducible refine Cnt.go (by assumption) ?_))
    all_goals (unfold Hold at *; rw [hv]; rfl)
set_option maxHeartbeats 1000000 in
theorem cclo_mem {x : Int} {own : Nat} {xi si oi : Path} (ho : own < 18446744073709551616) (h1 : xi ≠ si) (h2 : oi ≠ si) : MemOk Tryz.prog 228 (mClo [.ptr xi 0, .ptr si 0, .ptr oi 0] si (stpC own x) [(xi, .cells [.int .i64 x]), (oi, .cells [.int .u64 (own : Nat)])]) := by
  intro q args M K0 z M' K' h
  simp only [mClo] at h
  split at h
  · rename_i y b cs
    split at h
    · rename_i s hM
      split at h
      · rename_i hok
        obtain ⟨rfl, hro, hx1, hx2, hb, hs⟩ := hok
        obtain ⟨b, rfl, hb1⟩ := u64_of hb
        obtain ⟨s, rfl, hs1⟩ := u64_of hs
        simp only [Option.some.injEq, Prod.mk.injEq] at h
        obtain ⟨rfl, rfl, rfl⟩ := h
        refine ⟨⟨Tryz.f228, Tryz.func228, by decide, rfl⟩, fun id hid hn => ?_, ?_⟩
        · have : id ≠ si := fun e => by subst e; rw [hn] at hM; cases hM
          rw [upd_ne _ _ this]; exact hn
        have hE := ((EnvOk.nil (P := Tryz.prog) (eq := fun _ => false) (own := fun _ => false) (mem := fun _ => false) EqOk.none).addf ok_wHas)
        refine ctr_of_T Tryz.func228 rfl (by simp [Tryz.ntmps228]) fun hMq hKq => ?_
        have hq := not_own hMq (id := si) (by rw [hM]; simp)
        have hX : M xi = some (.cells [.int .i64 x]) := hro (xi, .cells [.int .i64 x]) (by simp)
        have hO : M oi = some (.cells [.int .u64 (own : Nat)]) := hro (oi, .cells [.int .u64 (own : Nat)]) (by simp)
        have hal : own &&& b < 18446744073709551616 := and_lt ho
        have hs2 : bits .and .u64 (own : Int) (b : Int) = ((own &&& b : Nat) : Int) := bits_and rfl (by simpa [IntKind.bits] using ho) (by simpa [IntKind.bits] using hb1)
        have hs3 : bits .or .u64 (s : Int) ((own &&& b : Nat) : Int) = ((s ||| (own &&& b) : Nat) : Int) := bits_or rfl (by simpa [IntKind.bits] using hs1) (by simpa [IntKind.bits] using hal)
        by_cases c : y = x
        · by_cases d : hasB b x = true
          · repeat' (first | (with_reducible refine T.sq fun K hK => ?_) | ((first | ((with_reducible refine T.reg hE ?hd ?_); (case hd => kernel_rfl)) | ((with_reducible refine T.any hE mixed ?hd ?hok ?_); (case hd => kernel_rfl); (case hok => kernel_rfl))); simp [*]; (repeat' (split; all_goals (rename_i hc; try simp [*])))) | ((with_reducible refine T.ret ?_); (refine fin_mem (by simp [*]) ?_ ?_)) | (with_reducible refine T.block ?_) | ((with_reducible refine T.skip ?_); simp [*]) | ((with_reducible refine T.exit ?_); simp [*]) | ((with_reducible refine T.br fun K1 K2 hK1 hK2 => ?_); simp [*]; try ((refine Br.intro (fun hc => ?_) (fun hc => ?_)) <;> (try simp at hc))) | (with_reducible refine Cont.go (by assumption) _ ?_) | (with_reducible refine Cnt.go (by assumption) ?_))
            all_goals try (refine fin_mem' (by simp [*]) ?_ ?_)
            · intro id hid
              by_cases e1 : id = si
              · subst e1; simp [stpC, c, d, hM]
              · simp [e1]
            · intro u hu; simpa using hu
          · rw [Bool.not_eq_true] at d
            repeat' (first | (with_reducible refine T.sq fun K hK => ?_) | ((first | ((with_reducible refine T.reg hE ?hd ?_); (case hd => kernel_rfl)) | ((with_reducible refine T.any hE mixed ?hd ?hok ?_); (case hd => kernel_rfl); (case hok => kernel_rfl))); simp [*]; (repeat' (split; all_goals (rename_i hc; try simp [*])))) | ((with_reducible refine T.ret ?_); (refine fin_mem (by simp [*]) ?_ ?_)) | (with_reducible refine T.block ?_) | ((with_reducible refine T.skip ?_); simp [*]) | ((with_reducible refine T.exit ?_); simp [*]) | ((with_reducible refine T.br fun K1 K2 hK1 hK2 => ?_); simp [*]; try ((refine Br.intro (fun hc => ?_) (fun hc => ?_)) <;> (try simp at hc))) | (with_reducible refine Cont.go (by assumption) _ ?_) | (with_reducible refine Cnt.go (by assumption) ?_))
            all_goals try (refine fin_mem' (by simp [*]) ?_ ?_)
            · intro id hid
              by_cases e1 : id = si
              · subst e1; simp [stpC, c, d]
              · simp [e1]
            · intro u hu; simpa using hu
        · repeat' (first | (with_reducible refine T.sq fun K hK => ?_) | ((first | ((with_reducible refine T.reg hE ?hd ?_); (case hd => kernel_rfl)) | ((with_reducible refine T.any hE mixed ?hd ?hok ?_); (case hd => kernel_rfl); (case hok => kernel_rfl))); simp [*]; (repeat' (split; all_goals (rename_i hc; try simp [*])))) | ((with_reducible refine T.ret ?_); (refine fin_mem (by simp [*]) ?_ ?_)) | (with_reducible refine T.block ?_) | ((with_reducible refine T.skip ?_); simp [*]) | ((with_reducible refine T.exit ?_); simp [*]) | ((with_reducible refine T.br fun K1 K2 hK1 hK2 => ?_); simp [*]; try ((refine Br.intro (fun hc => ?_) (fun hc => ?_)) <;> (try simp at hc))) | (with_reducible refine Cont.go (by assumption) _ ?_) | (with_reducible refine Cnt.go (by assumption) ?_))
          all_goals try (refine fin_mem' (by simp [*]) ?_ ?_)
          · intro id hid
            by_cases e1 : id = si
            · subst e1; simp [stpC, c, hM]
            · simp [e1]
          · intro u hu; simpa using hu
      · cases h
    · cases h
  · cases h
theorem stpC_lt {own : Nat} {y : Int} (ho : own < 18446744073709551616) : ∀ x b s, 0 ≤ x → x ≤ 63 → b < 18446744073709551616 → s < 18446744073709551616 → stpC own y x b s < 18446744073709551616 := fun x b s _ _ _ h4 => by
  unfold stpC
  split
  · exact or_lt h4 (and_lt ho)
  · exact h4
set_option maxHeartbeats 2000000 in
theorem ok_Caught : PureOk Tryz.prog 222 gCaught := by
  intro args r h
  obtain ⟨t, x, a, rfl, ⟨⟩⟩ := f3_inv h
  clear h
  have hr2 : List.range 2 = [0, 1] := rfl
  by_cases c : 0 ≤ x ∧ x ≤ 63
  · have c1 := c.1
    have c2 := c.2
    by_cases hg : rightE t = 0 ∧ rightE a = 0 ∧ isT t = true
    · obtain ⟨w1, w2, w3⟩ := hg
      have hot : okX t := (right_zero w1).2.2
      have hoa : okX a := (right_zero w2).2.2
      have he : ctErr t x a = 0 := by
        have hb : bothE t a = 0 := by unfold bothE; rw [if_neg (by omega)]; exact w2
        unfold ctErr; rw [if_pos c, if_neg (by omega), if_pos w3]
      have hv : Hold (ctS t x a = catE (vaE t) x a) := ct_good he
      have hrun := cat_run0 (vaE t) x a hoa
      refine ⟨⟨Tryz.f222, Tryz.func222, by decide, rfl⟩, pure_of_T Tryz.func222 rfl (by simp [Tryz.ntmps222]) fun q => ?_⟩
      have hmem := walk_mem (cclo_mem (x := x) (own := vaE t) (xi := 0 :: 6 :: q) (si := 0 :: 14 :: q) (oi := 0 :: 13 :: q) (vaE_lt hot) (by simp) (by simp)) (stpC_lt (vaE_lt hot)) (by simp) (by simp) (by decide) (by decide) (SizeOf.sizeOf a + 1)
      have hE := ((((((EnvOk.nil (P := Tryz.prog) (eq := fun _ => false) (own := fun _ => false) (mem := fun f => f == 220) EqOk.none).addf ok_fIsVar).addf ok_Right).addf ok_IsTerm).addf ok_all).addm hmem)
      have hok : ∀ M2 : Mem, roOk [(0 :: 6 :: q, .cells [.int .i64 x]), (0 :: 13 :: q, .cells [.int .u64 (vaE t : Nat)])] M2 → okWalk (SizeOf.sizeOf a + 1) 228 228 [.ptr (0 :: 6 :: q) 0, .ptr (0 :: 14 :: q) 0, .ptr (0 :: 13 :: q) 0] [.ptr (0 :: 6 :: q) 0, .ptr (0 :: 14 :: q) 0, .ptr (0 :: 13 :: q) 0] a M2 [(0 :: 6 :: q, .cells [.int .i64 x]), (0 :: 13 :: q, .cells [.int .u64 (vaE t : Nat)])] 0 0 := fun M2 h2 => ⟨Nat.lt_succ_self _, rfl, rfl, h2, hoa, ⟨by omega, by omega⟩, ⟨by omega, by omega⟩⟩
      have hro : ∀ M : Mem, M (0 :: 6 :: q) = some (.cells [.int .i64 x]) → M (0 :: 13 :: q) = some (.cells [.int .u64 (vaE t : Nat)]) → roOk [(0 :: 6 :: q, .cells [.int .i64 x]), (0 :: 13 :: q, .cells [.int .u64 (vaE t : Nat)])] M := fun M hM hM2 r hr => by
        simp at hr
        rcases hr with rfl | rfl
        · simp [hM]
        · simp [hM2]
      clear c
      repeat' (first | (with_reducible refine T.sq fun K hK => ?_) | ((first | ((with_reducible refine T.reg hE ?hd ?_); (case hd => kernel_rfl)) | ((with_reducible refine T.any hE mixed ?hd ?hok ?_); (case hd => kernel_rfl); (case hok => kernel_rfl))); simp [*]; (repeat' (split; all_goals (rename_i hc; try simp [*])))) | ((with_reducible refine T.ret ?_); refine fin_pure ?_; simp [*]; try (change Hold _)) | (with_reducible refine T.block ?_) | ((with_reducible refine T.skip ?_); simp [*]) | ((with_reducible refine T.exit ?_); simp [*]) | ((with_reducible refine T.br fun K1 K2 hK1 hK2 => ?_); simp [*]; try ((refine Br.intro (fun hc => ?_) (fun hc => ?_)) <;> (try simp at hc))) | (with_reducible refine Cont.go (by assumption) _ ?_) | (with_reducible refine Cnt.go (by assumption) ?_))
      refine T.loop (fun n σ => σ.get 18 = .sl [encC t, encC a] .ex ∧ σ.get 19 = .int .i64 2 ∧ σ.get 3 = .ptr (0 :: 5 :: q) 0 ∧ σ.get 4 = .ptr (0 :: 6 :: q) 0 ∧ σ.get 5 = .ptr (0 :: 7 :: q) 0 ∧ σ.M (0 :: 5 :: q) = some (.cells (encC t)) ∧ σ.M (0 :: 7 :: q) = some (.cells (encC a)) ∧ σ.M (0 :: 6 :: q) = some (.cells [.int .i64 x]) ∧ σ.cnt 13 = 0 ∧ σ.cnt 14 = 0 ∧
        ((n = 2 ∧ σ.get 20 = .int .i64 0) ∨ (n = 1 ∧ σ.get 20 = .int .i64 1 ∧ rightE t = 0) ∨ (n = 0 ∧ σ.get 20 = .int .i64 2 ∧ rightE t = 0 ∧ rightE a = 0))) 2 ⟨by simp [encC_eq], by simp, by simp, by simp, by simp, by simp [encC_eq], by simp [encC_eq], by simp, by simp, by simp, .inl ⟨rfl, by simp⟩⟩ ?_
      rintro n σ ⟨g1, g2, g3, g8, g4, g5, g6, g9, g10, g11, g7⟩
      rw [encC_eq] at g5 g6
      rw [encC_eq, encC_eq] at g1
      rcases g7 with ⟨rfl, g7⟩ | ⟨rfl, g7, v1⟩ | ⟨rfl, g7, v1, v2⟩
      · have hw : IntKind.i64.wrap 1 = 1 := wrap64 (by omega) (by omega)
        repeat' (first | (with_reducible refine T.sq fun K hK => ?_) | ((first | ((with_reducible refine T.reg hE ?hd ?_); (case hd => kernel_rfl)) | ((with_reducible refine T.any hE mixed ?hd ?hok ?_); (case hd => kernel_rfl); (case hok => kernel_rfl))); simp [*]; (repeat' (split; all_goals (rename_i hc; try simp [*])))) | ((with_reducible refine T.ret ?_); refine fin_pure ?_; simp [*]; try (change Hold _)) | (with_reducible refine T.block ?_) | ((with_reducible refine T.skip ?_); simp [*]) | ((with_reducible refine T.exit ?_); simp [*]) | ((with_reducible refine T.br fun K1 K2 hK1 hK2 => ?_); simp [*]; try ((refine Br.intro (fun hc => ?_) (fun hc => ?_)) <;> (try simp at hc))) | (with_reducible refine Cont.go (by assumption) _ ?_) | (with_reducible refine Cnt.go (by assumption) ?_))
        all_goals simp [encC_eq, *]
      · have hw : IntKind.i64.wrap 2 = 2 := wrap64 (by omega) (by omega)
        repeat' (first | (with_reducible refine T.sq fun K hK => ?_) | ((first | ((with_reducible refine T.reg hE ?hd ?_); (case hd => kernel_rfl)) | ((with_reducible refine T.any hE mixed ?hd ?hok ?_); (case hd => kernel_rfl); (case hok => kernel_rfl))); simp [*]; (repeat' (split; all_goals (rename_i hc; try simp [*])))) | ((with_reducible refine T.ret ?_); refine fin_pure ?_; simp [*]; try (change Hold _)) | (with_reducible refine T.block ?_) | ((with_reducible refine T.skip ?_); simp [*]) | ((with_reducible refine T.exit ?_); simp [*]) | ((with_reducible refine T.br fun K1 K2 hK1 hK2 => ?_); simp [*]; try ((refine Br.intro (fun hc => ?_) (fun hc => ?_)) <;> (try simp at hc))) | (with_reducible refine Cont.go (by assumption) _ ?_) | (with_reducible refine Cnt.go (by assumption) ?_))
        all_goals simp [encC_eq, *]
      · repeat' (first | (with_reducible refine T.sq fun K hK => ?_) | ((first | ((with_reducible refine T.reg hE ?hd ?_); (case hd => kernel_rfl)) | ((with_reducible refine T.any hE mixed ?hd ?hok ?_); (case hd => kernel_rfl); (case hok => kernel_rfl))); simp [*]; (repeat' (split; all_goals (rename_i hc; try simp [*])))) | ((with_reducible refine T.ret ?_); refine fin_pure ?_; simp [*]; try (change Hold _)) | (with_reducible refine T.block ?_) | ((with_reducible refine T.skip ?_); simp [*]) | ((with_reducible refine T.exit ?_); simp [*]) | ((with_reducible refine T.br fun K1 K2 hK1 hK2 => ?_); simp [*]; try ((refine Br.intro (fun hc => ?_) (fun hc => ?_)) <;> (try simp at hc))) | (with_reducible refine Cont.go (by assumption) _ ?_) | (with_reducible refine Cnt.go (by assumption) ?_))
        all_goals (unfold Hold at *; rw [hv])
    · have hE := ((((EnvOk.nil (P := Tryz.prog) (eq := fun _ => false) (own := fun _ => false) (mem := fun _ => false) EqOk.none).addf ok_fIsVar).addf ok_Right).addf ok_IsTerm)
      refine ⟨⟨Tryz.f222, Tryz.func222, by decide, rfl⟩, pure_of_T Tryz.func222 rfl (by simp [Tryz.ntmps222]) fun q => ?_⟩
      repeat' (first | (with_reducible refine T.sq fun K hK => ?_) | ((first | ((with_reducible refine T.reg hE ?hd ?_); (case hd => kernel_rfl)) | ((with_reducible refine T.any hE mixed ?hd ?hok ?_); (case hd => kernel_rfl); (case hok => kernel_rfl))); simp [*]; (repeat' (split; all_goals (rename_i hc; try simp [*])))) | ((with_reducible refine T.ret ?_); refine fin_pure ?_; simp [*]; try (change Hold _)) | (with_reducible refine T.block ?_) | ((with_reducible refine T.skip ?_); simp [*]) | ((with_reducible refine T.exit ?_); simp [*]) | ((with_reducible refine T.br fun K1 K2 hK1 hK2 => ?_); simp [*]; try ((refine Br.intro (fun hc => ?_) (fun hc => ?_)) <;> (try simp at hc))) | (with_reducible refine Cont.go (by assumption) _ ?_) | (with_reducible refine Cnt.go (by assumption) ?_))
      refine T.loop (fun n σ => σ.get 18 = .sl [encC t, encC a] .ex ∧ σ.get 19 = .int .i64 2 ∧ σ.get 3 = .ptr (0 :: 5 :: q) 0 ∧ σ.get 4 = .ptr (0 :: 6 :: q) 0 ∧ σ.get 5 = .ptr (0 :: 7 :: q) 0 ∧ σ.M (0 :: 5 :: q) = some (.cells (encC t)) ∧ σ.M (0 :: 7 :: q) = some (.cells (encC a)) ∧ σ.M (0 :: 6 :: q) = some (.cells [.int .i64 x]) ∧ σ.cnt 13 = 0 ∧ σ.cnt 14 = 0 ∧
        ((n = 2 ∧ σ.get 20 = .int .i64 0) ∨ (n = 1 ∧ σ.get 20 = .int .i64 1 ∧ rightE t = 0) ∨ (n = 0 ∧ σ.get 20 = .int .i64 2 ∧ rightE t = 0 ∧ rightE a = 0))) 2 ⟨by simp [encC_eq], by simp, by simp, by simp, by simp, by simp [encC_eq], by simp [encC_eq], by simp, by simp, by simp, .inl ⟨rfl, by simp⟩⟩ ?_
      rintro n σ ⟨g1, g2, g3, g8, g4, g5, g6, g9, g10, g11, g7⟩
      rw [encC_eq] at g5 g6
      rw [encC_eq, encC_eq] at g1
      rcases g7 with ⟨rfl, g7⟩ | ⟨rfl, g7, v1⟩ | ⟨rfl, g7, v1, v2⟩
      · have hw : IntKind.i64.wrap 1 = 1 := wrap64 (by omega) (by omega)
        by_cases v1 : rightE t = 0
        · repeat' (first | (with_reducible refine T.sq fun K hK => ?_) | ((first | ((with_reducible refine T.reg hE ?hd ?_); (case hd => kernel_rfl)) | ((with_reducible refine T.any hE mixed ?hd ?hok ?_); (case hd => kernel_rfl); (case hok => kernel_rfl))); simp [*]; (repeat' (split; all_goals (rename_i hc; try simp [*])))) | ((with_reducible refine T.ret ?_); refine fin_pure ?_; simp [*]; try (change Hold _)) | (with_reducible refine T.block ?_) | ((with_reducible refine T.skip ?_); simp [*]) | ((with_reducible refine T.exit ?_); simp [*]) | ((with_reducible refine T.br fun K1 K2 hK1 hK2 => ?_); simp [*]; try ((refine Br.intro (fun hc => ?_) (fun hc => ?_)) <;> (try simp at hc))) | (with_reducible refine Cont.go (by assumption) _ ?_) | (with_reducible refine Cnt.go (by assumption) ?_))
          all_goals simp [encC_eq, *]
        · have he : ctErr t x a = rightE t := by
            have hb : bothE t a = rightE t := by unfold bothE; rw [if_pos v1]
            unfold ctErr; rw [if_pos c, hb, if_pos v1]
          have hv : Hold (ctS t x a = 0) := ct_bad he v1
          repeat' (first | (with_reducible refine T.sq fun K hK => ?_) | ((first | ((with_reducible refine T.reg hE ?hd ?_); (case hd => kernel_rfl)) | ((with_reducible refine T.any hE mixed ?hd ?hok ?_); (case hd => kernel_rfl); (case hok => kernel_rfl))); simp [*]; (repeat' (split; all_goals (rename_i hc; try simp [*])))) | ((with_reducible refine T.ret ?_); refine fin_pure ?_; simp [*]; try (change Hold _)) | (with_reducible refine T.block ?_) | ((with_reducible refine T.skip ?_); simp [*]) | ((with_reducible refine T.exit ?_); simp [*]) | ((with_reducible refine T.br fun K1 K2 hK1 hK2 => ?_); simp [*]; try ((refine Br.intro (fun hc => ?_) (fun hc => ?_)) <;> (try simp at hc))) | (with_reducible refine Cont.go (by assumption) _ ?_) | (with_reducible refine Cnt.go (by assumption) ?_))
          all_goals (unfold Hold at *; rw [hv]; rfl)
      · have hw : IntKind.i64.wrap 2 = 2 := wrap64 (by omega) (by omega)
        by_cases v2 : rightE a = 0
        · repeat' (first | (with_reducible refine T.sq fun K hK => ?_) | ((first | ((with_reducible refine T.reg hE ?hd ?_); (case hd => kernel_rfl)) | ((with_reducible refine T.any hE mixed ?hd ?hok ?_); (case hd => kernel_rfl); (case hok => kernel_rfl))); simp [*]; (repeat' (split; all_goals (rename_i hc; try simp [*])))) | ((with_reducible refine T.ret ?_); refine fin_pure ?_; simp [*]; try (change Hold _)) | (with_reducible refine T.block ?_) | ((with_reducible refine T.skip ?_); simp [*]) | ((with_reducible refine T.exit ?_); simp [*]) | ((with_reducible refine T.br fun K1 K2 hK1 hK2 => ?_); simp [*]; try ((refine Br.intro (fun hc => ?_) (fun hc => ?_)) <;> (try simp at hc))) | (with_reducible refine Cont.go (by assumption) _ ?_) | (with_reducible refine Cnt.go (by assumption) ?_))
          all_goals simp [encC_eq, *]
        · have he : ctErr t x a = rightE a := by
            have hb : bothE t a = rightE a := by unfold bothE; rw [if_neg (by omega)]
            unfold ctErr; rw [if_pos c, hb, if_pos v2]
          have hv : Hold (ctS t x a = 0) := ct_bad he v2
          repeat' (first | (with_reducible refine T.sq fun K hK => ?_) | ((first | ((with_reducible refine T.reg hE ?hd ?_); (case hd => kernel_rfl)) | ((with_reducible refine T.any hE mixed ?hd ?hok ?_); (case hd => kernel_rfl); (case hok => kernel_rfl))); simp [*]; (repeat' (split; all_goals (rename_i hc; try simp [*])))) | ((with_reducible refine T.ret ?_); refine fin_pure ?_; simp [*]; try (change Hold _)) | (with_reducible refine T.block ?_) | ((with_reducible refine T.skip ?_); simp [*]) | ((with_reducible refine T.exit ?_); simp [*]) | ((with_reducible refine T.br fun K1 K2 hK1 hK2 => ?_); simp [*]; try ((refine Br.intro (fun hc => ?_) (fun hc => ?_)) <;> (try simp at hc))) | (with_reducible refine Cont.go (by assumption) _ ?_) | (with_reducible refine Cnt.go (by assumption) ?_))
          all_goals (unfold Hold at *; rw [hv]; rfl)
      · have hb : bothE t a = 0 := by unfold bothE; rw [if_neg (by omega)]; exact v2
        have ht : isT t = false := by
          cases e : isT t
          · rfl
          · exact absurd ⟨v1, v2, e⟩ hg
        have he : ctErr t x a = 40 := by unfold ctErr; rw [if_pos c, if_neg (by omega), if_neg (by simp [ht])]
        have hv : Hold (ctS t x a = 0) := ct_bad he (by omega)
        repeat' (first | (with_reducible refine T.sq fun K hK => ?_) | ((first | ((with_reducible refine T.reg hE ?hd ?_); (case hd => kernel_rfl)) | ((with_reducible refine T.any hE mixed ?hd ?hok ?_); (case hd => kernel_rfl); (case hok => kernel_rfl))); simp [*]; (repeat' (split; all_goals (rename_i hc; try simp [*])))) | ((with_reducible refine T.ret ?_); refine fin_pure ?_; simp [*]; try (change Hold _)) | (with_reducible refine T.block ?_) | ((with_reducible refine T.skip ?_); simp [*]) | ((with_reducible refine T.exit ?_); simp [*]) | ((with_reducible refine T.br fun K1 K2 hK1 hK2 => ?_); simp [*]; try ((refine Br.intro (fun hc => ?_) (fun hc => ?_)) <;> (try simp at hc))) | (with_reducible refine Cont.go (by assumption) _ ?_) | (with_reducible refine Cnt.go (by assumption) ?_))
        all_goals (unfold Hold at *; rw [hv]; rfl)
  · have hr : ctErr t x a = 1 := by unfold ctErr; rw [if_neg c]
    have hv : Hold (ctS t x a = 0) := ct_bad hr (by omega)
    have hE := ((EnvOk.nil (P := Tryz.prog) (eq := fun _ => false) (own := fun _ => false) (mem := fun _ => false) EqOk.none).addf ok_fIsVar)
    refine ⟨⟨Tryz.f222, Tryz.func222, by decide, rfl⟩, pure_of_T Tryz.func222 rfl (by simp [Tryz.ntmps222]) fun q => ?_⟩
    by_cases c1 : 0 ≤ x
    · have c2 : ¬ x ≤ 63 := by omega
      clear c
      repeat' (first | (with_reducible refine T.sq fun K hK => ?_) | ((first | ((with_reducible refine T.reg hE ?hd ?_); (case hd => kernel_rfl)) | ((with_reducible refine T.any hE mixed ?hd ?hok ?_); (case hd => kernel_rfl); (case hok => kernel_rfl))); simp [*]; (repeat' (split; all_goals (rename_i hc; try simp [*])))) | ((with_reducible refine T.ret ?_); refine fin_pure ?_; simp [*]; try (change Hold _)) | (with_reducible refine T.block ?_) | ((with_reducible refine T.skip ?_); simp [*]) | ((with_reducible refine T.exit ?_); simp [*]) | ((with_reducible refine T.br fun K1 K2 hK1 hK2 => ?_); simp [*]; try ((refine Br.intro (fun hc => ?_) (fun hc => ?_)) <;> (try simp at hc))) | (with_reducible refine Cont.go (by assumption) _ ?_) | (with_reducible refine Cnt.go (by assumption) ?_))
      all_goals (unfold Hold at *; rw [hv]; rfl)
    · clear c
      repeat' (first | (with_reducible refine T.sq fun K hK => ?_) | ((first | ((with_reducible refine T.reg hE ?hd ?_); (case hd => kernel_rfl)) | ((with_reducible refine T.any hE mixed ?hd ?hok ?_); (case hd => kernel_rfl); (case hok => kernel_rfl))); simp [*]; (repeat' (split; all_goals (rename_i hc; try simp [*])))) | ((with_reducible refine T.ret ?_); refine fin_pure ?_; simp [*]; try (change Hold _)) | (with_reducible refine T.block ?_) | ((with_reducible refine T.skip ?_); simp [*]) | ((with_reducible refine T.exit ?_); simp [*]) | ((with_reducible refine T.br fun K1 K2 hK1 hK2 => ?_); simp [*]; try ((refine Br.intro (fun hc => ?_) (fun hc => ?_)) <;> (try simp at hc))) | (with_reducible refine Cont.go (by assumption) _ ?_) | (with_reducible refine Cnt.go (by assumption) ?_))
      all_goals (unfold Hold at *; rw [hv]; rfl)
end
section
open Go Go.Proofs

def ffB (t : Ex) (x : Int) (a : Ex) : Bool := decide (ctErr t x a = 0) && decide (ctS t x a = 0)
@[simp] def gFreeFor : List V → Option V := f3 kE (kI .i64) kE fun t x a => some (.tup [.bool (ffB t x a), .int .i64 (ctErr t x a)])
theorem ok_FreeFor : PureOk Tryz.prog 214 gFreeFor := by
  intro args r h
  obtain ⟨t, x, a, rfl, ⟨⟩⟩ := f3_inv h
  clear h
  have hE := ((EnvOk.nil (P := Tryz.prog) (eq := fun _ => false) (own := fun _ => false) (mem := fun _ => false) EqOk.none).addf ok_Caught)
  refine ⟨⟨Tryz.f214, Tryz.func214, by decide, rfl⟩, pure_of_T Tryz.func214 rfl (by simp [Tryz.ntmps214]) fun q => ?_⟩
  by_cases v : ctErr t x a = 0
  · by_cases u : ctS t x a = 0
    · have hv : Hold (ffB t x a = true) := by unfold Hold ffB; simp [v, u]
      repeat' (first | (with_reducible refine T.sq fun K hK => ?_) | ((first | ((with_reducible refine T.reg hE ?hd ?_); (case hd => kernel_rfl)) | ((with_reducible refine T.any hE mixed ?hd ?hok ?_); (case hd => kernel_rfl); (case hok => kernel_rfl))); simp [*]; (repeat' (split; all_goals (rename_i hc; try simp [*])))) | ((with_reducible refine T.ret ?_); refine fin_pure ?_; simp [*]; try (change Hold _)) | (with_reducible refine T.block ?_) | ((with_reducible refine T.skip ?_); simp [*]) | ((with_reducible refine T.exit ?_); simp [*]) | ((with_reducible refine T.br fun K1 K2 hK1 hK2 => ?_); simp [*]; try ((refine Br.intro (fun hc => ?_) (fun hc => ?_)) <;> (try simp at hc))) | (with_reducible refine Cont.go (by assumption) _ ?_) | (with_reducible refine Cnt.go (by assumption) ?_))
      all_goals (unfold Hold at *; rw [hv])
    · have hv : Hold (ffB t x a = false) := by unfold Hold ffB; simp [v, u]
      repeat' (first | (with_reducible refine T.sq fun K hK => ?_) | ((first | ((with_reducible refine T.reg hE ?hd ?_); (case hd => kernel_rfl)) | ((with_reducible refine T.any hE mixed ?hd ?hok ?_); (case hd => kernel_rfl); (case hok => kernel_rfl))); simp [*]; (repeat' (split; all_goals (rename_i hc; try simp [*])))) | ((with_reducible refine T.ret ?_); refine fin_pure ?_; simp [*]; try (change Hold _)) | (with_reducible refine T.block ?_) | ((with_reducible refine T.skip ?_); simp [*]) | ((with_reducible refine T.exit ?_); simp [*]) | ((with_reducible refine T.br fun K1 K2 hK1 hK2 => ?_); simp [*]; try ((refine Br.intro (fun hc => ?_) (fun hc => ?_)) <;> (try simp at hc))) | (with_reducible refine Cont.go (by assumption) _ ?_) | (with_reducible refine Cnt.go (by assumption) ?_))
      all_goals (unfold Hold at *; rw [hv])
  · have hv : Hold (ffB t x a = false) := by unfold Hold ffB; simp [v]
    repeat' (first | (with_reducible refine T.sq fun K hK => ?_) | ((first | ((with_reducible refine T.reg hE ?hd ?_); (case hd => kernel_rfl)) | ((with_reducible refine T.any hE mixed ?hd ?hok ?_); (case hd => kernel_rfl); (case hok => kernel_rfl))); simp [*]; (repeat' (split; all_goals (rename_i hc; try simp [*])))) | ((with_reducible refine T.ret ?_); refine fin_pure ?_; simp [*]; try (change Hold _)) | (with_reducible refine T.block ?_) | ((with_reducible refine T.skip ?_); simp [*]) | ((with_reducible refine T.exit ?_); simp [*]) | ((with_reducible refine T.br fun K1 K2 hK1 hK2 => ?_); simp [*]; try ((refine Br.intro (fun hc => ?_) (fun hc => ?_)) <;> (try simp at hc))) | (with_reducible refine Cont.go (by assumption) _ ?_) | (with_reducible refine Cnt.go (by assumption) ?_))
    all_goals (unfold Hold at *; rw [hv])
theorem ok_rFreeFor : PureOk Tryz.prog 98 gFreeFor := by
  intro args r h
  obtain ⟨t, x, a, rfl, ⟨⟩⟩ := f3_inv h
  clear h
  have hE := ((EnvOk.nil (P := Tryz.prog) (eq := fun _ => false) (own := fun _ => false) (mem := fun _ => false) EqOk.none).addf ok_rCaught)
  refine ⟨⟨Tryz.f98, Tryz.func98, by decide, rfl⟩, pure_of_T Tryz.func98 rfl (by simp [Tryz.ntmps98]) fun q => ?_⟩
  by_cases v : ctErr t x a = 0
  · by_cases u : ctS t x a = 0
    · have hv : Hold (ffB t x a = true) := by unfold Hold ffB; simp [v, u]
      repeat' (first | (with_reducible refine T.sq fun K hK => ?_) | ((first | ((with_reducible refine T.reg hE ?hd ?_); (case hd => kernel_rfl)) | ((with_reducible refine T.any hE mixed ?hd ?hok ?_); (case hd => kernel_rfl); (case hok => kernel_rfl))); simp [*]; (repeat' (split; all_goals (rename_i hc; try simp [*])))) | ((with_reducible refine T.ret ?_); refine fin_pure ?_; simp [*]; try (change Hold _)) | (with_reducible refine T.block ?_) | ((with_reducible refine T.skip ?_); simp [*]) | ((with_reducible refine T.exit ?_); simp [*]) | ((with_reducible refine T.br fun K1 K2 hK1 hK2 => ?_); simp [*]; try ((refine Br.intro (fun hc => ?_) (fun hc => ?_)) <;> (try simp at hc))) | (with_reducible refine Cont.go (by assumption) _ ?_) | (with_reducible refine Cnt.go (by assumption) ?_))
      all_goals (unfold Hold at *; rw [hv])
    · have hv : Hold (ffB t x a = false) := by unfold Hold ffB; simp [v, u]
      repeat' (first | (with_reducible refine T.sq fun K hK => ?_) | ((first | ((with_reducible refine T.reg hE ?hd ?_); (case hd => kernel_rfl)) | ((with_reducible refine T.any hE mixed ?hd ?hok ?_); (case hd => kernel_rfl); (case hok => kernel_rfl))); simp [*]; (repeat' (split; all_goals (rename_i hc; try simp [*])))) | ((with_reducible refine T.ret ?_); refine fin_pure ?_; simp [*]; try (change Hold _)) | (with_reducible refine T.block ?_) | ((with_reducible refine T.skip ?_); simp [*]) | ((with_reducible refine T.exit ?_); simp [*]) | ((with_reducible refine T.br fun K1 K2 hK1 hK2 => ?_); simp [*]; try ((refine Br.intro (fun hc => ?_) (fun hc => ?_)) <;> (try simp at hc))) | (with_reducible refine Cont.go (by assumption) _ ?_) | (with_reducible refine Cnt.go (by assumption) ?_))
      all_goals (unfold Hold at *; rw [hv])
  · have hv : Hold (ffB t x a = false) := by unfold Hold ffB; simp [v]
    repeat' (first | (with_reducible refine T.sq fun K hK => ?_) | ((first | ((with_reducible refine T.reg hE ?hd ?_); (case hd => kernel_rfl)) | ((with_reducible refine T.any hE mixed ?hd ?hok ?_); (case hd => kernel_rfl); (case hok => kernel_rfl))); simp [*]; (repeat' (split; all_goals (rename_i hc; try simp [*])))) | ((with_reducible refine T.ret ?_); refine fin_pure ?_; simp [*]; try (change Hold _)) | (with_reducible refine T.block ?_) | ((with_reducible refine T.skip ?_); simp [*]) | ((with_reducible refine T.exit ?_); simp [*]) | ((with_reducible refine T.br fun K1 K2 hK1 hK2 => ?_); simp [*]; try ((refine Br.intro (fun hc => ?_) (fun hc => ?_)) <;> (try simp at hc))) | (with_reducible refine Cont.go (by assumption) _ ?_) | (with_reducible refine Cnt.go (by assumption) ?_))
    all_goals (unfold Hold at *; rw [hv])
theorem setV_good {F : Ex → Nat} {e : Ex} (h : rightE e = 0) : setV F e = .tup [.int .u64 (F e : Nat), .int .i64 0] := by rw [setV_eq, if_pos h, h]
theorem var_right {x : Int} (h : 0 ≤ x ∧ x ≤ 63) : rightE (.mk 1 x []) = 0 := by
  refine right_of ?_ ?_ ?_
  · rw [nodesN_eq, cntE, cntL]; omega
  · rw [depE, depL]; omega
  · rw [allX_eq]
    simp only [Ex.kids_mk]
    rw [show shapedX (.mk 1 x []) = true by unfold shapedX mostOf; simp [h.1, h.2]]
    simp
end
end Go.Proofs.YtibfdebhbibfpaaGreat.Ax
