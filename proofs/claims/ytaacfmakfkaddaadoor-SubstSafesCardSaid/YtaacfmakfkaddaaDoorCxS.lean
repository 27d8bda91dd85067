/- Contracts: a term put in, by the program. -/
import Derived.Test.YtaacfmakfkaddaaDoorCxR
set_option linter.unusedVariables false
set_option linter.unusedSimpArgs false
namespace Go.Proofs.YtaacfmakfkaddaaDoor.Ax
open Go Go.Proofs

theorem recb {P : Program} {f : FuncId} {β γ : Type} {B : Kd β} {C : Kd γ} {F : β → Ex → γ → Option V} (h : ∀ e, PureOk P f (f3 B kE C fun b x c => if SizeOf.sizeOf x < SizeOf.sizeOf e then F b x c else none) → ∀ b c r, F b e c = some r → Okat P f [B.enc b, enc e, C.enc c] r) : PureOk P f (f3 B kE C F) := by
  have main : ∀ (n : Nat) (e : Ex), SizeOf.sizeOf e < n → ∀ b c r, F b e c = some r → Okat P f [B.enc b, enc e, C.enc c] r := by
    intro n
    induction n with
    | zero => intro e he; omega
    | succ n ih =>
      intro e he b c r hr
      refine h e (fun args r h1 => ?_) b c r hr
      obtain ⟨b, x, c, rfl, h2⟩ := f3_inv h1
      split at h2
      · rename_i hlt; exact ih x (by omega) b c r h2
      · cases h2
  intro args r h1
  obtain ⟨b, x, c, rfl, h2⟩ := f3_inv h1
  exact main _ x (Nat.lt_succ_self _) b c r h2
theorem psL_take (f : Int → Option Ex) (l : List Ex) (j : Nat) (h : j < l.length) : psL f (l.take (j + 1)) = psL f (l.take j) ++ [psF f l[j]] := by
  rw [psL_map, psL_map, List.take_add_one, List.getElem?_eq_getElem h, List.map_append]; rfl
theorem encL_snoc (l : List Ex) (e : Ex) : encL (l ++ [e]) = encL l ++ [[.int .i64 e.k, .int .i64 e.i, .sl (encL e.kids) .no]] := by rw [encL_append]; simp
def okIn (e : Ex) (s : Int) (l : List Ex) (b : Int) : Prop := allX e = true ∧ isU64 s ∧ l.length = 64 ∧ isU64 b
noncomputable instance (e : Ex) (s : Int) (l : List Ex) (b : Int) : Decidable (okIn e s l b) := Classical.propDecidable _
@[simp] noncomputable def gIn : List V → Option V := f3 kT kE (kI .u64) fun t e b => if okIn e t.1 t.2 b then some (enc (psF (tbF t.1.toNat t.2 b.toNat) e)) else none
set_option maxHeartbeats 2000000 in
theorem ok_in : PureOk Tryd.prog 81 gIn := by
  refine recb fun e ih t b r hr => ?_
  split at hr
  · rename_i hm
    obtain ⟨s, l⟩ := t
    obtain ⟨ha, hs0, hl, hb0⟩ := hm
    cases hr
    obtain ⟨s, rfl, hs⟩ := u64_of hs0
    obtain ⟨b, rfl, hb⟩ := u64_of hb0
    simp only [Int.toNat_natCast] at *
    have hE := (((((EnvOk.nil (P := Tryd.prog) (eq := fun _ => false) (own := fun _ => false) (mem := fun _ => false) EqOk.none).addf ok_sBinds).addf ok_wHas).addf ok_wWith).addf ih)
    refine ⟨⟨Tryd.f81, Tryd.func81, by decide, rfl⟩, pure_of_T Tryd.func81 rfl (by simp [Tryd.ntmps81]) fun q => ?_⟩
    have hce := psF_eq (tbF s l b) e
    have hnd : bits .andNot .u64 ((s : Nat) : Int) ((b : Nat) : Int) = ((ndiff s b : Nat) : Int) := bits_andNot hs hb
    have hul := u64_nat (n := ndiff s b) (by rw [ndiff_dif hs hb]; exact dif_lt64 hs)
    by_cases c1 : e.k = 1
    · have hv := shaped_var ha (.inl c1)
      obtain ⟨m, hm⟩ := Int.eq_ofNat_of_zero_le hv.1
      have hm64 : m < 64 := by omega
      have hmi : (m : Int) < 64 := by omega
      by_cases c2 : hasB (ndiff s b) (m : Int) = true
      · have hml : m < l.length := by omega
        have hxs : ((V.int .u64 (s : Nat) :: encXs l).drop (1 + m * 3)).take 3 = [.int .i64 l[m].k, .int .i64 l[m].i, .sl (encL l[m].kids) .no] := by
          rw [Nat.add_comm, List.drop_succ_cons]; exact xs_get l m hml
        have h190 : 1 + m * 3 ≤ 190 := by omega
        have hlen : (encXs l).length = 192 := by rw [encXs_len, hl]
        have hgd : l.getD m ex0 = l[m] := by simp [List.getD_eq_getElem?_getD, hml]
        have he2 : Hold (psF (tbF s l b) e = l[m]) := by
          unfold Hold
          rw [hce, if_pos c1, hm]
          unfold tbF
          rw [if_pos c2, Int.toNat_natCast, hgd]; rfl
        clear hce
        repeat' (first | (with_reducible refine T.sq fun K hK => ?_) | ((first | ((with_reducible refine T.reg hE ?hd ?_); (case hd => kernel_rfl)) | ((with_reducible refine T.any hE mixed ?hd ?hok ?_); (case hd => kernel_rfl); (case hok => kernel_rfl))); simp [*]; (repeat' (split; all_goals (rename_i hc; try simp [*])))) | ((with_reducible refine T.ret ?_); refine fin_pure ?_; simp [*]; try (change Hold _)) | (with_reducible refine T.block ?_) | ((with_reducible refine T.skip ?_); simp [*]) | ((with_reducible refine T.exit ?_); simp [*]) | ((with_reducible refine T.br fun K1 K2 hK1 hK2 => ?_); simp [*]; try ((refine Br.intro (fun hc => ?_) (fun hc => ?_)) <;> (try simp at hc))) | (with_reducible refine Cont.go (by assumption) _ ?_) | (with_reducible refine Cnt.go (by assumption) ?_))
        all_goals (unfold Hold at *; rw [he2]; try simp)
      · have he2 : Hold (psF (tbF s l b) e = .mk 1 (m : Int) e.kids) := by
          unfold Hold
          rw [hce, if_pos c1, hm]
          unfold tbF
          rw [if_neg c2, ← hm, ← c1]
          simp
        rw [Bool.not_eq_true] at c2
        clear hce
        repeat' (first | (with_reducible refine T.sq fun K hK => ?_) | ((first | ((with_reducible refine T.reg hE ?hd ?_); (case hd => kernel_rfl)) | ((with_reducible refine T.any hE mixed ?hd ?hok ?_); (case hd => kernel_rfl); (case hok => kernel_rfl))); simp [*]; (repeat' (split; all_goals (rename_i hc; try simp [*])))) | ((with_reducible refine T.ret ?_); refine fin_pure ?_; simp [*]; try (change Hold _)) | (with_reducible refine T.block ?_) | ((with_reducible refine T.skip ?_); simp [*]) | ((with_reducible refine T.exit ?_); simp [*]) | ((with_reducible refine T.br fun K1 K2 hK1 hK2 => ?_); simp [*]; try ((refine Br.intro (fun hc => ?_) (fun hc => ?_)) <;> (try simp at hc))) | (with_reducible refine Cont.go (by assumption) _ ?_) | (with_reducible refine Cnt.go (by assumption) ?_))
        all_goals (unfold Hold at *; rw [he2]; try simp)
    obtain ⟨B, hB⟩ : ∃ B, B = (if e.k = 7 ∨ e.k = 10 then withN b e.i else b) := ⟨_, rfl⟩
    have hbin : (e.k = 7 ∨ e.k = 10) → 0 ≤ e.i ∧ e.i ≤ 63 := fun h => shaped_var ha (.inr h)
    have he2 : Hold (psF (tbF s l b) e = .mk e.k e.i (psL (tbF s l B) e.kids)) := by
      unfold Hold
      rw [hce, if_neg c1, tb_qu hs hb hbin, hB, psL_map]
    have hBl : B < 18446744073709551616 := by
      rw [hB]; split
      · exact withN_lt hb
      · exact hb
    clear hce hbin
    refine T.sq fun K hK => ?_
    obtain ⟨hgo⟩ := hK
    repeat' (first | (with_reducible refine T.sq fun K hK => ?_) | ((first | ((with_reducible refine T.reg hE ?hd ?_); (case hd => kernel_rfl)) | ((with_reducible refine T.any hE mixed ?hd ?hok ?_); (case hd => kernel_rfl); (case hok => kernel_rfl))); simp [*]; (repeat' (split; all_goals (rename_i hc; try simp [*])))) | ((with_reducible refine T.ret ?_); refine fin_pure ?_; simp [*]; try (change Hold _)) | (with_reducible refine T.block ?_) | ((with_reducible refine T.skip ?_); simp [*]) | ((with_reducible refine T.exit ?_); simp [*]) | ((with_reducible refine T.br fun K1 K2 hK1 hK2 => ?_); simp [*]; try ((refine Br.intro (fun hc => ?_) (fun hc => ?_)) <;> (try simp at hc))) | (with_reducible refine Cont.go (by assumption) _ ?_) | (with_reducible refine Cnt.go (by assumption) ?_))
    refine hgo _ ?_
    clear hgo
    refine T.sq fun K hK => ?_
    obtain ⟨hgo⟩ := hK
    repeat' (first | (with_reducible refine T.sq fun K hK => ?_) | ((first | ((with_reducible refine T.reg hE ?hd ?_); (case hd => kernel_rfl)) | ((with_reducible refine T.any hE mixed ?hd ?hok ?_); (case hd => kernel_rfl); (case hok => kernel_rfl))); simp [*]; (repeat' (split; all_goals (rename_i hc; try simp [*])))) | ((with_reducible refine T.ret ?_); refine fin_pure ?_; simp [*]; try (change Hold _)) | (with_reducible refine T.block ?_) | ((with_reducible refine T.skip ?_); simp [*]) | ((with_reducible refine T.exit ?_); simp [*]) | ((with_reducible refine T.br fun K1 K2 hK1 hK2 => ?_); simp [*]; try ((refine Br.intro (fun hc => ?_) (fun hc => ?_)) <;> (try simp at hc))) | (with_reducible refine Cont.go (by assumption) _ ?_) | (with_reducible refine Cnt.go (by assumption) ?_))
    refine hgo _ ?_
    clear hgo
    refine T.sq fun K2 hK2 => ?_
    obtain ⟨h2⟩ := hK2
    suffices j2 : ∀ σ : St, (σ.get 0 = .cptr (.int .u64 (s : Nat) :: encXs l) 0 ∧ σ.get 2 = .int .u64 (B : Nat) ∧ σ.get 4 = .ptr (0 :: 6 :: q) 0 ∧ σ.M (0 :: 6 :: q) = some (.cells (encC e)) ∧ σ.get 6 = .ptr (0 :: 8 :: q) 0 ∧ (∃ c0 c1 c2, σ.M (0 :: 8 :: q) = some (.cells [c0, c1, c2])) ∧ σ.cnt 9 = 0) → K2 σ by
      clear h2
      by_cases c4 : isQ e = true
      · have c4' : e.k = 7 ∨ e.k = 10 := by simpa [isQ] using c4
        rw [if_pos c4'] at hB
        rw [hB] at j2
        clear he2 c4' hB
        repeat' (first | (with_reducible refine T.sq fun K hK => ?_) | ((first | ((with_reducible refine T.reg hE ?hd ?_); (case hd => kernel_rfl)) | ((with_reducible refine T.any hE mixed ?hd ?hok ?_); (case hd => kernel_rfl); (case hok => kernel_rfl))); simp [*]; (repeat' (split; all_goals (rename_i hc; try simp [*])))) | ((with_reducible refine T.ret ?_); refine fin_pure ?_; simp [*]; try (change Hold _)) | (with_reducible refine T.block ?_) | ((with_reducible refine T.skip ?_); simp [*]) | ((with_reducible refine T.exit ?_); simp [*]) | ((with_reducible refine T.br fun K1 K2 hK1 hK2 => ?_); simp [*]; try ((refine Br.intro (fun hc => ?_) (fun hc => ?_)) <;> (try simp at hc))) | (with_reducible refine Cont.go (by assumption) _ ?_) | (with_reducible refine Cnt.go (by assumption) ?_))
        all_goals (refine j2 _ ⟨?_, ?_, ?_, ?_, ?_, ?_, ?_⟩ <;> simp [*, encC_eq])
      · have c4' : ¬ (e.k = 7 ∨ e.k = 10) := by simpa [isQ] using c4
        rw [if_neg c4'] at hB
        rw [hB] at j2
        rw [Bool.not_eq_true] at c4
        clear he2 c4' hB
        repeat' (first | (with_reducible refine T.sq fun K hK => ?_) | ((first | ((with_reducible refine T.reg hE ?hd ?_); (case hd => kernel_rfl)) | ((with_reducible refine T.any hE mixed ?hd ?hok ?_); (case hd => kernel_rfl); (case hok => kernel_rfl))); simp [*]; (repeat' (split; all_goals (rename_i hc; try simp [*])))) | ((with_reducible refine T.ret ?_); refine fin_pure ?_; simp [*]; try (change Hold _)) | (with_reducible refine T.block ?_) | ((with_reducible refine T.skip ?_); simp [*]) | ((with_reducible refine T.exit ?_); simp [*]) | ((with_reducible refine T.br fun K1 K2 hK1 hK2 => ?_); simp [*]; try ((refine Br.intro (fun hc => ?_) (fun hc => ?_)) <;> (try simp at hc))) | (with_reducible refine Cont.go (by assumption) _ ?_) | (with_reducible refine Cnt.go (by assumption) ?_))
        all_goals (refine j2 _ ⟨?_, ?_, ?_, ?_, ?_, ?_, ?_⟩ <;> simp [*, encC_eq])
    rintro σ ⟨b1, b2, b4, b5, b6, ⟨c0, d1, c2, b7⟩, b8⟩
    refine h2 σ ?_
    clear h2 hB
    rw [encC_eq] at b5
    have hk4 := kids_four ha
    repeat' (first | (with_reducible refine T.sq fun K hK => ?_) | ((first | ((with_reducible refine T.reg hE ?hd ?_); (case hd => kernel_rfl)) | ((with_reducible refine T.any hE mixed ?hd ?hok ?_); (case hd => kernel_rfl); (case hok => kernel_rfl))); simp [*]; (repeat' (split; all_goals (rename_i hc; try simp [*])))) | ((with_reducible refine T.ret ?_); refine fin_pure ?_; simp [*]; try (change Hold _)) | (with_reducible refine T.block ?_) | ((with_reducible refine T.skip ?_); simp [*]) | ((with_reducible refine T.exit ?_); simp [*]) | ((with_reducible refine T.br fun K1 K2 hK1 hK2 => ?_); simp [*]; try ((refine Br.intro (fun hc => ?_) (fun hc => ?_)) <;> (try simp at hc))) | (with_reducible refine Cont.go (by assumption) _ ?_) | (with_reducible refine Cnt.go (by assumption) ?_))
    refine T.loop (fun z σ => ∃ (j : Nat) (w : V), z = e.kids.length - j ∧ σ.get 0 = .cptr (.int .u64 (s : Nat) :: encXs l) 0 ∧ σ.get 2 = .int .u64 (B : Nat) ∧ σ.get 6 = .ptr (0 :: 8 :: q) 0 ∧ (∃ c0 c1 c2, σ.M (0 :: 8 :: q) = some (.cells [c0, c1, c2])) ∧ σ.get 7 = .ptr (0 :: 9 :: q) 0 ∧ σ.M (0 :: 9 :: q) = some (.cells [.int .i64 e.k, .int .i64 e.i, w]) ∧ σ.get 42 = .sl (encL e.kids) .no ∧ σ.get 43 = .int .i64 e.kids.length ∧ σ.get 44 = .int .i64 j ∧ j ≤ e.kids.length ∧ Hold ((j = 0 ∧ w = .nils) ∨ (0 < j ∧ ∃ id, w = .sl (encL (psL (tbF s l B) (e.kids.take j))) (.own id 3) ∧ σ.K id = true))) e.kids.length ⟨0, .nils, by simp, by simp [*], by simp [*], by simp [*], ⟨c0, d1, c2, by simp [*]⟩, by simp [*], by simp [*], by simp [*], by simp [*], by simp [*], by omega, .inl ⟨rfl, rfl⟩⟩ ?_
    clear b1 b2 b4 b5 b6 b7 b8
    rintro z σ ⟨j, w, rfl, g1, g2, g3, ⟨c0, d1, c2, g4⟩, g5, g6, g7, g8, g9, g10, g11⟩
    by_cases hj : j < e.kids.length
    · have hw : IntKind.i64.wrap ((j : Int) + 1) = (j : Int) + 1 := wrap64 (by omega) (by omega)
      have hw1 : IntKind.i64.wrap 1 = 1 := wrap64 (by omega) (by omega)
      have hs2 := ex_kid_lt e j hj
      have hok : okIn e.kids[j] (s : Nat) l (B : Nat) := ⟨allX_kid ha j hj, hs0, hl, u64_nat hBl⟩
      have ht := psL_take (tbF s l B) e.kids j hj
      have ht2 : Hold (encL (psL (tbF s l B) (e.kids.take (j + 1))) = encL (psL (tbF s l B) (e.kids.take j)) ++ [[.int .i64 (psF (tbF s l B) e.kids[j]).k, .int .i64 (psF (tbF s l B) e.kids[j]).i, .sl (encL (psF (tbF s l B) e.kids[j]).kids) .no]]) := by unfold Hold; rw [ht, encL_snoc]
      have hl2 : (psL (tbF s l B) (e.kids.take j)).length = j := by rw [psL_len, List.length_take]; omega
      have u1 : (j + 1) * 40 ≤ 140737488355328 := by omega
      clear ht
      rcases g11 with ⟨rfl, rfl⟩ | ⟨hj0, id, rfl, hK⟩
      · have ht3 : Hold (encL (psL (tbF s l B) (e.kids.take (0 + 1))) = [[.int .i64 (psF (tbF s l B) e.kids[0]).k, .int .i64 (psF (tbF s l B) e.kids[0]).i, .sl (encL (psF (tbF s l B) e.kids[0]).kids) .no]]) := by
          unfold Hold at *; rw [ht2, List.take_zero, psL, encL_nil, List.nil_append]
        clear ht2
        repeat' (first | (with_reducible refine T.sq fun K hK => ?_) | ((first | ((with_reducible refine T.reg hE ?hd ?_); (case hd => kernel_rfl)) | ((with_reducible refine T.any hE mixed ?hd ?hok ?_); (case hd => kernel_rfl); (case hok => kernel_rfl))); simp [*]; (repeat' (split; all_goals (rename_i hc; try simp [*])))) | ((with_reducible refine T.ret ?_); refine fin_pure ?_; simp [*]; try (change Hold _)) | (with_reducible refine T.block ?_) | ((with_reducible refine T.skip ?_); simp [*]) | ((with_reducible refine T.exit ?_); simp [*]) | ((with_reducible refine T.br fun K1 K2 hK1 hK2 => ?_); simp [*]; try ((refine Br.intro (fun hc => ?_) (fun hc => ?_)) <;> (try simp at hc))) | (with_reducible refine Cont.go (by assumption) _ ?_) | (with_reducible refine Cnt.go (by assumption) ?_))
        refine ⟨e.kids.length - 1, by omega, 1, rfl, by omega, by omega, ?_⟩
        unfold Hold at *
        exact ⟨by omega, _, ⟨ht3.symm, rfl⟩, .inl rfl⟩
      · have hl3 : (∀ el : List V, el ∈ encL (psL (tbF s l B) (e.kids.take j)) → el.length = 3) = True := eq_true (encL_len3 _)
        repeat' (first | (with_reducible refine T.sq fun K hK => ?_) | ((first | ((with_reducible refine T.reg hE ?hd ?_); (case hd => kernel_rfl)) | ((with_reducible refine T.any hE mixed ?hd ?hok ?_); (case hd => kernel_rfl); (case hok => kernel_rfl))); simp [*]; (repeat' (split; all_goals (rename_i hc; try simp [*])))) | ((with_reducible refine T.ret ?_); refine fin_pure ?_; simp [*]; try (change Hold _)) | (with_reducible refine T.block ?_) | ((with_reducible refine T.skip ?_); simp [*]) | ((with_reducible refine T.exit ?_); simp [*]) | ((with_reducible refine T.br fun K1 K2 hK1 hK2 => ?_); simp [*]; try ((refine Br.intro (fun hc => ?_) (fun hc => ?_)) <;> (try simp at hc))) | (with_reducible refine Cont.go (by assumption) _ ?_) | (with_reducible refine Cnt.go (by assumption) ?_))
        refine ⟨e.kids.length - (j + 1), by omega, j + 1, rfl, by omega, by omega, ?_⟩
        unfold Hold at *
        exact ⟨by omega, _, ⟨ht2.symm, rfl⟩, .inl rfl⟩
    · have w8 : j = e.kids.length := by omega
      subst w8
      rcases g11 with ⟨h0, rfl⟩ | ⟨hj0, id, rfl, hK⟩
      · have hn : e.kids = [] := List.eq_nil_of_length_eq_zero h0
        have he3 : Hold (psF (tbF s l b) e = .mk e.k e.i []) := by unfold Hold at *; rw [he2, hn, psL]
        clear he2
        repeat' (first | (with_reducible refine T.sq fun K hK => ?_) | ((first | ((with_reducible refine T.reg hE ?hd ?_); (case hd => kernel_rfl)) | ((with_reducible refine T.any hE mixed ?hd ?hok ?_); (case hd => kernel_rfl); (case hok => kernel_rfl))); simp [*]; (repeat' (split; all_goals (rename_i hc; try simp [*])))) | ((with_reducible refine T.ret ?_); refine fin_pure ?_; simp [*]; try (change Hold _)) | (with_reducible refine T.block ?_) | ((with_reducible refine T.skip ?_); simp [*]) | ((with_reducible refine T.exit ?_); simp [*]) | ((with_reducible refine T.br fun K1 K2 hK1 hK2 => ?_); simp [*]; try ((refine Br.intro (fun hc => ?_) (fun hc => ?_)) <;> (try simp at hc))) | (with_reducible refine Cont.go (by assumption) _ ?_) | (with_reducible refine Cnt.go (by assumption) ?_))
        all_goals (unfold Hold at *; rw [he3]; try simp)
      · rw [List.take_length] at g6
        repeat' (first | (with_reducible refine T.sq fun K hK => ?_) | ((first | ((with_reducible refine T.reg hE ?hd ?_); (case hd => kernel_rfl)) | ((with_reducible refine T.any hE mixed ?hd ?hok ?_); (case hd => kernel_rfl); (case hok => kernel_rfl))); simp [*]; (repeat' (split; all_goals (rename_i hc; try simp [*])))) | ((with_reducible refine T.ret ?_); refine fin_pure ?_; simp [*]; try (change Hold _)) | (with_reducible refine T.block ?_) | ((with_reducible refine T.skip ?_); simp [*]) | ((with_reducible refine T.exit ?_); simp [*]) | ((with_reducible refine T.br fun K1 K2 hK1 hK2 => ?_); simp [*]; try ((refine Br.intro (fun hc => ?_) (fun hc => ?_)) <;> (try simp at hc))) | (with_reducible refine Cont.go (by assumption) _ ?_) | (with_reducible refine Cnt.go (by assumption) ?_))
        all_goals (unfold Hold at *; rw [he2]; try simp)
  · cases hr

/-! ### What may be -/
def frV (e : Ex) : V := .tup [enc (if rightE e = 0 then e else ex0), .int .i64 (rightE e)]
theorem frV_good {e : Ex} (h : rightE e = 0) : frV e = .tup [enc e, .int .i64 0] := by unfold frV; rw [if_pos h, h]
theorem frV_bad {e : Ex} {n : Int} (h : rightE e = n) (hn : n ≠ 0) : frV e = .tup [enc ex0, .int .i64 n] := by unfold frV; rw [h, if_neg hn]
theorem partV_nil0 (e : Ex) : partV e [] = frV e := by
  by_cases h : rightE e = 0
  · rw [partV_nil h, frV_good h]
  · rw [frV_bad rfl h]; unfold partV; rw [if_neg h]
@[simp] def gFresh : List V → Option V := f1 kE fun e => some (frV e)
theorem ok_fresh : PureOk Tryd.prog 83 gFresh := by
  intro args r h
  obtain ⟨e, rfl, ⟨⟩⟩ := f1_inv h
  clear h
  have hE := ((EnvOk.nil (P := Tryd.prog) (eq := fun _ => false) (own := fun _ => false) (mem := fun _ => false) EqOk.none).addf ok_At)
  refine ⟨⟨Tryd.f83, Tryd.func83, by decide, rfl⟩, pure_of_T Tryd.func83 rfl (by simp [Tryd.ntmps83]) fun q => ?_⟩
  have hd0 : decI .i64 [] = some [] := rfl
  have hp := partV_nil0 e
  by_cases v : rightE e = 0
  · have hv := frV_good v
    repeat' (first | (with_reducible refine T.sq fun K hK => ?_) | ((first | ((with_reducible refine T.reg hE ?hd ?_); (case hd => kernel_rfl)) | ((with_reducible refine T.any hE mixed ?hd ?hok ?_); (case hd => kernel_rfl); (case hok => kernel_rfl))); simp [*]; (repeat' (split; all_goals (rename_i hc; try simp [*])))) | ((with_reducible refine T.ret ?_); refine fin_pure ?_; simp [*]; try (change Hold _)) | (with_reducible refine T.block ?_) | ((with_reducible refine T.skip ?_); simp [*]) | ((with_reducible refine T.exit ?_); simp [*]) | ((with_reducible refine T.br fun K1 K2 hK1 hK2 => ?_); simp [*]; try ((refine Br.intro (fun hc => ?_) (fun hc => ?_)) <;> (try simp at hc))) | (with_reducible refine Cont.go (by assumption) _ ?_) | (with_reducible refine Cnt.go (by assumption) ?_))
    all_goals (unfold Hold; rw [hv]; try simp)
  · have hv := frV_bad rfl v
    repeat' (first | (with_reducible refine T.sq fun K hK => ?_) | ((first | ((with_reducible refine T.reg hE ?hd ?_); (case hd => kernel_rfl)) | ((with_reducible refine T.any hE mixed ?hd ?hok ?_); (case hd => kernel_rfl); (case hok => kernel_rfl))); simp [*]; (repeat' (split; all_goals (rename_i hc; try simp [*])))) | ((with_reducible refine T.ret ?_); refine fin_pure ?_; simp [*]; try (change Hold _)) | (with_reducible refine T.block ?_) | ((with_reducible refine T.skip ?_); simp [*]) | ((with_reducible refine T.exit ?_); simp [*]) | ((with_reducible refine T.br fun K1 K2 hK1 hK2 => ?_); simp [*]; try ((refine Br.intro (fun hc => ?_) (fun hc => ?_)) <;> (try simp at hc))) | (with_reducible refine Cont.go (by assumption) _ ?_) | (with_reducible refine Cnt.go (by assumption) ?_))
    all_goals (unfold Hold; rw [hv]; try simp)
@[simp] noncomputable def gBounded : List V → Option V := f2 kE kT fun e t => if okIn e t.1 t.2 0 then some (frV (psF (tbF t.1.toNat t.2 0) e)) else none
theorem ok_bounded : PureOk Tryd.prog 42 gBounded := by
  intro args r h
  obtain ⟨e, t, rfl, hr⟩ := f2_inv h; clear h
  split at hr
  · rename_i hm
    obtain ⟨s, l⟩ := t
    cases hr
    have hm' := hm
    obtain ⟨ha, hs0, hl, hb0⟩ := hm
    obtain ⟨s, rfl, hs⟩ := u64_of hs0
    simp only [Int.toNat_natCast] at *
    have hE := ((((EnvOk.nil (P := Tryd.prog) (eq := fun _ => false) (own := fun _ => false) (mem := fun _ => false) EqOk.none).addf ok_count).addf ok_in).addf ok_fresh)
    refine ⟨⟨Tryd.f42, Tryd.func42, by decide, rfl⟩, pure_of_T Tryd.func42 rfl (by simp [Tryd.ntmps42]) fun q => ?_⟩
    have hok : okCu e (s : Nat) l 0 0 := ⟨ha, hs0, hl, ⟨by omega, by omega⟩, by omega, by omega⟩
    have hc := cu_cnt (l := l) hs e 0 0 ha (by omega) (by omega)
    by_cases c : cntE (psF (tbF s l 0) e) ≤ 1000
    · have hcu : cuE s l 0 e 0 ≤ 1000 := by have := hc.1 (by omega); omega
      have hci : ¬ (1000 : Int) < (cuE s l 0 e 0 : Nat) := by omega
      clear hc
      by_cases v : rightE (psF (tbF s l 0) e) = 0
      · have hv := frV_good v
        repeat' (first | (with_reducible refine T.sq fun K hK => ?_) | ((first | ((with_reducible refine T.reg hE ?hd ?_); (case hd => kernel_rfl)) | ((with_reducible refine T.any hE mixed ?hd ?hok ?_); (case hd => kernel_rfl); (case hok => kernel_rfl))); simp [*]; (repeat' (split; all_goals (rename_i hc; try simp [*])))) | ((with_reducible refine T.ret ?_); refine fin_pure ?_; simp [*]; try (change Hold _)) | (with_reducible refine T.block ?_) | ((with_reducible refine T.skip ?_); simp [*]) | ((with_reducible refine T.exit ?_); simp [*]) | ((with_reducible refine T.br fun K1 K2 hK1 hK2 => ?_); simp [*]; try ((refine Br.intro (fun hc => ?_) (fun hc => ?_)) <;> (try simp at hc))) | (with_reducible refine Cont.go (by assumption) _ ?_) | (with_reducible refine Cnt.go (by assumption) ?_))
        all_goals (unfold Hold; rw [hv]; try simp)
      · have hv := frV_bad rfl v
        repeat' (first | (with_reducible refine T.sq fun K hK => ?_) | ((first | ((with_reducible refine T.reg hE ?hd ?_); (case hd => kernel_rfl)) | ((with_reducible refine T.any hE mixed ?hd ?hok ?_); (case hd => kernel_rfl); (case hok => kernel_rfl))); simp [*]; (repeat' (split; all_goals (rename_i hc; try simp [*])))) | ((with_reducible refine T.ret ?_); refine fin_pure ?_; simp [*]; try (change Hold _)) | (with_reducible refine T.block ?_) | ((with_reducible refine T.skip ?_); simp [*]) | ((with_reducible refine T.exit ?_); simp [*]) | ((with_reducible refine T.br fun K1 K2 hK1 hK2 => ?_); simp [*]; try ((refine Br.intro (fun hc => ?_) (fun hc => ?_)) <;> (try simp at hc))) | (with_reducible refine Cont.go (by assumption) _ ?_) | (with_reducible refine Cnt.go (by assumption) ?_))
        all_goals (unfold Hold; rw [hv]; try simp)
    · have hcu := hc.2 (by omega)
      have hci : (1000 : Int) < (cuE s l 0 e 0 : Nat) := by omega
      have h20 : rightE (psF (tbF s l 0) e) = 20 := by rw [rightE_eq, nodesN_eq, if_pos (by omega)]
      have hv := frV_bad h20 (by omega)
      clear hc
      repeat' (first | (with_reducible refine T.sq fun K hK => ?_) | ((first | ((with_reducible refine T.reg hE ?hd ?_); (case hd => kernel_rfl)) | ((with_reducible refine T.any hE mixed ?hd ?hok ?_); (case hd => kernel_rfl); (case hok => kernel_rfl))); simp [*]; (repeat' (split; all_goals (rename_i hc; try simp [*])))) | ((with_reducible refine T.ret ?_); refine fin_pure ?_; simp [*]; try (change Hold _)) | (with_reducible refine T.block ?_) | ((with_reducible refine T.skip ?_); simp [*]) | ((with_reducible refine T.exit ?_); simp [*]) | ((with_reducible refine T.br fun K1 K2 hK1 hK2 => ?_); simp [*]; try ((refine Br.intro (fun hc => ?_) (fun hc => ?_)) <;> (try simp at hc))) | (with_reducible refine Cont.go (by assumption) _ ?_) | (with_reducible refine Cnt.go (by assumption) ?_))
      all_goals (unfold Hold; first | (rw [hv]; simp [ex0]; done) | (simp [ex0]; done))
  · cases hr

/-! ### A term taken into the table -/
theorem T.frzE {P : Program} {ro : Option Nat} {N : Nat} {p : Path} {σ : St} {Q : Post} {c : Code} (t : Nat) (ht : t < N) {id : Path} {cs ds : List V} (h1 : σ.get t = .ptr id 0) (h2 : σ.M id = some (.cells cs)) (h3 : cs.map V.er = ds)
    (k : T P ro N p c { σ with get := fun u => if u = t then .cptr ds 0 else σ.get u, M := upd σ.M id none } Q) : T P ro N p c σ Q := by
  refine T.frz t ht ?_
  have e : Ax.frz t σ = { σ with get := fun u => if u = t then .cptr cs 0 else σ.get u, M := upd σ.M id none } := by
    unfold Ax.frz
    rw [h1]
    simp only
    rw [h2]
  rw [e]
  refine T.weak t ht (.cptr ds 0) (fun G v hv => ?_) ?_
  · simp only [if_true] at hv
    subst h3
    cases hv with
    | cptr b o _ off vs hfx hrep =>
      refine .cptr b o _ 0 vs (fun j x hx => ?_) (fun j x hx => ?_)
      · rw [List.getElem?_map] at hx
        obtain ⟨y, hy, rfl⟩ := Option.map_eq_some_iff.1 hx
        exact hfx j y hy
      · rw [List.getElem?_map] at hx
        obtain ⟨y, hy, rfl⟩ := Option.map_eq_some_iff.1 hx
        exact rep_er (hrep j y hy)
  · have e2 : (fun u => if u = t then V.cptr ds 0 else if u = t then V.cptr cs 0 else σ.get u) = fun u => if u = t then V.cptr ds 0 else σ.get u := by
      funext u
      by_cases e : u = t
      · rw [if_pos e, if_pos e]
      · rw [if_neg e, if_neg e, if_neg e]
    show T P ro N p c { get := fun u => if u = t then V.cptr ds 0 else if u = t then V.cptr cs 0 else σ.get u, M := upd σ.M id none, K := σ.K, cnt := σ.cnt } Q
    rw [e2]; exact k
def okTP (s : Int) (rest : List V) (x : Int) : Prop := isU64 s ∧ rest.length = 192 ∧ 0 ≤ x ∧ x ≤ 63
noncomputable instance (s : Int) (rest : List V) (x : Int) : Decidable (okTP s rest x) := Classical.propDecidable _
@[simp] noncomputable def mTPut : Path → List V → Mem → Toks → Option (V × Mem × Toks) := fun _ args M K => match args with
  | [.ptr i 0, .int .i64 x, ev] => match dec ev, M i with
    | some e, some (.cells (.int .u64 s :: rest)) => if okTP s rest x then some (.tup [], upd M i (some (.cells (Ax.splice (.int .u64 (withN s.toNat x : Nat) :: rest) (1 + x.toNat * 3) [.int .i64 e.k, .int .i64 e.i, .sl (encL e.kids) .no]))), K) else none
    | _, _ => none
  | _ => none
set_option maxHeartbeats 1000000 in
theorem ok_tput : MemOk Tryd.prog 41 mTPut := by
  intro q args M K0 z M' K' h
  simp only [mTPut] at h
  split at h
  · rename_i i x ev
    split at h
    · rename_i e s rest he hM
      split at h
      · rename_i hok
        obtain ⟨hs0, hl, hx0, hx1⟩ := hok
        obtain ⟨s, rfl, hs⟩ := u64_of hs0
        obtain ⟨m, rfl⟩ := Int.eq_ofNat_of_zero_le hx0
        simp only [Int.toNat_natCast] at *
        obtain rfl := dec_inv he
        simp only [Option.some.injEq, Prod.mk.injEq] at h
        obtain ⟨rfl, rfl, rfl⟩ := h
        refine ⟨⟨Tryd.f41, Tryd.func41, by decide, rfl⟩, fun id hid hn => ?_, ?_⟩
        · have : id ≠ i := fun e => by subst e; rw [hn] at hM; cases hM
          rw [upd_ne _ _ this]; exact hn
        have hE := ((EnvOk.nil (P := Tryd.prog) (eq := fun _ => false) (own := fun _ => false) (mem := fun _ => false) EqOk.none).addf ok_wWith)
        refine ctr_of_T Tryd.func41 rfl (by simp [Tryd.ntmps41]) fun hMq hKq => ?_
        have hq := not_own hMq (id := i) (by rw [hM]; simp)
        have hq2 : ¬ (0 :: 7 :: q = i) := fun e => hq 0 7 e.symm
        have hm64 : (m : Int) < 64 := by omega
        have hmn : m < 64 := by omega
        have h190 : 1 + m * 3 ≤ 190 := by omega
        have hcl : 1 + m * 3 + 3 ≤ 193 := by omega
        repeat' (first | (with_reducible refine T.sq fun K hK => ?_) | ((first | ((with_reducible refine T.reg hE ?hd ?_); (case hd => kernel_rfl)) | ((with_reducible refine T.any hE mixed ?hd ?hok ?_); (case hd => kernel_rfl); (case hok => kernel_rfl))); simp [*]; (repeat' (split; all_goals (rename_i hc; try simp [*])))) | ((with_reducible refine T.ret ?_); (refine fin_mem (by simp [*]) ?_ ?_)) | (with_reducible refine T.block ?_) | ((with_reducible refine T.skip ?_); simp [*]) | ((with_reducible refine T.exit ?_); simp [*]) | ((with_reducible refine T.br fun K1 K2 hK1 hK2 => ?_); simp [*]; try ((refine Br.intro (fun hc => ?_) (fun hc => ?_)) <;> (try simp at hc))) | (with_reducible refine Cont.go (by assumption) _ ?_) | (with_reducible refine Cnt.go (by assumption) ?_))
        all_goals try (refine fin_mem' (by simp [*]) ?_ ?_)
        · intro id hid
          by_cases e1 : id = i
          · subst e1; simp [hM]
          · have hne : ¬ id = 0 :: 7 :: q := fun e => hid (by simp [e1, hMq id (by rw [e]; exact own_suf q 0 7)])
            simp [e1, hne]
        · intro u hu; simpa using hu
      · cases h
    · cases h
  · cases h

/-! ### Pairs -/
theorem snoc_indP {α : Type} {p : List α → Prop} (h0 : p []) (h1 : ∀ l x, p l → p (l ++ [x])) (l : List α) : p l := by
  have h : ∀ m : List α, p m.reverse := by
    intro m
    induction m with
    | nil => exact h0
    | cons x m ih => rw [List.reverse_cons]; exact h1 _ _ ih
  have := h l.reverse
  rwa [List.reverse_reverse] at this
def encPr (p : Int × Ex) : List V := [.int .i64 p.1, .int .i64 p.2.k, .int .i64 p.2.i, .sl (encL p.2.kids) .no]
def decPr : List V → Option (Int × Ex)
  | [.int .i64 v, a, b, c] => (decC [a, b, c]).map (v, ·)
  | _ => none
theorem decPr_inv (v : List V) (a : Int × Ex) (h : decPr v = some a) : v = encPr a := by
  unfold decPr at h
  split at h
  · rename_i w a b c
    obtain ⟨e, he, rfl⟩ := Option.map_eq_some_iff.1 h
    have h1 := decC_inv _ _ he
    rw [encC_eq] at h1
    simp only [List.cons.injEq, and_true] at h1
    obtain ⟨rfl, rfl, rfl⟩ := h1
    rfl
  · cases h
def rPair : Rw (Int × Ex) := ⟨encPr, decPr, decPr_inv, fun a => by simp [encPr, decPr]⟩
@[simp] theorem rPair_enc (p : Int × Ex) : rPair.enc p = [.int .i64 p.1, .int .i64 p.2.k, .int .i64 p.2.i, .sl (encL p.2.kids) .no] := rfl
@[simp] theorem rPair_dec (v k i : Int) (els : List (List V)) : rPair.dec [.int .i64 v, .int .i64 k, .int .i64 i, .sl els .no] = (decC [.int .i64 k, .int .i64 i, .sl els .no]).map (v, ·) := rfl
@[simp] theorem lenL_pair (l : List (Int × Ex)) : lenL 4 (rPair.encL l) = True := rPair.lenL_encL (fun _ => rfl) l
def lkF : List (Int × Ex) → Int → Option Ex
  | [], _ => none
  | p :: l, y => if p.1 = y then some p.2 else lkF l y
def setN (l : List (Int × Ex)) : Nat := l.foldl (fun s p => withN s p.1) 0
def zeroX : List Ex := List.replicate 64 ex0
def tabX (l : List (Int × Ex)) : List Ex := l.foldl (fun T p => T.set p.1.toNat p.2) zeroX
theorem setN_snoc (l : List (Int × Ex)) (p : Int × Ex) : setN (l ++ [p]) = withN (setN l) p.1 := by simp [setN]
theorem tabX_snoc (l : List (Int × Ex)) (p : Int × Ex) : tabX (l ++ [p]) = (tabX l).set p.1.toNat p.2 := by simp [tabX]
def VarsP (l : List (Int × Ex)) : Prop := (∀ p ∈ l, 0 ≤ p.1 ∧ p.1 ≤ 63) ∧ (l.map (·.1)).Nodup
theorem setN_lt : ∀ l : List (Int × Ex), setN l < 18446744073709551616 := by
  refine snoc_indP (by simp [setN]) fun l p h => ?_
  rw [setN_snoc]; exact withN_lt h
theorem tabX_len : ∀ l : List (Int × Ex), (tabX l).length = 64 := by
  refine snoc_indP (by simp [tabX, zeroX]) fun l p h => ?_
  rw [tabX_snoc]; simpa using h
theorem lkF_snoc (p : Int × Ex) (y : Int) : ∀ l : List (Int × Ex), lkF (l ++ [p]) y = if (∃ q ∈ l, q.1 = y) then lkF l y else if p.1 = y then some p.2 else none
  | [] => by simp [lkF]
  | q :: l => by
    rw [List.cons_append, lkF, lkF, lkF_snoc p y l]
    by_cases e : q.1 = y
    · rw [if_pos e, if_pos ⟨q, by simp, e⟩, if_pos e]
    · rw [if_neg e]
      by_cases hx : ∃ z ∈ l, z.1 = y
      · obtain ⟨z, hz, hze⟩ := hx
        rw [if_pos ⟨z, hz, hze⟩, if_pos ⟨z, by simp [hz], hze⟩, if_neg e]
      · have hno : ¬ ∃ z ∈ q :: l, z.1 = y := fun ⟨z, hz, hze⟩ => by
          rcases List.mem_cons.1 hz with h | hz
          · rw [h] at hze; exact e hze
          · exact hx ⟨z, hz, hze⟩
        rw [if_neg hx, if_neg hno]
/-- The table tells what the pairs tell. -/
theorem tab_lk : ∀ l : List (Int × Ex), VarsP l → ∀ y, tbF (setN l) (tabX l) 0 y = lkF l y ∧ (hasB (setN l) y = true ↔ ∃ q ∈ l, q.1 = y) := by
  refine snoc_indP (fun _ y => ?_) fun l p ih h y => ?_
  · have : hasB (setN []) y = false := by rw [show setN [] = 0 from rfl, hasB_zero]
    refine ⟨?_, by rw [this]; simp⟩
    unfold tbF
    rw [ndiff_dif (by simp [setN]) (by omega), dif_zero, this]; rfl
  · obtain ⟨h1, h2⟩ := h
    rw [List.map_append, List.nodup_append] at h2
    have hl : VarsP l := ⟨fun q hq => h1 q (by simp [hq]), h2.1⟩
    have hp := h1 p (by simp)
    obtain ⟨i1, i2⟩ := ih hl y
    have hs : hasB (setN (l ++ [p])) y = (hasB (setN l) y || decide (p.1 = y)) := by
      rw [setN_snoc]; unfold withN; rw [if_pos (by omega), hasB_or, hasB_one hp]
    refine ⟨?_, ?_⟩
    · unfold tbF at i1 ⊢
      rw [ndiff_dif (setN_lt _) (by omega), dif_zero] at i1 ⊢
      rw [hs, lkF_snoc, tabX_snoc]
      by_cases e : p.1 = y
      · have hno : ¬ ∃ q ∈ l, q.1 = y := fun ⟨q, hq, hqe⟩ => h2.2.2 q.1 (List.mem_map.2 ⟨q, hq, rfl⟩) p.1 (by simp) (by rw [hqe, e])
        rw [if_neg hno, if_pos e]
        have hlen : y.toNat < (tabX l).length := by rw [tabX_len]; omega
        simp [e, List.getD_eq_getElem?_getD, hlen]
      · by_cases hx : ∃ q ∈ l, q.1 = y
        · rw [if_pos hx, ← i1]
          have hy := i2.2 hx
          have h64 := hasB_range hy
          have hne : p.1.toNat ≠ y.toNat := by omega
          rw [hy]
          simp [List.getD_eq_getElem?_getD, List.getElem?_set_ne hne]
        · have hy : hasB (setN l) y = false := by
            cases q : hasB (setN l) y with
            | false => rfl
            | true => exact absurd (i2.1 q) hx
          rw [if_neg hx, if_neg e, hy]; simp [e]
    · rw [hs, Bool.or_eq_true, i2]
      simp only [List.mem_append, List.mem_singleton, decide_eq_true_eq]
      constructor
      · rintro (⟨q, hq, e⟩ | e)
        · exact ⟨q, .inl hq, e⟩
        · exact ⟨p, .inr rfl, e⟩
      · rintro ⟨q, hq | rfl, e⟩
        · exact .inl ⟨q, hq, e⟩
        · exact .inr e
theorem tab_fun {l : List (Int × Ex)} (h : VarsP l) : tbF (setN l) (tabX l) 0 = lkF l := by
  funext y; exact (tab_lk l h y).1
theorem xs_set : ∀ (l : List Ex) (m : Nat) (e : Ex) (h : m < l.length), Ax.splice (encXs l) (m * 3) [.int .i64 e.k, .int .i64 e.i, .sl (encL e.kids) .no] = encXs (l.set m e)
  | a :: l, 0, e, h => by rw [List.set_cons_zero, encXs_cons, encXs_cons]; simp [splice]
  | a :: l, m + 1, e, h => by
    have ih := xs_set l m e (by simpa using h)
    unfold splice at ih
    rw [List.set_cons_succ, encXs_cons, encXs_cons, ← ih, show (m + 1) * 3 = m * 3 + 3 by omega]
    simp [splice]
theorem er_put {rest : List V} {l : List Ex} (h : rest.map V.er = encXs l) (u : Int) (m : Nat) (e : Ex) (hm : m < l.length) : (Ax.splice (.int .u64 u :: rest) (1 + m * 3) [.int .i64 e.k, .int .i64 e.i, .sl (encL e.kids) .no]).map V.er = .int .u64 u :: encXs (l.set m e) := by
  rw [← xs_set l m e hm, ← h, Nat.add_comm]
  simp [splice, V.er, List.map_take, List.map_drop]
theorem put_len {rest : List V} {u : Int} {m : Nat} {e : Ex} (h : rest.length = 192) (hm : m < 64) : ∃ r, Ax.splice (.int .u64 u :: rest) (1 + m * 3) [.int .i64 e.k, .int .i64 e.i, .sl (encL e.kids) .no] = .int .u64 u :: r ∧ r.length = 192 := by
  refine ⟨Ax.splice rest (m * 3) [.int .i64 e.k, .int .i64 e.i, .sl (encL e.kids) .no], ?_, ?_⟩
  · rw [Nat.add_comm]; simp [splice]
  · simp [splice]; omega
section
set_option linter.unusedVariables false
set_option linter.unusedSimpArgs false
open Go Go.Proofs

def ffL (a : Ex) (l : List (Int × Ex)) : Bool := l.all fun p => ffB p.2 p.1 a
def plV (a : Ex) (l : List (Int × Ex)) : V := if ffL a l = true then frV (psF (lkF l) a) else .tup [enc ex0, .int .i64 50]
def okPL (a : Ex) (l : List (Int × Ex)) : Prop := allX a = true ∧ VarsP l
noncomputable instance (a : Ex) (l : List (Int × Ex)) : Decidable (okPL a l) := Classical.propDecidable _
@[simp] noncomputable def gPutL : List V → Option V := f2 kE (kRs rPair) fun a l => if okPL a l then some (plV a l) else none
theorem zero_er : (List.replicate 64 [V.int .i64 0, V.int .i64 0, V.nils]).flatten.map V.er = encXs zeroX := by
  have h : ∀ n : Nat, (List.replicate n [V.int .i64 0, V.int .i64 0, V.nils]).flatten.map V.er = encXs (List.replicate n ex0) := by
    intro n
    induction n with
    | zero => rfl
    | succ n ih => rw [List.replicate_succ, List.replicate_succ, List.flatten_cons, List.map_append, ih, encXs_cons]; rfl
  exact h 64
end
end Go.Proofs.YtaacfmakfkaddaaDoor.Ax
