/- Whether a formula holds, by the reference; ModelHolds. -/
import Derived.Test.YtaacfmakfkaddaaDxU
import Derived.Test.YtaacfmakfkaddaaDxS
set_option linter.unusedVariables false
set_option linter.unusedSimpArgs false
namespace Go.Proofs.Ytaacfmakfkaddaa.Ax
open Go Go.Proofs

theorem recm4 {P : Program} {f : FuncId} {β γ δ : Type} {B : Kd β} {C : Kd γ} {D : Kd δ} {F : β → Ex → γ → δ → Option V} (h : ∀ e, PureOk P f (f4 B kE C D fun b x c d => if SizeOf.sizeOf x < SizeOf.sizeOf e then F b x c d else none) → ∀ b c d r, F b e c d = some r → Okat P f [B.enc b, enc e, C.enc c, D.enc d] r) : PureOk P f (f4 B kE C D F) := by
  have main : ∀ (n : Nat) (e : Ex), SizeOf.sizeOf e < n → ∀ b c d r, F b e c d = some r → Okat P f [B.enc b, enc e, C.enc c, D.enc d] r := by
    intro n
    induction n with
    | zero => intro e he; omega
    | succ n ih =>
      intro e he b c d r hr
      refine h e (fun args r h1 => ?_) b c d r hr
      obtain ⟨b, x, c, d, rfl, h2⟩ := f4_inv h1
      split at h2
      · rename_i hlt; exact ih x (by omega) b c d r h2
      · cases h2
  intro args r h1
  obtain ⟨b, x, c, d, rfl, h2⟩ := f4_inv h1
  exact main _ x (Nat.lt_succ_self _) b c d r h2
set_option maxHeartbeats 4000000 in
theorem ok_rTruth : PureOk Try.prog 14 (f4 (kRw rWo) kE (kIs .i64) (kI .i64) truF) := by
  refine recm4 fun e ih w env room r hr => ?_
  have hqn := ok_rQuant5 ih
  unfold truF at hr
  split at hr
  · rename_i hm
    obtain ⟨hen, ⟨hall, hform, hcn⟩, hr0, hr5⟩ := hm
    cases hr
    have hkf := kinds_F hall hform
    have hkx := allX_kids hall
    have hfit := fits w (SizeOf.sizeOf e + 1) e (by omega) hcn
    have hkz : ∀ x ∈ e.kids, SizeOf.sizeOf x < SizeOf.sizeOf e ∧ cntE x ≤ 1000 := fun x hx => by
      obtain ⟨k, id, l⟩ := e
      have := List.sizeOf_lt_of_mem hx
      have h2 := cntL_mem hx
      rw [cntE_kids] at hcn
      simp only [Ex.mk.sizeOf_spec, Ex.kids_mk] at hcn h2 this ⊢
      omega
    have hko : 5 ≤ e.k → ∀ x ∈ e.kids, (allX x = true ∧ isT x = false ∧ cntE x ≤ 1000) ∧ SizeOf.sizeOf x < SizeOf.sizeOf e := fun h5 x hx => ⟨⟨hkx x hx, kid_sorts hall h5 x hx, (hkz x hx).2⟩, (hkz x hx).1⟩
    have hto := toE_eq w e env room
    obtain ⟨x, hxx⟩ : ∃ x, toE w e env room = x := ⟨_, rfl⟩
    rw [hxx] at hto ⊢
    have htold : told x = .agg [.bool x.1, .int .i64 x.2] := rfl
    rw [htold]
    obtain ⟨N, hN⟩ : ∃ N, SizeOf.sizeOf e = N := ⟨_, rfl⟩
    rw [hN] at hqn ih hko
    clear hN hkz
    have hE := ((((EnvOk.nil (P := Try.prog) (eq := fun _ => false) (own := fun _ => false) (mem := fun _ => false) EqOk.none).addf ih).addf hqn).addf ok_rAtom)
    refine ⟨⟨Try.f14, Try.func14, by decide, rfl⟩, pure_of_T Try.func14 rfl (by simp [Try.ntmps14]) fun q => ?_⟩
    obtain ⟨k, i0, l⟩ := e
    simp only [Ex.kids_mk, Ex.i_mk, Ex.k_mk] at *
    by_cases c0 : room < 1
    · have hx : x = (false, 1) := by rw [hto]; unfold toK; rw [if_pos c0]
      subst hx
      clear hkf hko hto hfit hkx
      repeat' (first | (with_reducible refine T.sq fun K hK => ?_) | ((first | ((with_reducible refine T.reg hE ?hd ?_); (case hd => kernel_rfl)) | ((with_reducible refine T.any hE mixed ?hd ?hok ?_); (case hd => kernel_rfl); (case hok => kernel_rfl))); simp [*]; (repeat' (split; all_goals (rename_i hc; try simp [*])))) | ((with_reducible refine T.ret ?_); refine fin_pure ?_; simp [*]; try (change Hold _)) | (with_reducible refine T.block ?_) | ((with_reducible refine T.skip ?_); simp [*]) | ((with_reducible refine T.exit ?_); simp [*]) | ((with_reducible refine T.br fun K1 K2 hK1 hK2 => ?_); simp [*]; try ((refine Br.intro (fun hc => ?_) (fun hc => ?_)) <;> (try simp at hc))) | (with_reducible refine Cont.go (by assumption) _ ?_) | (with_reducible refine Cnt.go (by assumption) ?_))
    have c1 : 1 ≤ room := by omega
    by_cases k3 : k = 3 ∨ k = 4
    · have hx : x = (atB w k i0 (ofL w env l), 1 + (cntL l : Int)) := by rw [hto]; unfold toK; rw [if_neg c0, if_pos k3]
      have hoa : okAt w (.mk k i0 l) env := ⟨hen, hall, k3, hcn⟩
      subst hx
      clear hkf hko hto hfit hkx
      rcases k3 with rfl | rfl
      · repeat' (first | (with_reducible refine T.sq fun K hK => ?_) | ((first | ((with_reducible refine T.reg hE ?hd ?_); (case hd => kernel_rfl)) | ((with_reducible refine T.any hE mixed ?hd ?hok ?_); (case hd => kernel_rfl); (case hok => kernel_rfl))); simp [*]; (repeat' (split; all_goals (rename_i hc; try simp [*])))) | ((with_reducible refine T.ret ?_); refine fin_pure ?_; simp [*]; try (change Hold _)) | (with_reducible refine T.block ?_) | ((with_reducible refine T.skip ?_); simp [*]) | ((with_reducible refine T.exit ?_); simp [*]) | ((with_reducible refine T.br fun K1 K2 hK1 hK2 => ?_); simp [*]; try ((refine Br.intro (fun hc => ?_) (fun hc => ?_)) <;> (try simp at hc))) | (with_reducible refine Cont.go (by assumption) _ ?_) | (with_reducible refine Cnt.go (by assumption) ?_))
      · repeat' (first | (with_reducible refine T.sq fun K hK => ?_) | ((first | ((with_reducible refine T.reg hE ?hd ?_); (case hd => kernel_rfl)) | ((with_reducible refine T.any hE mixed ?hd ?hok ?_); (case hd => kernel_rfl); (case hok => kernel_rfl))); simp [*]; (repeat' (split; all_goals (rename_i hc; try simp [*])))) | ((with_reducible refine T.ret ?_); refine fin_pure ?_; simp [*]; try (change Hold _)) | (with_reducible refine T.block ?_) | ((with_reducible refine T.skip ?_); simp [*]) | ((with_reducible refine T.exit ?_); simp [*]) | ((with_reducible refine T.br fun K1 K2 hK1 hK2 => ?_); simp [*]; try ((refine Br.intro (fun hc => ?_) (fun hc => ?_)) <;> (try simp at hc))) | (with_reducible refine Cont.go (by assumption) _ ?_) | (with_reducible refine Cnt.go (by assumption) ?_))
    by_cases k7 : k = 7 ∨ k = 10
    · obtain ⟨a, rfl⟩ : ∃ a, l = [a] := kids_one hall (by show k = 5 ∨ k = 7 ∨ k = 10; omega)
      have hi := shaped_var hall (by show k = 1 ∨ k = 7 ∨ k = 10; omega)
      simp only [Ex.i_mk] at hi
      have hx : x = quR w (.mk k i0 [a]) env room (decide (k = 10)) := by rw [hto]; unfold toK quR; rw [if_neg c0, if_neg k3, if_pos k7]; rfl
      have hoq : okQu w (.mk k i0 [a]) env room N := ⟨hen, hi, ⟨a, rfl, (hko (by omega) a (by simp)).1, (hko (by omega) a (by simp)).2⟩, c1, hr5⟩
      clear hkf hko hto hfit hkx
      rcases k7 with rfl | rfl
      · have hd : decide ((7 : Int) = 10) = false := rfl
        rw [hd] at hx
        obtain ⟨b, n, rfl⟩ : ∃ b n, x = (b, n) := ⟨x.1, x.2, rfl⟩
        have htl : told (quR w (.mk 7 i0 [a]) env room false) = .agg [.bool b, .int .i64 n] := by rw [← hx]; rfl
        clear hx
        repeat' (first | (with_reducible refine T.sq fun K hK => ?_) | ((first | ((with_reducible refine T.reg hE ?hd ?_); (case hd => kernel_rfl)) | ((with_reducible refine T.any hE mixed ?hd ?hok ?_); (case hd => kernel_rfl); (case hok => kernel_rfl))); simp [*]; (repeat' (split; all_goals (rename_i hc; try simp [*])))) | ((with_reducible refine T.ret ?_); refine fin_pure ?_; simp [*]; try (change Hold _)) | (with_reducible refine T.block ?_) | ((with_reducible refine T.skip ?_); simp [*]) | ((with_reducible refine T.exit ?_); simp [*]) | ((with_reducible refine T.br fun K1 K2 hK1 hK2 => ?_); simp [*]; try ((refine Br.intro (fun hc => ?_) (fun hc => ?_)) <;> (try simp at hc))) | (with_reducible refine Cont.go (by assumption) _ ?_) | (with_reducible refine Cnt.go (by assumption) ?_))
      · have hd : decide ((10 : Int) = 10) = true := rfl
        rw [hd] at hx
        obtain ⟨b, n, rfl⟩ : ∃ b n, x = (b, n) := ⟨x.1, x.2, rfl⟩
        have htl : told (quR w (.mk 10 i0 [a]) env room true) = .agg [.bool b, .int .i64 n] := by rw [← hx]; rfl
        clear hx
        repeat' (first | (with_reducible refine T.sq fun K hK => ?_) | ((first | ((with_reducible refine T.reg hE ?hd ?_); (case hd => kernel_rfl)) | ((with_reducible refine T.any hE mixed ?hd ?hok ?_); (case hd => kernel_rfl); (case hok => kernel_rfl))); simp [*]; (repeat' (split; all_goals (rename_i hc; try simp [*])))) | ((with_reducible refine T.ret ?_); refine fin_pure ?_; simp [*]; try (change Hold _)) | (with_reducible refine T.block ?_) | ((with_reducible refine T.skip ?_); simp [*]) | ((with_reducible refine T.exit ?_); simp [*]) | ((with_reducible refine T.br fun K1 K2 hK1 hK2 => ?_); simp [*]; try ((refine Br.intro (fun hc => ?_) (fun hc => ?_)) <;> (try simp at hc))) | (with_reducible refine Cont.go (by assumption) _ ?_) | (with_reducible refine Cnt.go (by assumption) ?_))
    have hkid : ∀ j (h : j < l.length), (toL w l).getD j rf0 = toE w l[j] := fun j h => to_kid w h
    have hbd : ∀ a ∈ l, ∀ r, 1 ≤ (toE w a env r).2 ∧ (toE w a env r).2 ≤ max r 0 + 1001 := fun a ha r => by
      have := fits w (SizeOf.sizeOf a + 1) a (by omega) (hko (by omega) a ha).1.2.2 env r
      exact ⟨this.2.2.1, this.2.2.2.1⟩
    have hwr1 : IntKind.i64.wrap (room - 1) = room - 1 := wrap64 (by omega) (by omega)
    unfold truF at hE
    by_cases k5 : k = 5
    · subst k5
      obtain ⟨a, rfl⟩ : ∃ a, l = [a] := kids_one hall (.inl rfl)
      have h0 := hkid 0 (by simp)
      simp only [List.getElem_cons_zero] at h0
      obtain ⟨y, hy⟩ : ∃ y, toE w a env (room - 1) = y := ⟨_, rfl⟩
      obtain ⟨b1, b2⟩ := hbd a (by simp) (room - 1)
      rw [hy] at b1 b2
      have hx : x = if room < 1 + y.2 then (false, 1 + y.2) else (!y.1, 1 + y.2) := by rw [hto]; unfold toK; rw [if_neg c0, if_neg k3, if_neg k7, if_pos rfl, h0, hy]
      have hoa : okTo w a env (room - 1) := ⟨hen, (hko (by omega) a (by simp)).1, by omega, by omega⟩
      have hza := (hko (by omega) a (by simp)).2
      have hwa : IntKind.i64.wrap (1 + y.2) = 1 + y.2 := wrap64 (by omega) (by omega)
      have htl : told y = .agg [.bool y.1, .int .i64 y.2] := rfl
      clear hkf hko hto hfit hkx hkid hbd h0
      by_cases c2 : room < 1 + y.2
      · rw [if_pos c2] at hx
        subst hx
        repeat' (first | (with_reducible refine T.sq fun K hK => ?_) | ((first | ((with_reducible refine T.reg hE ?hd ?_); (case hd => kernel_rfl)) | ((with_reducible refine T.any hE mixed ?hd ?hok ?_); (case hd => kernel_rfl); (case hok => kernel_rfl))); simp [*]; (repeat' (split; all_goals (rename_i hc; try simp [*])))) | ((with_reducible refine T.ret ?_); refine fin_pure ?_; simp [*]; try (change Hold _)) | (with_reducible refine T.block ?_) | ((with_reducible refine T.skip ?_); simp [*]) | ((with_reducible refine T.exit ?_); simp [*]) | ((with_reducible refine T.br fun K1 K2 hK1 hK2 => ?_); simp [*]; try ((refine Br.intro (fun hc => ?_) (fun hc => ?_)) <;> (try simp at hc))) | (with_reducible refine Cont.go (by assumption) _ ?_) | (with_reducible refine Cnt.go (by assumption) ?_))
      · rw [if_neg c2] at hx
        subst hx
        repeat' (first | (with_reducible refine T.sq fun K hK => ?_) | ((first | ((with_reducible refine T.reg hE ?hd ?_); (case hd => kernel_rfl)) | ((with_reducible refine T.any hE mixed ?hd ?hok ?_); (case hd => kernel_rfl); (case hok => kernel_rfl))); simp [*]; (repeat' (split; all_goals (rename_i hc; try simp [*])))) | ((with_reducible refine T.ret ?_); refine fin_pure ?_; simp [*]; try (change Hold _)) | (with_reducible refine T.block ?_) | ((with_reducible refine T.skip ?_); simp [*]) | ((with_reducible refine T.exit ?_); simp [*]) | ((with_reducible refine T.br fun K1 K2 hK1 hK2 => ?_); simp [*]; try ((refine Br.intro (fun hc => ?_) (fun hc => ?_)) <;> (try simp at hc))) | (with_reducible refine Cont.go (by assumption) _ ?_) | (with_reducible refine Cnt.go (by assumption) ?_))
    obtain ⟨a, b, rfl⟩ : ∃ a b, l = [a, b] := kids_two hall (by show k = 6 ∨ k = 8 ∨ k = 9; omega)
    have h0 := hkid 0 (by simp)
    have h1 := hkid 1 (by simp)
    simp only [List.getElem_cons_zero, List.getElem_cons_succ] at h0 h1
    have hk689 : k = 6 ∨ k = 8 ∨ k = 9 := by omega
    obtain ⟨y, hy⟩ : ∃ y, toE w a env (room - 1) = y := ⟨_, rfl⟩
    obtain ⟨z, hz⟩ : ∃ z, toE w b env (room - (1 + y.2)) = z := ⟨_, rfl⟩
    obtain ⟨b1, b2⟩ := hbd a (by simp) (room - 1)
    obtain ⟨b3, b4⟩ := hbd b (by simp) (room - (1 + y.2))
    rw [hy] at b1 b2
    rw [hz] at b3 b4
    have hx : x = if room < 1 + y.2 then (false, 1 + y.2) else if shB k y.1 = true then (decide (k ≠ 8), 1 + y.2) else (z.1, 1 + y.2 + z.2) := by
      rw [hto]; unfold toK; rw [if_neg c0, if_neg k3, if_neg k7, if_neg k5, h0, h1, hy, hz]
    have hoa : okTo w a env (room - 1) := ⟨hen, (hko (by omega) a (by simp)).1, by omega, by omega⟩
    have hza := (hko (by omega) a (by simp)).2
    have hzb := (hko (by omega) b (by simp)).2
    have hfb := (hko (by omega) b (by simp)).1
    have hwa : IntKind.i64.wrap (1 + y.2) = 1 + y.2 := wrap64 (by omega) (by omega)
    have htl : told y = .agg [.bool y.1, .int .i64 y.2] := rfl
    have htz : told z = .agg [.bool z.1, .int .i64 z.2] := rfl
    clear hkf hko hto hfit hkx hkid hbd h0 h1 k3 k7 k5
    by_cases c2 : room < 1 + y.2
    · rw [if_pos c2] at hx
      subst hx
      clear hz b3 b4 htz
      rcases hk689 with rfl | rfl | rfl
      · repeat' (first | (with_reducible refine T.sq fun K hK => ?_) | ((first | ((with_reducible refine T.reg hE ?hd ?_); (case hd => kernel_rfl)) | ((with_reducible refine T.any hE mixed ?hd ?hok ?_); (case hd => kernel_rfl); (case hok => kernel_rfl))); simp [*]; (repeat' (split; all_goals (rename_i hc; try simp [*])))) | ((with_reducible refine T.ret ?_); refine fin_pure ?_; simp [*]; try (change Hold _)) | (with_reducible refine T.block ?_) | ((with_reducible refine T.skip ?_); simp [*]) | ((with_reducible refine T.exit ?_); simp [*]) | ((with_reducible refine T.br fun K1 K2 hK1 hK2 => ?_); simp [*]; try ((refine Br.intro (fun hc => ?_) (fun hc => ?_)) <;> (try simp at hc))) | (with_reducible refine Cont.go (by assumption) _ ?_) | (with_reducible refine Cnt.go (by assumption) ?_))
      · repeat' (first | (with_reducible refine T.sq fun K hK => ?_) | ((first | ((with_reducible refine T.reg hE ?hd ?_); (case hd => kernel_rfl)) | ((with_reducible refine T.any hE mixed ?hd ?hok ?_); (case hd => kernel_rfl); (case hok => kernel_rfl))); simp [*]; (repeat' (split; all_goals (rename_i hc; try simp [*])))) | ((with_reducible refine T.ret ?_); refine fin_pure ?_; simp [*]; try (change Hold _)) | (with_reducible refine T.block ?_) | ((with_reducible refine T.skip ?_); simp [*]) | ((with_reducible refine T.exit ?_); simp [*]) | ((with_reducible refine T.br fun K1 K2 hK1 hK2 => ?_); simp [*]; try ((refine Br.intro (fun hc => ?_) (fun hc => ?_)) <;> (try simp at hc))) | (with_reducible refine Cont.go (by assumption) _ ?_) | (with_reducible refine Cnt.go (by assumption) ?_))
      · repeat' (first | (with_reducible refine T.sq fun K hK => ?_) | ((first | ((with_reducible refine T.reg hE ?hd ?_); (case hd => kernel_rfl)) | ((with_reducible refine T.any hE mixed ?hd ?hok ?_); (case hd => kernel_rfl); (case hok => kernel_rfl))); simp [*]; (repeat' (split; all_goals (rename_i hc; try simp [*])))) | ((with_reducible refine T.ret ?_); refine fin_pure ?_; simp [*]; try (change Hold _)) | (with_reducible refine T.block ?_) | ((with_reducible refine T.skip ?_); simp [*]) | ((with_reducible refine T.exit ?_); simp [*]) | ((with_reducible refine T.br fun K1 K2 hK1 hK2 => ?_); simp [*]; try ((refine Br.intro (fun hc => ?_) (fun hc => ?_)) <;> (try simp at hc))) | (with_reducible refine Cont.go (by assumption) _ ?_) | (with_reducible refine Cnt.go (by assumption) ?_))
    rw [if_neg c2] at hx
    have hob : okTo w b env (room - (1 + y.2)) := ⟨hen, hfb, by omega, by omega⟩
    have hwb : IntKind.i64.wrap (room - (1 + y.2)) = room - (1 + y.2) := wrap64 (by omega) (by omega)
    have hwz : IntKind.i64.wrap (1 + y.2 + z.2) = 1 + y.2 + z.2 := wrap64 (by omega) (by omega)
    obtain ⟨yb, yn⟩ := y
    simp only at *
    rcases hk689 with rfl | rfl | rfl
    · cases yb
      · have hx : x = (true, 1 + yn) := by rw [hx]; rfl
        subst hx
        repeat' (first | (with_reducible refine T.sq fun K hK => ?_) | ((first | ((with_reducible refine T.reg hE ?hd ?_); (case hd => kernel_rfl)) | ((with_reducible refine T.any hE mixed ?hd ?hok ?_); (case hd => kernel_rfl); (case hok => kernel_rfl))); simp [*]; (repeat' (split; all_goals (rename_i hc; try simp [*])))) | ((with_reducible refine T.ret ?_); refine fin_pure ?_; simp [*]; try (change Hold _)) | (with_reducible refine T.block ?_) | ((with_reducible refine T.skip ?_); simp [*]) | ((with_reducible refine T.exit ?_); simp [*]) | ((with_reducible refine T.br fun K1 K2 hK1 hK2 => ?_); simp [*]; try ((refine Br.intro (fun hc => ?_) (fun hc => ?_)) <;> (try simp at hc))) | (with_reducible refine Cont.go (by assumption) _ ?_) | (with_reducible refine Cnt.go (by assumption) ?_))
      · have hx : x = (z.1, 1 + yn + z.2) := by rw [hx]; rfl
        subst hx
        repeat' (first | (with_reducible refine T.sq fun K hK => ?_) | ((first | ((with_reducible refine T.reg hE ?hd ?_); (case hd => kernel_rfl)) | ((with_reducible refine T.any hE mixed ?hd ?hok ?_); (case hd => kernel_rfl); (case hok => kernel_rfl))); simp [*]; (repeat' (split; all_goals (rename_i hc; try simp [*])))) | ((with_reducible refine T.ret ?_); refine fin_pure ?_; simp [*]; try (change Hold _)) | (with_reducible refine T.block ?_) | ((with_reducible refine T.skip ?_); simp [*]) | ((with_reducible refine T.exit ?_); simp [*]) | ((with_reducible refine T.br fun K1 K2 hK1 hK2 => ?_); simp [*]; try ((refine Br.intro (fun hc => ?_) (fun hc => ?_)) <;> (try simp at hc))) | (with_reducible refine Cont.go (by assumption) _ ?_) | (with_reducible refine Cnt.go (by assumption) ?_))
    · cases yb
      · have hx : x = (false, 1 + yn) := by rw [hx]; rfl
        subst hx
        repeat' (first | (with_reducible refine T.sq fun K hK => ?_) | ((first | ((with_reducible refine T.reg hE ?hd ?_); (case hd => kernel_rfl)) | ((with_reducible refine T.any hE mixed ?hd ?hok ?_); (case hd => kernel_rfl); (case hok => kernel_rfl))); simp [*]; (repeat' (split; all_goals (rename_i hc; try simp [*])))) | ((with_reducible refine T.ret ?_); refine fin_pure ?_; simp [*]; try (change Hold _)) | (with_reducible refine T.block ?_) | ((with_reducible refine T.skip ?_); simp [*]) | ((with_reducible refine T.exit ?_); simp [*]) | ((with_reducible refine T.br fun K1 K2 hK1 hK2 => ?_); simp [*]; try ((refine Br.intro (fun hc => ?_) (fun hc => ?_)) <;> (try simp at hc))) | (with_reducible refine Cont.go (by assumption) _ ?_) | (with_reducible refine Cnt.go (by assumption) ?_))
      · have hx : x = (z.1, 1 + yn + z.2) := by rw [hx]; rfl
        subst hx
        repeat' (first | (with_reducible refine T.sq fun K hK => ?_) | ((first | ((with_reducible refine T.reg hE ?hd ?_); (case hd => kernel_rfl)) | ((with_reducible refine T.any hE mixed ?hd ?hok ?_); (case hd => kernel_rfl); (case hok => kernel_rfl))); simp [*]; (repeat' (split; all_goals (rename_i hc; try simp [*])))) | ((with_reducible refine T.ret ?_); refine fin_pure ?_; simp [*]; try (change Hold _)) | (with_reducible refine T.block ?_) | ((with_reducible refine T.skip ?_); simp [*]) | ((with_reducible refine T.exit ?_); simp [*]) | ((with_reducible refine T.br fun K1 K2 hK1 hK2 => ?_); simp [*]; try ((refine Br.intro (fun hc => ?_) (fun hc => ?_)) <;> (try simp at hc))) | (with_reducible refine Cont.go (by assumption) _ ?_) | (with_reducible refine Cnt.go (by assumption) ?_))
    · cases yb
      · have hx : x = (z.1, 1 + yn + z.2) := by rw [hx]; rfl
        subst hx
        repeat' (first | (with_reducible refine T.sq fun K hK => ?_) | ((first | ((with_reducible refine T.reg hE ?hd ?_); (case hd => kernel_rfl)) | ((with_reducible refine T.any hE mixed ?hd ?hok ?_); (case hd => kernel_rfl); (case hok => kernel_rfl))); simp [*]; (repeat' (split; all_goals (rename_i hc; try simp [*])))) | ((with_reducible refine T.ret ?_); refine fin_pure ?_; simp [*]; try (change Hold _)) | (with_reducible refine T.block ?_) | ((with_reducible refine T.skip ?_); simp [*]) | ((with_reducible refine T.exit ?_); simp [*]) | ((with_reducible refine T.br fun K1 K2 hK1 hK2 => ?_); simp [*]; try ((refine Br.intro (fun hc => ?_) (fun hc => ?_)) <;> (try simp at hc))) | (with_reducible refine Cont.go (by assumption) _ ?_) | (with_reducible refine Cnt.go (by assumption) ?_))
      · have hx : x = (true, 1 + yn) := by rw [hx]; rfl
        subst hx
        repeat' (first | (with_reducible refine T.sq fun K hK => ?_) | ((first | ((with_reducible refine T.reg hE ?hd ?_); (case hd => kernel_rfl)) | ((with_reducible refine T.any hE mixed ?hd ?hok ?_); (case hd => kernel_rfl); (case hok => kernel_rfl))); simp [*]; (repeat' (split; all_goals (rename_i hc; try simp [*])))) | ((with_reducible refine T.ret ?_); refine fin_pure ?_; simp [*]; try (change Hold _)) | (with_reducible refine T.block ?_) | ((with_reducible refine T.skip ?_); simp [*]) | ((with_reducible refine T.exit ?_); simp [*]) | ((with_reducible refine T.br fun K1 K2 hK1 hK2 => ?_); simp [*]; try ((refine Br.intro (fun hc => ?_) (fun hc => ?_)) <;> (try simp at hc))) | (with_reducible refine Cont.go (by assumption) _ ?_) | (with_reducible refine Cnt.go (by assumption) ?_))
  · cases hr

def holdV (w : Wo) (e : Ex) (env : List Int) : V := if askW w e env false ≠ 0 then .tup [.bool false, .int .i64 0, .int .i64 (askW w e env false)]
  else if (trE w e (envL env)).2 ≤ 50000 then .tup [.bool (trE w e (envL env)).1, .int .i64 ((trE w e (envL env)).2 : Nat), .int .i64 0] else .tup [.bool false, .int .i64 0, .int .i64 240]
@[simp] def gHolds : List V → Option V := f3 (kRw rWo) kE (kIs .i64) fun w e env => some (holdV w e env)
set_option maxHeartbeats 1000000 in
theorem ok_mHolds : PureOk Try.prog 5 gHolds := by
  intro args r h
  obtain ⟨w, e, env, rfl, ⟨⟩⟩ := f3_inv h; clear h
  by_cases v : askW w e env false = 0
  rotate_left
  · have hE := ((EnvOk.nil (P := Try.prog) (eq := fun _ => false) (own := fun _ => false) (mem := fun f => f == 9) EqOk.none).addm ok_mAskW)
    refine ⟨⟨Try.f5, Try.func5, by decide, rfl⟩, pure_of_T Try.func5 rfl (by simp [Try.ntmps5]) fun q => ?_⟩
    have hv : Hold (holdV w e env = .tup [.bool false, .int .i64 0, .int .i64 (askW w e env false)]) := by unfold Hold holdV; rw [if_pos v]
    repeat' (first | (with_reducible refine T.sq fun K hK => ?_) | ((first | ((with_reducible refine T.reg hE ?hd ?_); (case hd => kernel_rfl)) | ((with_reducible refine T.any hE mixed ?hd ?hok ?_); (case hd => kernel_rfl); (case hok => kernel_rfl))); simp [*]; (repeat' (split; all_goals (rename_i hc; try simp [*])))) | ((with_reducible refine T.ret ?_); refine fin_pure ?_; simp [*]; try (change Hold _)) | (with_reducible refine T.block ?_) | ((with_reducible refine T.skip ?_); simp [*]) | ((with_reducible refine T.exit ?_); simp [*]) | ((with_reducible refine T.br fun K1 K2 hK1 hK2 => ?_); simp [*]; try ((refine Br.intro (fun hc => ?_) (fun hc => ?_)) <;> (try simp at hc))) | (with_reducible refine Cont.go (by assumption) _ ?_) | (with_reducible refine Cnt.go (by assumption) ?_))
    all_goals (unfold Hold at *; rw [hv])
  · obtain ⟨h1, h2, h3, h4⟩ := ask_zero v
    have her := envR_of h1 h2
    obtain ⟨a1, a2, a3⟩ := right_zero h3
    have hl64 := envL_len env
    obtain ⟨x, hx⟩ : ∃ x, trE w e (envL env) = x := ⟨_, rfl⟩
    have hv : Hold (holdV w e env = if x.2 ≤ 50000 then .tup [.bool x.1, .int .i64 (x.2 : Nat), .int .i64 0] else .tup [.bool false, .int .i64 0, .int .i64 240]) := by unfold Hold holdV; rw [if_neg (by omega), hx]
    have hwk := fun n => wkN_eq (w := w) hl64 n
    have hev := fun n => envOf_eq (w := w) hl64 n
    refine ⟨⟨Try.f5, Try.func5, by decide, rfl⟩, pure_of_T Try.func5 rfl (by simp [Try.ntmps5]) fun q => ?_⟩
    have hh := ok_holds (w := w) (ri := 0 :: 24 :: 0 :: 18 :: q) (SizeOf.sizeOf e + 1)
    have hok : okHo w (0 :: 24 :: 0 :: 18 :: q) (0 :: 24 :: 0 :: 18 :: q) (SizeOf.sizeOf e + 1) e (lkN w (envL env) 0) := ⟨okHd_mk her (by omega), a3, h4, by omega⟩
    have hE := (((EnvOk.nil (P := Try.prog) (eq := fun _ => false) (own := fun _ => false) (mem := fun f => f == 9 || f == 10) EqOk.none).addm ok_mAskW).addm hh)
    by_cases c : x.2 ≤ 50000
    · have hp : haP 0 x = if x.1 = true then 1 else 0 := by unfold haP; rw [if_pos (by omega)]
      have hmin : min x.2 50001 = x.2 := by omega
      rw [if_pos c] at hv
      have hg := lk_work hl64 ((x.2 : Nat) : Int)
      have hxl : lkN w (envL env) x.2 = .int .i64 w.size :: .sl (rTb.encL w.funcs) .no :: .sl (rTb.encL w.preds) .no :: encA (envL env ++ [((x.2 : Nat) : Int)]) := rfl
      have hl : (encA (envL env ++ [((x.2 : Nat) : Int)])).length = 65 := by simp [hl64]
      obtain ⟨b, n⟩ := x
      simp only at *
      cases b
      · have hp0 : haP 0 (false, n) = 0 := hp
        clear hp
        repeat' (first | (with_reducible refine T.sq fun K hK => ?_) | ((first | ((with_reducible refine T.reg hE ?hd ?_); (case hd => kernel_rfl)) | ((with_reducible refine T.any hE mixed ?hd ?hok ?_); (case hd => kernel_rfl); (case hok => kernel_rfl))); simp [*]; (repeat' (split; all_goals (rename_i hc; try simp [*])))) | ((with_reducible refine T.ret ?_); refine fin_pure ?_; simp [*]; try (change Hold _)) | (with_reducible refine T.block ?_) | ((with_reducible refine T.skip ?_); simp [*]) | ((with_reducible refine T.exit ?_); simp [*]) | ((with_reducible refine T.br fun K1 K2 hK1 hK2 => ?_); simp [*]; try ((refine Br.intro (fun hc => ?_) (fun hc => ?_)) <;> (try simp at hc))) | (with_reducible refine Cont.go (by assumption) _ ?_) | (with_reducible refine Cnt.go (by assumption) ?_))
        all_goals (unfold Hold at *; rw [hv])
      · have hp0 : haP 0 (true, n) = 1 := hp
        clear hp
        repeat' (first | (with_reducible refine T.sq fun K hK => ?_) | ((first | ((with_reducible refine T.reg hE ?hd ?_); (case hd => kernel_rfl)) | ((with_reducible refine T.any hE mixed ?hd ?hok ?_); (case hd => kernel_rfl); (case hok => kernel_rfl))); simp [*]; (repeat' (split; all_goals (rename_i hc; try simp [*])))) | ((with_reducible refine T.ret ?_); refine fin_pure ?_; simp [*]; try (change Hold _)) | (with_reducible refine T.block ?_) | ((with_reducible refine T.skip ?_); simp [*]) | ((with_reducible refine T.exit ?_); simp [*]) | ((with_reducible refine T.br fun K1 K2 hK1 hK2 => ?_); simp [*]; try ((refine Br.intro (fun hc => ?_) (fun hc => ?_)) <;> (try simp at hc))) | (with_reducible refine Cont.go (by assumption) _ ?_) | (with_reducible refine Cnt.go (by assumption) ?_))
        all_goals (unfold Hold at *; rw [hv])
    · have hp : haP 0 x = 2 := by unfold haP; rw [if_neg (by omega)]
      have hmin : min x.2 50001 = 50001 := by omega
      rw [if_neg c] at hv
      repeat' (first | (with_reducible refine T.sq fun K hK => ?_) | ((first | ((with_reducible refine T.reg hE ?hd ?_); (case hd => kernel_rfl)) | ((with_reducible refine T.any hE mixed ?hd ?hok ?_); (case hd => kernel_rfl); (case hok => kernel_rfl))); simp [*]; (repeat' (split; all_goals (rename_i hc; try simp [*])))) | ((with_reducible refine T.ret ?_); refine fin_pure ?_; simp [*]; try (change Hold _)) | (with_reducible refine T.block ?_) | ((with_reducible refine T.skip ?_); simp [*]) | ((with_reducible refine T.exit ?_); simp [*]) | ((with_reducible refine T.br fun K1 K2 hK1 hK2 => ?_); simp [*]; try ((refine Br.intro (fun hc => ?_) (fun hc => ?_)) <;> (try simp at hc))) | (with_reducible refine Cont.go (by assumption) _ ?_) | (with_reducible refine Cnt.go (by assumption) ?_))
      all_goals (unfold Hold at *; rw [hv])
set_option maxHeartbeats 1000000 in
theorem ok_rHolds : PureOk Try.prog 6 gHolds := by
  intro args r h
  obtain ⟨w, e, env, rfl, ⟨⟩⟩ := f3_inv h; clear h
  have hE := ((((((EnvOk.nil (P := Try.prog) (eq := fun _ => false) (own := fun _ => false) (mem := fun _ => false) EqOk.none).addf ok_rmRight).addf ok_rEnvOk).addf ok_rWantF).addf ok_rEnv).addf ok_rTruth)
  refine ⟨⟨Try.f6, Try.func6, by decide, rfl⟩, pure_of_T Try.func6 rfl (by simp [Try.ntmps6]) fun q => ?_⟩
  by_cases v1 : worldE w = 0
  rotate_left
  · have hv : Hold (holdV w e env = .tup [.bool false, .int .i64 0, .int .i64 241]) := by
      have h241 : worldE w = 241 := by
        unfold worldE at *; split <;> simp_all
      have ha : askW w e env false = 241 := by unfold askW; rw [if_pos v1, h241]
      unfold Hold holdV; rw [ha, if_pos (by omega)]
    repeat' (first | (with_reducible refine T.sq fun K hK => ?_) | ((first | ((with_reducible refine T.reg hE ?hd ?_); (case hd => kernel_rfl)) | ((with_reducible refine T.any hE mixed ?hd ?hok ?_); (case hd => kernel_rfl); (case hok => kernel_rfl))); simp [*]; (repeat' (split; all_goals (rename_i hc; try simp [*])))) | ((with_reducible refine T.ret ?_); refine fin_pure ?_; simp [*]; try (change Hold _)) | (with_reducible refine T.block ?_) | ((with_reducible refine T.skip ?_); simp [*]) | ((with_reducible refine T.exit ?_); simp [*]) | ((with_reducible refine T.br fun K1 K2 hK1 hK2 => ?_); simp [*]; try ((refine Br.intro (fun hc => ?_) (fun hc => ?_)) <;> (try simp at hc))) | (with_reducible refine Cont.go (by assumption) _ ?_) | (with_reducible refine Cnt.go (by assumption) ?_))
    all_goals (unfold Hold at *; rw [hv])
  by_cases v2 : envOk w.size env = true
  rotate_left
  · have hv : Hold (holdV w e env = .tup [.bool false, .int .i64 0, .int .i64 1]) := by
      have ha : askW w e env false = 1 := by unfold askW; rw [if_neg (by omega), if_neg v2]
      unfold Hold holdV; rw [ha, if_pos (by omega)]
    rw [Bool.not_eq_true] at v2
    repeat' (first | (with_reducible refine T.sq fun K hK => ?_) | ((first | ((with_reducible refine T.reg hE ?hd ?_); (case hd => kernel_rfl)) | ((with_reducible refine T.any hE mixed ?hd ?hok ?_); (case hd => kernel_rfl); (case hok => kernel_rfl))); simp [*]; (repeat' (split; all_goals (rename_i hc; try simp [*])))) | ((with_reducible refine T.ret ?_); refine fin_pure ?_; simp [*]; try (change Hold _)) | (with_reducible refine T.block ?_) | ((with_reducible refine T.skip ?_); simp [*]) | ((with_reducible refine T.exit ?_); simp [*]) | ((with_reducible refine T.br fun K1 K2 hK1 hK2 => ?_); simp [*]; try ((refine Br.intro (fun hc => ?_) (fun hc => ?_)) <;> (try simp at hc))) | (with_reducible refine Cont.go (by assumption) _ ?_) | (with_reducible refine Cnt.go (by assumption) ?_))
    all_goals (unfold Hold at *; rw [hv])
  have hask : askW w e env false = wantF e := by
    unfold askW wantF
    rw [if_neg (by omega), if_pos v2]
    cases isT e <;> rfl
  by_cases v3 : wantF e = 0
  rotate_left
  · have hv : Hold (holdV w e env = .tup [.bool false, .int .i64 0, .int .i64 (wantF e)]) := by
      unfold Hold holdV; rw [hask, if_pos v3]
    repeat' (first | (with_reducible refine T.sq fun K hK => ?_) | ((first | ((with_reducible refine T.reg hE ?hd ?_); (case hd => kernel_rfl)) | ((with_reducible refine T.any hE mixed ?hd ?hok ?_); (case hd => kernel_rfl); (case hok => kernel_rfl))); simp [*]; (repeat' (split; all_goals (rename_i hc; try simp [*])))) | ((with_reducible refine T.ret ?_); refine fin_pure ?_; simp [*]; try (change Hold _)) | (with_reducible refine T.block ?_) | ((with_reducible refine T.skip ?_); simp [*]) | ((with_reducible refine T.exit ?_); simp [*]) | ((with_reducible refine T.br fun K1 K2 hK1 hK2 => ?_); simp [*]; try ((refine Br.intro (fun hc => ?_) (fun hc => ?_)) <;> (try simp at hc))) | (with_reducible refine Cont.go (by assumption) _ ?_) | (with_reducible refine Cnt.go (by assumption) ?_))
    all_goals (unfold Hold at *; rw [hv])
  rw [v3] at hask
  obtain ⟨h1, h2, h3, h4⟩ := ask_zero hask
  have her := envR_of h1 h2
  obtain ⟨a1, a2, a3⟩ := right_zero h3
  rw [nodesN_eq] at a1
  have hok : okTo w e (envL env) 50000 := ⟨her, ⟨a3, h4, by omega⟩, by omega, by omega⟩
  obtain ⟨f1, f2, f3, f4, f5⟩ := fits w (SizeOf.sizeOf e + 1) e (by omega) (by omega) (envL env) 50000
  obtain ⟨x, hx⟩ : ∃ x, trE w e (envL env) = x := ⟨_, rfl⟩
  obtain ⟨y, hy⟩ : ∃ y, toE w e (envL env) 50000 = y := ⟨_, rfl⟩
  have hv : Hold (holdV w e env = if x.2 ≤ 50000 then .tup [.bool x.1, .int .i64 (x.2 : Nat), .int .i64 0] else .tup [.bool false, .int .i64 0, .int .i64 240]) := by unfold Hold holdV; rw [if_neg (by omega), hx]
  rw [hx, hy] at f1 f2
  clear f3 f4 f5
  unfold truF at hE
  by_cases c : x.2 ≤ 50000
  · have e1 := f1 (by omega)
    subst e1
    have htl : told (x.1, (x.2 : Int)) = .agg [.bool x.1, .int .i64 (x.2 : Nat)] := rfl
    have hci : ¬ (50000 : Int) < (x.2 : Nat) := by omega
    rw [if_pos c] at hv
    clear f1 f2
    repeat' (first | (with_reducible refine T.sq fun K hK => ?_) | ((first | ((with_reducible refine T.reg hE ?hd ?_); (case hd => kernel_rfl)) | ((with_reducible refine T.any hE mixed ?hd ?hok ?_); (case hd => kernel_rfl); (case hok => kernel_rfl))); simp [*]; (repeat' (split; all_goals (rename_i hc; try simp [*])))) | ((with_reducible refine T.ret ?_); refine fin_pure ?_; simp [*]; try (change Hold _)) | (with_reducible refine T.block ?_) | ((with_reducible refine T.skip ?_); simp [*]) | ((with_reducible refine T.exit ?_); simp [*]) | ((with_reducible refine T.br fun K1 K2 hK1 hK2 => ?_); simp [*]; try ((refine Br.intro (fun hc => ?_) (fun hc => ?_)) <;> (try simp at hc))) | (with_reducible refine Cont.go (by assumption) _ ?_) | (with_reducible refine Cnt.go (by assumption) ?_))
    all_goals (unfold Hold at *; rw [hv])
  · have e1 := f2 (by omega)
    have htl : told y = .agg [.bool y.1, .int .i64 y.2] := rfl
    rw [if_neg c] at hv
    clear f1 f2
    repeat' (first | (with_reducible refine T.sq fun K hK => ?_) | ((first | ((with_reducible refine T.reg hE ?hd ?_); (case hd => kernel_rfl)) | ((with_reducible refine T.any hE mixed ?hd ?hok ?_); (case hd => kernel_rfl); (case hok => kernel_rfl))); simp [*]; (repeat' (split; all_goals (rename_i hc; try simp [*])))) | ((with_reducible refine T.ret ?_); refine fin_pure ?_; simp [*]; try (change Hold _)) | (with_reducible refine T.block ?_) | ((with_reducible refine T.skip ?_); simp [*]) | ((with_reducible refine T.exit ?_); simp [*]) | ((with_reducible refine T.br fun K1 K2 hK1 hK2 => ?_); simp [*]; try ((refine Br.intro (fun hc => ?_) (fun hc => ?_)) <;> (try simp at hc))) | (with_reducible refine Cont.go (by assumption) _ ?_) | (with_reducible refine Cnt.go (by assumption) ?_))
    all_goals (unfold Hold at *; rw [hv])
theorem ok_ModelHolds : PureOk Try.prog 3 (f3 (kRw rWo) kE (kIs .i64) fun _ _ _ => some (.bool true)) := by
  intro args r h
  obtain ⟨w, e, env, rfl, ⟨⟩⟩ := f3_inv h; clear h
  have hE := (((EnvOk.nil (P := Try.prog) (eq := fun _ => false) (own := fun _ => false) (mem := fun _ => false) EqOk.none).addf ok_mHolds).addf ok_rHolds)
  refine ⟨⟨Try.f3, Try.func3, by decide, rfl⟩, pure_of_T Try.func3 rfl (by simp [Try.ntmps3]) fun q => ?_⟩
  obtain ⟨a, b, c, hv⟩ : ∃ a b c, holdV w e env = .tup [.bool a, .int .i64 b, .int .i64 c] := by
    unfold holdV; repeat' split
    all_goals exact ⟨_, _, _, rfl⟩
  cases a
  · repeat' (first | (with_reducible refine T.sq fun K hK => ?_) | ((first | ((with_reducible refine T.reg hE ?hd ?_); (case hd => kernel_rfl)) | ((with_reducible refine T.any hE mixed ?hd ?hok ?_); (case hd => kernel_rfl); (case hok => kernel_rfl))); simp [*]; (repeat' (split; all_goals (rename_i hc; try simp [*])))) | ((with_reducible refine T.ret ?_); refine fin_pure ?_; simp [*]; try (change Hold _)) | (with_reducible refine T.block ?_) | ((with_reducible refine T.skip ?_); simp [*]) | ((with_reducible refine T.exit ?_); simp [*]) | ((with_reducible refine T.br fun K1 K2 hK1 hK2 => ?_); simp [*]; try ((refine Br.intro (fun hc => ?_) (fun hc => ?_)) <;> (try simp at hc))) | (with_reducible refine Cont.go (by assumption) _ ?_) | (with_reducible refine Cnt.go (by assumption) ?_))
    all_goals (unfold Hold; first | rfl | (simp [*]; done))
  · repeat' (first | (with_reducible refine T.sq fun K hK => ?_) | ((first | ((with_reducible refine T.reg hE ?hd ?_); (case hd => kernel_rfl)) | ((with_reducible refine T.any hE mixed ?hd ?hok ?_); (case hd => kernel_rfl); (case hok => kernel_rfl))); simp [*]; (repeat' (split; all_goals (rename_i hc; try simp [*])))) | ((with_reducible refine T.ret ?_); refine fin_pure ?_; simp [*]; try (change Hold _)) | (with_reducible refine T.block ?_) | ((with_reducible refine T.skip ?_); simp [*]) | ((with_reducible refine T.exit ?_); simp [*]) | ((with_reducible refine T.br fun K1 K2 hK1 hK2 => ?_); simp [*]; try ((refine Br.intro (fun hc => ?_) (fun hc => ?_)) <;> (try simp at hc))) | (with_reducible refine Cont.go (by assumption) _ ?_) | (with_reducible refine Cnt.go (by assumption) ?_))
    all_goals (unfold Hold; first | rfl | (simp [*]; done))
end Go.Proofs.Ytaacfmakfkaddaa.Ax
