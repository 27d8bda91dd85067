/- Whether a formula holds, by the reference; ModelHolds. -/
import Derived.Test.YtaacfmakfkaddaaDxU
import Derived.Test.YtaacfmakfkaddaaDxS
set_option linter.unusedVariables false
set_option linter.unusedSimpArgs false
namespace Go.Proofs.Ytaacfmakfkaddaa.Ax
open Go Go.Proofs

theorem recm4 {P : Program} {f : FuncId} {β γ δ : Type} {B : Kd β} {C : Kd γ} {D : Kd δ} {F : β → Ex → γ → δ → Option V} (h : ∀ e, PureOk P f (f4 B kE C D fun b x c d => if SizeOf.sizeOf x < SizeOf.sizeOf e then F b x c d else none) → ∀ b c d r, F b e c d = some r → Okat P f [B.enc b, enc e, C.enc c, D.enc d] r) : PureOk P f (f4 B kE C D F) := by
  have main : ∀ (n : Nat) (e : Ex), SizeOf.sizeOf e < n → ∀ b c d r, F b e c d = some r → Okat P f [B.enc b, enc e, C.enc c, D.enc d] r := by
    intro n
    induction n with
    | zero => intro e he; omega
    | succ n ih =>
      intro e he b c d r hr
      refine h e (fun args r h1 => ?_) b c d r hr
      obtain ⟨b, x, c, d, rfl, h2⟩ := f4_inv h1
      split at h2
      · rename_i hlt; exact ih x (by omega) b c d r h2
      · cases h2
  intro args r h1
  obtain ⟨b, x, c, d, rfl, h2⟩ := f4_inv h1
  exact main _ x (Nat.lt_succ_self _) b c d r h2
set_option maxHeartbeats 4000000 in
theorem ok_rTruth : PureOk Try.prog 14 (f4 (kRw rWo) kE (kIs .i64) (kI .i64) truF) := by
  refine recm4 fun e ih w env room r hr => ?_
  have hqn := ok_rQuant5 ih
  unfold truF at hr
  split at hr
  · rename_i hm
    obtain ⟨hen, ⟨hall, hform, hcn⟩, hr0, hr5⟩ := hm
    cases hr
    have hkf := kinds_F hall hform
    have hkx := allX_kids hall
    have hfit := fits w (SizeOf.sizeOf e + 1) e (by omega) hcn
    have hkz : ∀ x ∈ e.kids, SizeOf.sizeOf x < SizeOf.sizeOf e ∧ cntE x ≤ 1000 := fun x hx => by
      obtain ⟨k, id, l⟩ := e
      have := List.sizeOf_lt_of_mem hx
      have h2 := cntL_mem hx
      rw [cntE_kids] at hcn
      simp only [Ex.mk.sizeOf_spec, Ex.kids_mk] at hcn h2 this ⊢
      omega
    have hko : 5 ≤ e.k → ∀ x ∈ e.kids, (allX x = true ∧ isT x = false ∧ cntE x ≤ 1000) ∧ SizeOf.sizeOf x < SizeOf.sizeOf e := fun h5 x hx => ⟨⟨hkx x hx, kid_sorts hall h5 x hx, (hkz x hx).2⟩, (hkz x hx).1⟩
    have hto := toE_eq w e env room
    obtain ⟨x, hxx⟩ : ∃ x, toE w e env room = x := ⟨_, rfl⟩
    rw [hxx] at hto ⊢
    have htold : told x = .agg [.bool x.1, .int .i64 x.2] := rfl
    rw [htold]
    obtain ⟨N, hN⟩ : ∃ N, SizeOf.sizeOf e = N := ⟨_, rfl⟩
    rw [hN] at hqn ih hko
    clear hN hkz
    have hE := ((((EnvOk.nil (P := Try.prog) (eq := fun _ => false) (own := fun _ => false) (mem := fun _ => false) EqOk.none).addf ih).addf hqn).addf ok_rAtom)
    refine ⟨⟨Try.f14, Try.func14, by decide, rfl⟩, pure_of_T Try.func14 rfl (by simp [Try.ntmps14]) fun q => ?_⟩
    obtain ⟨k, i0, l⟩ := e
    simp only [Ex.kids_mk, Ex.i_mk, Ex.k_mk] at *
    by_cases c0 : room < 1
    · have hx : x = (false, 1) := by rw [hto]; unfold toK; rw [if_pos c0]
      subst hx
      clear hkf hko hto hfit hkx
      repeat' (first | (with_reducible refine T.sq fun K hK => ?_) | ((first | ((with_reducible refine T.reg hE ?hd ?_); (case hd => kernel_rfl)) | ((with_reducible refine T.any hE mixed ?hd ?hok ?_); (case hd => kernel_rfl); (case hok => kernel_rfl))); simp [*]; (repeat' (split; all_goals (rename_i hc; try simp [*])))) | ((with_reducible refine T.ret ?_); refine fin_pure ?_; simp [*]; try (change Hold _)) | (with_reducible refine T.block ?_) | ((with_reducible refine T.skip ?_); simp [*]) | ((with_reducible refine T.exit ?_); simp [*]) | ((with_reducible refine T.br fun K1 K2 hK1 hK2 => ?_); simp [*]; try ((refine Br.intro (fun hc => ?_) (fun hc => ?_)) <;> (try simp at hc))) | (with_reducible refine Cont.go (by assumption) _ ?_) | (with_reducible refine Cnt.go (by assumption) ?_))
    have c1 : 1 ≤ room := by omega
    by_cases k3 : k = 3 ∨ k = 4
    · have hx : x = (atB w k i0 (ofL w env l), 1 + (cntL l : Int)) := by rw [hto]; unfold toK; rw [if_neg c0, if_pos k3]
      have hoa : okAt w (.mk k i0 l) env := ⟨hen, hall, k3, hcn⟩
      subst hx
      clear hkf hko hto hfit hkx
      rcases k3 with rfl | rfl
      · repeat' (first | (with_reducible refine T.sq fun K hK => ?_) | ((first | ((with_reducible refine T.reg hE ?hd ?_); (case hd => kernel_rfl)) | ((with_reducible refine T.any hE mixed ?hd ?hok ?_); (case hd => kernel_rfl); (case hok => kernel_rfl))); simp [*]; (repeat' (split; all_goals (rename_i hc; try simp [*])))) | ((with_reducible refine T.ret ?_); refine fin_pure ?_; simp [*]; try (change Hold _)) | (with_reducible refine T.block ?_) | ((with_reducible refine T.skip ?_); simp [*]) | ((with_reducible refine T.exit ?_); simp [*]) | ((with_reducible refine T.br fun K1 K2 hK1 hK2 => ?_); simp [*]; try ((refine Br.intro (fun hc => ?_) (fun hc => ?_)) <;> (try simp at hc))) | (with_reducible refine Cont.go (by assumption) _ ?_) | (with_reducible refine Cnt.go (by assumption) ?_))
      · repeat' (first | (with_reducible refine T.sq fun K hK => ?_) | ((first | ((with_reducible refine T.reg hE ?hd ?_); (case hd => kernel_rfl)) | ((with_reducible refine T.any hE mixed ?hd ?hok ?_); (case hd => kernel_rfl); (case hok => kernel_rfl))); simp [*]; (repeat' (split; all_goals (rename_i hc; try simp [*])))) | ((with_reducible refine T.ret ?_); refine fin_pure ?_; simp [*]; try (change Hold _)) | (with_reducible refine T.block ?_) | ((with_reducible refine T.skip ?_); simp [*]) | ((with_reducible refine T.exit ?_); simp [*]) | ((with_reducible refine T.br fun K1 K2 hK1 hK2 => ?_); simp [*]; try ((refine Br.intro (fun hc => ?_) (fun hc => ?_)) <;> (try simp at hc))) | (with_reducible refine Cont.go (by assumption) _ ?_) | (with_reducible refine Cnt.go (by assumption) ?_))
    by_cases k7 : k = 7 ∨ k = 10
    · obtain ⟨a, rfl⟩ : ∃ a, l = [a] := kids_one hall (by show k = 5 ∨ k = 7 ∨ k = 10; omega)
      have hi := shaped_var hall (by show k = 1 ∨ k = 7 ∨ k = 10; omega)
      simp only [Ex.i_mk] at hi
      have hx : x = quR w (.mk k i0 [a]) env room (decide (k = 10)) := by rw [hto]; unfold toK quR; rw [if_neg c0, if_neg k3, if_pos k7]; rfl
      have hoq : okQu w (.mk k i0 [a]) env room N := ⟨hen, hi, ⟨a, rfl, (hko (by omega) a (by simp)).1, (hko (by omega) a (by simp)).2⟩, c1, hr5⟩
      clear hkf hko hto hfit hkx
      rcases k7 with rfl | rfl
      · have hd : decide ((7 : Int) = 10) = false := rfl
        rw [hd] at hx
        obtain ⟨b, n, rfl⟩ : ∃ b n, x = (b, n) := ⟨x.1, x.2, rfl⟩
        have htl : told (quR w (.mk 7 i0 [a]) env room false) = .agg [.bool b, .int .i64 n] := by rw [← hx]; rfl
        clear hx
        repeat' (first | (with_reducible refine T.sq fun K hK => ?_) | ((first | ((with_reducible refine T.reg hE ?hd ?_); (case hd => kernel_rfl)) | ((with_reducible refine T.any hE mixed ?hd ?hok ?_); (case hd => kernel_rfl); (case hok => kernel_rfl))); simp [*]; (repeat' (split; all_goals (rename_i hc; try simp [*])))) | ((with_reducible refine T.ret ?_); refine fin_pure ?_; simp [*]; try (change Hold _)) | (with_reducible refine T.block ?_) | ((with_reducible refine T.skip ?_); simp [*]) | ((with_reducible refine T.exit ?_); simp [*]) | ((with_reducible refine T.br fun K1 K2 hK1 hK2 => ?_); simp [*]; try ((refine Br.intro (fun hc => ?_) (fun hc => ?_)) <;> (try simp at hc))) | (with_reducible refine Cont.go (by assumption) _ ?_) | (with_reducible refine Cnt.go (by assumption) ?_))
      · have hd : decide ((10 : Int) = 10) = true := rfl
        rw [hd] at hx
        obtain ⟨b, n, rfl⟩ : ∃ b n, x = (b, n) := ⟨x.1, x.2, rfl⟩
        have htl : told (quR w (.mk 10 i0 [a]) env room true) = .agg [.bool b, .int .i64 n] := by rw [← hx]; rfl
        clear hx
        repeat' (first | (with_reducible refine T.sq fun K hK => ?_) | ((first | ((with_reducible refine T.reg hE ?hd ?_); (case hd => kernel_rfl)) | ((with_reducible refine T.any hE mixed ?hd ?hok ?_); (case hd => kernel_rfl); (case hok => kernel_rfl))); simp [*]; (repeat' (split; all_goals (rename_i hc; try simp [*])))) | ((with_reducible refine T.ret ?_); refine fin_pure ?_; simp [*]; try (change Hold _)) | (with_reducible refine T.block ?_) | ((with_reducible refine T.skip ?_); simp [*]) | ((with_reducible refine T.exit ?_); simp [*]) | ((with_reducible refine T.br fun K1 K2 hK1 hK2 => ?_); simp [*]; try ((refine Br.intro (fun hc => ?_) (fun hc => ?_)) <;> (try simp at hc))) | (with_reducible refine Cont.go (by assumption) _ ?_) | (with_reducible refine Cnt.go (by assumption) ?_))
    have hkid : ∀ j (h : j < l.length), (toL w l).getD j rf0 = toE w l[j] := fun j h => to_kid w h
    have hbd : ∀ a ∈ l, ∀ r, 1 ≤ (toE w a env r).2 ∧ (toE w a env r).2 ≤ max r 0 + 1001 := fun a ha r => by
      have := fits w (SizeOf.sizeOf a + 1) a (by omega) (hko (by omega) a ha).1.2.2 env r
      exact ⟨this.2.2.1, this.2.2.2.1⟩
    have hwr1 : IntKind.i64.wrap (room - 1) = room - 1 := wrap64 (by omega) (by omega)
    unfold truF at hE
    by_cases k5 : k = 5
    · subst k5
      obtain ⟨a, rfl⟩ : ∃ a, l = [a] := kids_one hall (.inl rfl)
      have h0 := hkid 0 (by simp)
      simp only [List.getElem_cons_zero] at h0
      obtain ⟨y, hy⟩ : ∃ y, toE w a env (room - 1) = y := ⟨_, rfl⟩
      obtain ⟨b1, b2⟩ := hbd a (by simp) (room - 1)
      rw [hy] at b1 b2
      have hx : x = if room < 1 + y.2 then (false, 1 + y.2) else (!y.1, 1 + y.2) := by rw [hto]; unfold toK; rw [if_neg c0, if_neg k3, if_neg k7, if_pos rfl, h0, hy]
      have hoa : okTo w a env (room - 1) := ⟨hen, (hko (by omega) a (by simp)).1, by omega, by omega⟩
      have hza := (hko (by omega) a (by simp)).2
      have hwa : IntKind.i64.wrap (1 + y.2) = 1 + y.2 := wrap64 (by omega) (by omega)
      have htl : told y = .agg [.bool y.1, .int .i64 y.2] := rfl
      clear hkf hko hto hfit hkx hkid hbd h0
      by_cases c2 : room < 1 + y.2
      · rw [if_pos c2] at hx
        subst hx
        repeat' (first | (with_reducible refine T.sq fun K hK => ?_) | ((first | ((with_reducible refine T.reg hE ?hd ?_); (case hd => kernel_rfl)) | ((with_reducible refine T.any hE mixed ?hd ?hok ?_); (case hd => kernel_rfl); (case hok => kernel_rfl))); simp [*]; (repeat' (split; all_goals (rename_i hc; try simp [*])))) | ((with_reducible refine T.ret ?_); refine fin_pure ?_; simp [*]; try (change Hold _)) | (with_reducible refine T.block ?_) | ((with_reducible refine T.skip ?_); simp [*]) | ((with_reducible refine T.exit ?_); simp [*]) | ((with_reducible refine T.br fun K1 K2 hK1 hK2 => ?_); simp [*]; try ((refine Br.intro (fun hc => ?_) (fun hc => ?_)) <;> (try simp at hc))) | (with_reducible refine Cont.go (by assumption) _ ?_) | (with_reducible refine Cnt.go (by assumption) ?_))
      · rw [if_neg c2] at hx
        subst hx
        repeat' (first | (with_reducible refine T.sq fun K hK => ?_) | ((first | ((with_reducible refine T.reg hE ?hd ?_); (case hd => kernel_rfl)) | ((with_reducible refine T.any hE mixed ?hd ?hok ?_); (case hd => kernel_rfl); (case hok => kernel_rfl))); simp [*]; (repeat' (split; all_goals (rename_i hc; try simp [*])))) | ((with_reducible refine T.ret ?_); refine fin_pure ?_; simp [*]; try (change Hold _)) | (with_reducible refine T.block ?_) | ((with_reducible refine T.skip ?_); simp [*]) | ((with_reducible refine T.exit ?_); simp [*]) | ((with_reducible refine T.br fun K1 K2 hK1 hK2 => ?_); simp [*]; try ((refine Br.intro (fun hc => ?_) (fun hc => ?_)) <;> (try simp at hc))) | (with_reducible refine Cont.go (by assumption) _ ?_) | (with_reducible refine Cnt.go (by assumption) ?_))
    obtain ⟨a, b, rfl⟩ : ∃ a b, l = [a, b] := kids_two hall (by show k = 6 ∨ k = 8 ∨ k = 9; omega)
    have h0 := hkid 0 (by simp)
    have h1 := hkid 1 (by simp)
    simp only [List.getElem_cons_zero, List.getElem_cons_succ] at h0 h1
    have hk689 : k = 6 ∨ k = 8 ∨ k = 9 := by omega
    obtain ⟨y, hy⟩ : ∃ y, toE w a env (room - 1) = y := ⟨_, rfl⟩
    obtain ⟨z, hz⟩ : ∃ z, toE w b env (room - (1 + y.2)) = z := ⟨_, rfl⟩
    obtain ⟨b1, b2⟩ := hbd a (by simp) (room - 1)
    obtain ⟨b3, b4⟩ := hbd b (by simp) (room - (1 + y.2))
    rw [hy] at b1 b2
    rw [hz] at b3 b4
    have hx : x = if room < 1 + y.2 then (false, 1 + y.2) else if shB k y.1 = true then (decide (k ≠ 8), 1 + y.2) else (z.1, 1 + y.2 + z.2) := by
      rw [hto]; unfold toK; rw [if_neg c0, if_neg k3, if_neg k7, if_neg k5, h0, h1, hy, hz]
    have hoa : okTo w a env (room - 1) := ⟨hen, (hko (by omega) a (by simp)).1, by omega, by omega⟩
    have hza := (hko (by omega) a (by simp)).2
    have hzb := (hko (by omega) b (by simp)).2
    have hfb := (hko (by omega) b (by simp)).1
    have hwa : IntKind.i64.wrap (1 + y.2) = 1 + y.2 := wrap64 (by omega) (by omega)
    have htl : told y = .agg [.bool y.1, .int .i64 y.2] := rfl
    have htz : told z = .agg [.bool z.1, .int .i64 z.2] := rfl
    clear hkf hko hto hfit hkx hkid hbd h0 h1 k3 k7 k5
    by_cases c2 : room < 1 + y.2
    · rw [if_pos c2] at hx
      subst hx
      clear hz b3 b4 htz
      rcases hk689 with rfl | rfl | rfl
      · repeat' (first | (with_reducible refine T.sq fun K hK => ?_) | ((first | ((with_reducible refine T.reg hE ?hd ?_); (case hd => kernel_rfl)) | ((with_reducible refine T.any hE mixed ?hd ?hok ?_); (case hd => kernel_rfl); (case hok => kernel_rfl))); simp [*]; (repeat' (split; all_goals (rename_i hc; try simp [*])))) | ((with_reducible refine T.ret ?_); refine fin_pure ?_; simp [*]; try (change Hold _)) | (with_reducible refine T.block ?_) | ((with_reducible refine T.skip ?_); simp [*]) | ((with_reducible refine T.exit ?_); simp [*]) | ((with_reducible refine T.br fun K1 K2 hK1 hK2 => ?_); simp [*]; try ((refine Br.intro (fun hc => ?_) (fun hc => ?_)) <;> (try simp at hc))) | (with_reducible refine Cont.go (by assumption) _ ?_) | (with_reducible refine Cnt.go (by assumption) ?_))
      · repeat' (first | (with_reducible refine T.sq fun K hK => ?_) | ((first | ((with_reducible refine T.reg hE ?hd ?_); (case hd => kernel_rfl)) | ((with_reducible refine T.any hE mixed ?hd ?hok ?_); (case hd => kernel_rfl); (case hok => kernel_rfl))); simp [*]; (repeat' (split; all_goals (rename_i hc; try simp [*])))) | ((with_reducible refine T.ret ?_); refine fin_pure ?_; simp [*]; try (change Hold _)) | (with_reducible refine T.block ?_) | ((with_reducible refine T.skip ?_); simp [*]) | ((with_reducible refine T.exit ?_); simp [*]) | ((with_reducible refine T.br fun K1 K2 hK1 hK2 => ?_); simp [*]; try ((refine Br.intro (fun hc => ?_) (fun hc => ?_)) <;> (try simp at hc))) | (with_reducible refine Cont.go (by assumption) _ ?_) | (with_reducible refine Cnt.go (by assumption) ?_))
      · repeat' (first | (with_reducible refine T.sq fun K hK => ?_) | ((first | ((with_reducible refine T.reg hE ?hd ?_); (case hd => kernel_rfl)) | ((with_reducible refine T.any hE mixed ?hd ?hok ?_); (case hd => kernel_rfl); (case hok => kernel_rfl))); simp [*]; (repeat' (split; all_goals (rename_i hc; try simp [*])))) | ((with_reducible refine T.ret ?_); refine fin_pure ?_; simp [*]; try (change Hold _)) | (with_reducible refine T.block ?_) | ((with_reducible refine T.skip ?_); simp [*]) | ((with_reducible refine T.exit ?_); simp [*]) | ((with_reducible refine T.br fun K1 K2 hK1 hK2 => ?_); simp [*]; try ((refine Br.intro (fun hc => ?_) (fun hc => ?_)) <;> (try simp at hc))) | (with_reducible refine Cont.go (by assumption) _ ?_) | (with_reducible refine Cnt.go (by assumption) ?_))
    rw [if_neg c2] at hx
    have hob : okTo w b env (room - (1 + y.2)) := ⟨hen, hfb, by omega, by omega⟩
    have hwb : IntKind.i64.wrap (room - (1 + y.2)) = room - (1 + y.2) := wrap64 (by omega) (by omega)
    have hwz : IntKind.i64.wrap (1 + y.2 + z.2) = 1 + y.2 + z.2 := wrap64 (by omega) (by omega)
    obtain ⟨yb, yn⟩ := y
    simp only at *
    rcases hk689 with rfl | rfl | rfl
    · cases yb
      · have hx : x = (true, 1 + yn) := by rw [hx]; rfl
        subst hx
        repeat' (first | (with_reducible refine T.sq fun K hK => ?_) | ((first | ((with_reducible refine T.reg hE ?hd ?_); (case hd => kernel_rfl)) | ((with_reducible refine T.any hE mixed ?hd ?hok ?_); (case hd => kernel_rfl); (case hok => kernel_rfl))); simp [*]; (repeat' (split; all_goals (rename_i hc; try simp [*])))) | ((with_reducible refine T.ret ?_); refine fin_pure ?_; simp [*]; try (change Hold _)) | (with_reducible refine T.block ?_) | ((with_reducible refine T.skip ?_); simp [*]) | ((with_reducible refine T.exit ?_); simp [*]) | ((with_reducible refine T.br fun K1 K2 hK1 hK2 => ?_); simp [*]; try ((refine Br.intro (fun hc => ?_) (fun hc => ?_)) <;> (try simp at hc))) | (with_reducible refine Cont.go (by assumption) _ ?_) | (with_reducible refine Cnt.go (by assumption) ?_))
      · have hx : x = (z.1, 1 + yn + z.2) := by rw [hx]; rfl
        subst hx
        repeat' (first | (with_reducible refine T.sq fun K hK => ?_) | ((first | ((with_reducible refine T.reg hE ?hd ?_); (case hd => kernel_rfl)) | ((with_reducible refine T.any hE mixed ?hd ?hok ?_); (case hd => kernel_rfl); (case hok => kernel_rfl))); simp [*]; (repeat' (split; all_goals (rename_i hc; try simp [*])))) | ((with_reducible refine T.ret ?_); refine fin_pure ?_; simp [*]; try (change Hold _)) | (with_reducible refine T.block ?_) | ((with_reducible refine T.skip ?_); simp [*]) | ((with_reducible refine T.exit ?_); simp [*]) | ((with_reducible refine T.br fun K1 K2 hK1 hK2 => ?_); simp [*]; try ((refine Br.intro (fun hc => ?_) (fun hc => ?_)) <;> (try simp at hc))) | (with_reducible refine Cont.go (by assumption) _ ?_) | (with_reducible refine Cnt.go (by assumption) ?_))
    · cases yb
      · have hx : x = (false, 1 + yn) := by rw [hx]; rfl
        subst hx
        repeat' (first | (with_reducible refine T.sq fun K hK => ?_) | ((first | ((with_reducible refine T.reg hE ?hd ?_); (case hd => kernel_rfl)) | ((with_reducible refine T.any hE mixed ?hd ?hok ?_); (case hd => kernel_rfl); (case hok => kernel_rfl))); simp [*]; (repeat' (split; all_goals (rename_i hc; try simp [*])))) | ((with_reducible refine T.ret ?_); refine fin_pure ?_; simp [*]; try (change Hold _)) | (with_reducible refine T.block ?_) | ((with_reducible refine T.skip ?_); simp [*]) | ((with_reducible refine T.exit ?_); simp [*]) | ((with_reducible refine T.br fun K1 K2 hK1 hK2 => ?_); simp [*]; try ((refine Br.intro (fun hc => ?_) (fun hc => ?_)) <;> (try simp at hc))) | (with_reducible refine Cont.go (by assumption) _ ?_) | (with_reducible refine Cnt.go (by assumption) ?_))
      · have hx : x = (z.1, 1 + yn + z.2) := by rw [hx]; rfl
        subst hx
        repeat' (first | (with_reducible refine T.sq fun K hK => ?_) | ((first | ((with_reducible refine T.reg hE ?hd ?_); (case hd => kernel_rfl)) | ((with_reducible refine T.any hE mixed ?hd ?hok ?_); (case hd => kernel_rfl); (case hok => kernel_rfl))); simp [*]; (repeat' (split; all_goals (rename_i hc; try simp [*])))) | ((with_reducible refine T.ret ?_); refine fin_pure ?_; simp [*]; try (change Hold _)) | (with_reducible refine T.block ?_) | ((with_reducible refine T.skip ?_); simp [*]) | ((with_reducible refine T.exit ?_); simp [*]) | ((with_reducible refine T.br fun K1 K2 hK1 hK2 => ?_); simp [*]; try ((refine Br.intro (fun hc => ?_) (fun hc => ?_)) <;> (try simp at hc))) | (with_reducible refine Cont.go (by assumption) _ ?_) | (with_reducible refine Cnt.go (by assumption) ?_))
    · cases yb
      · have hx : x = (z.1, 1 + yn + z.2) := by rw [hx]; rfl
        subst hx
        repeat' (first | (with_reducible refine T.sq fun K hK => ?_) | ((first | ((with_reducible refine T.reg hE ?hd ?_); (case hd => kernel_rfl)) | ((with_reducible refine T.any hE mixed ?hd ?hok ?_); (case hd => kernel_rfl); (case hok => kernel_rfl))); simp [*]; (repeat' (split; all_goals (rename_i hc; try simp [*])))) | ((with_reducible refine T.ret ?_); refine fin_pure ?_; simp [*]; try (change Hold _)) | (with_reducible refine T.block ?_) | ((with_reducible refine T.skip ?_); simp [*]) | ((with_reducible refine T.exit ?_); simp [*]) | ((with_reducible refine T.br fun K1 K2 hK1 hK2 => ?_); simp [*]; try ((refine Br.intro (fun hc => ?_) (fun hc => ?_)) <;> (try simp at hc))) | (with_reducible refine Cont.go (by assumption) _ ?_) | (with_reducible refine Cnt.go (by assumption) ?_))
      · have hx : x = (true, 1 + yn) := by rw [hx]; rfl
        subst hx
        repeat' (first | (with_reducible refine T.sq fun K hK => ?_) | ((first | ((with_reducible refine T.reg hE ?hd ?_); (case hd => kernel_rfl)) | ((with_reducible refine T.any hE mixed ?hd ?hok ?_); (case hd => kernel_rfl); (case hok => kernel_rfl))); simp [*]; (repeat' (split; all_goals (rename_i hc; try simp [*])))) | ((with_reducible refine T.ret ?_); refine fin_pure ?_; simp [*]; try (change Hold _)) | (with_reducible refine T.block ?_) | ((with_reducible refine T.skip ?_); simp [*]) | ((with_reducible refine T.exit ?_); simp [*]) | ((with_reducible refine T.br fun K1 K2 hK1 hK2 => ?_); simp [*]; try ((refine Br.intro (fun hc => ?_) (fun hc => ?_)) <;> (try simp at hc))) | (with_reducible refine Cont.go (by assumption) _ ?_) | (with_reducible refine Cnt.go (by assumption) ?_))
  · cases hr

def holdV (w : Wo) (e : Ex) (env : List Int) : V := if askW w e env false ≠ 0 then .tup [.bool false, .int .i64 0, .int .i64 (askW w e env false)]
  else if (trE w e (envL env)).2 ≤ 50000 then .tup [.bool (trE w e (envL env)).1, .int .i64 ((trE w e (envL env)).2 : Nat), .int .i64 0] else .tup [.bool false, .int .i64 0, .int .i64 240]
@[simp] def gHolds : List V → Option V := f3 (kRw rWo) kE (kIs .i64) fun w e env => some (holdV w e env)
end Go.Proofs.Ytaacfmakfkaddaa.Ax
