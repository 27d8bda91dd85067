/- Contracts: the sets of an expression. -/
import Derived.Test.YtiippmhlkcbjmaaBxT
import Derived.Test.YtiippmhlkcbjmaaBxM
set_option linter.unusedVariables false
set_option linter.unusedSimpArgs false
namespace Go.Proofs.Ytiippmhlkcbjmaa.Ax
open Go Go.Proofs

def okIs (x b : Int) : Prop := 0 ≤ x ∧ x ≤ 63 ∧ isU64 b
noncomputable instance (x b : Int) : Decidable (okIs x b) := Classical.propDecidable _
@[simp] noncomputable def gIs (pr : Int → Nat → Bool) : List V → Option V := f2 (kI .i64) (kI .u64) fun x b => if okIs x b then some (.bool (pr x b.toNat)) else none
theorem ok_isAll : PureOk Try.prog 111 (gIs prA) := by
  intro args r h
  obtain ⟨x, b, rfl, hr⟩ := f2_inv h; clear h
  split at hr
  · rename_i hs
    cases hr
    have hE := (EnvOk.nil (P := Try.prog) (eq := fun _ => false) (own := fun _ => false) (mem := fun _ => false) EqOk.none)
    refine ⟨⟨Try.f111, Try.func111, by decide, rfl⟩, pure_of_T Try.func111 rfl (by simp [Try.ntmps111]) fun q => ?_⟩
    repeat' (first
      | (with_reducible refine T.sq fun K hK => ?_)
      | ((first | ((with_reducible refine T.reg hE ?hd ?_); (case hd => kernel_rfl)) | ((with_reducible refine T.any hE mixed ?hd ?hok ?_); (case hd => kernel_rfl); (case hok => kernel_rfl))); simp [*]; (repeat' (split; all_goals (rename_i hc; try simp [*]))))
      | ((with_reducible refine T.ret ?_); refine fin_pure ?_; simp [*]; try (change Hold _))
      | (with_reducible refine T.block ?_)
      | ((with_reducible refine T.skip ?_); simp [*])
      | ((with_reducible refine T.exit ?_); simp [*])
      | ((with_reducible refine T.br fun K1 K2 hK1 hK2 => ?_); simp [*]; try ((refine Br.intro (fun hc => ?_) (fun hc => ?_)) <;> (try simp at hc)))
      | (with_reducible refine Cont.go (by assumption) _ ?_)
      | (with_reducible refine Cnt.go (by assumption) ?_))
    all_goals (unfold Hold prA; rfl)
  · cases hr
theorem ok_isFree : PureOk Try.prog 110 (gIs prF) := by
  intro args r h
  obtain ⟨x, b, rfl, hr⟩ := f2_inv h; clear h
  split at hr
  · rename_i hs
    cases hr
    obtain ⟨h1, h2, h3⟩ := hs
    have hE := ((EnvOk.nil (P := Try.prog) (eq := fun _ => false) (own := fun _ => false) (mem := fun _ => false) EqOk.none).addf ok_wHas)
    refine ⟨⟨Try.f110, Try.func110, by decide, rfl⟩, pure_of_T Try.func110 rfl (by simp [Try.ntmps110]) fun q => ?_⟩
    repeat' (first
      | (with_reducible refine T.sq fun K hK => ?_)
      | ((first | ((with_reducible refine T.reg hE ?hd ?_); (case hd => kernel_rfl)) | ((with_reducible refine T.any hE mixed ?hd ?hok ?_); (case hd => kernel_rfl); (case hok => kernel_rfl))); simp [*]; (repeat' (split; all_goals (rename_i hc; try simp [*]))))
      | ((with_reducible refine T.ret ?_); refine fin_pure ?_; simp [*]; try (change Hold _))
      | (with_reducible refine T.block ?_)
      | ((with_reducible refine T.skip ?_); simp [*])
      | ((with_reducible refine T.exit ?_); simp [*])
      | ((with_reducible refine T.br fun K1 K2 hK1 hK2 => ?_); simp [*]; try ((refine Br.intro (fun hc => ?_) (fun hc => ?_)) <;> (try simp at hc)))
      | (with_reducible refine Cont.go (by assumption) _ ?_)
      | (with_reducible refine Cnt.go (by assumption) ?_))
    all_goals (unfold Hold prF; simp)
  · cases hr
theorem stp1_lt {pr : Int → Nat → Bool} : ∀ x b s, 0 ≤ x → x ≤ 63 → b < 18446744073709551616 → s < 18446744073709551616 → stp1 pr x b s < 18446744073709551616 := fun x b s h1 h2 _ h4 => by
  unfold stp1
  split
  · exact or_lt h4 (pw_lt (by omega))
  · exact h4
set_option maxHeartbeats 1000000 in
theorem gclo_mem {fi : FuncId} {pr : Int → Nat → Bool} {ii si : Path} (hi : PureOk Try.prog fi (gIs pr)) (hne : ii ≠ si) : MemOk Try.prog 135 (mClo [.ptr ii 0, .ptr si 0] si (stp1 pr) [(ii, .cells [.fn fi []])]) := by
  intro q args M K0 x M' K' h
  simp only [mClo] at h
  split at h
  · rename_i x b cs
    split at h
    · rename_i s hM
      split at h
      · rename_i hok
        obtain ⟨rfl, hro, hx1, hx2, hb, hs⟩ := hok
        obtain ⟨b, rfl, hb1⟩ := u64_of hb
        obtain ⟨s, rfl, hs1⟩ := u64_of hs
        simp only [Option.some.injEq, Prod.mk.injEq] at h
        obtain ⟨rfl, rfl, rfl⟩ := h
        refine ⟨⟨Try.f135, Try.func135, by decide, rfl⟩, fun id hid hn => ?_, ?_⟩
        · have : id ≠ si := fun e => by subst e; rw [hn] at hM; cases hM
          rw [upd_ne _ _ this]; exact hn
        have hE := ((EnvOk.nil (P := Try.prog) (eq := fun _ => false) (own := fun _ => false) (mem := fun _ => false) EqOk.none).addf hi)
        refine ctr_of_T Try.func135 rfl (by simp [Try.ntmps135]) fun hMq hKq => ?_
        have hq := not_own hMq (id := si) (by rw [hM]; simp)
        have hI : M ii = some (.cells [.fn fi []]) := hro (ii, .cells [.fn fi []]) (by simp)
        have hok : okIs x b := ⟨hx1, hx2, hb⟩
        have hw0 : IntKind.u64.wrap x = x := by
          obtain ⟨m, hm⟩ := Int.eq_ofNat_of_zero_le hx1
          rw [hm]; exact wrap64u (by omega)
        have hs2 : IntKind.u64.wrap (2 ^ min x.toNat IntKind.u64.bits) = (pw x.toNat : Nat) := shl_pw (by omega)
        have hs3 : bits .or .u64 (s : Int) (pw x.toNat : Nat) = ((s ||| pw x.toNat : Nat) : Int) := bits_or rfl (by simpa [IntKind.bits] using hs1) (by simpa [IntKind.bits] using pw_lt (n := x.toNat) (by omega))
        by_cases c : pr x b = true
        · repeat' (first
            | (with_reducible refine T.sq fun K hK => ?_)
            | ((first | ((with_reducible refine T.reg hE ?hd ?_); (case hd => kernel_rfl)) | ((with_reducible refine T.any hE mixed ?hd ?hok ?_); (case hd => kernel_rfl); (case hok => kernel_rfl))); simp [*]; (repeat' (split; all_goals (rename_i hc; try simp [*]))))
            | ((with_reducible refine T.ret ?_); (refine fin_mem (by simp [*]) ?_ ?_))
            | (with_reducible refine T.block ?_)
            | ((with_reducible refine T.skip ?_); simp [*])
            | ((with_reducible refine T.exit ?_); simp [*])
            | ((with_reducible refine T.br fun K1 K2 hK1 hK2 => ?_); simp [*]; try ((refine Br.intro (fun hc => ?_) (fun hc => ?_)) <;> (try simp at hc)))
            | (with_reducible refine Cont.go (by assumption) _ ?_)
            | (with_reducible refine Cnt.go (by assumption) ?_))
          all_goals try (refine fin_mem' (by simp [*]) ?_ ?_)
          · intro id hid
            by_cases e1 : id = si
            · subst e1; simp [stp1, c]
            · simp [e1]
          · intro u hu; simpa using hu
        · rw [Bool.not_eq_true] at c
          repeat' (first
            | (with_reducible refine T.sq fun K hK => ?_)
            | ((first | ((with_reducible refine T.reg hE ?hd ?_); (case hd => kernel_rfl)) | ((with_reducible refine T.any hE mixed ?hd ?hok ?_); (case hd => kernel_rfl); (case hok => kernel_rfl))); simp [*]; (repeat' (split; all_goals (rename_i hc; try simp [*]))))
            | ((with_reducible refine T.ret ?_); (refine fin_mem (by simp [*]) ?_ ?_))
            | (with_reducible refine T.block ?_)
            | ((with_reducible refine T.skip ?_); simp [*])
            | ((with_reducible refine T.exit ?_); simp [*])
            | ((with_reducible refine T.br fun K1 K2 hK1 hK2 => ?_); simp [*]; try ((refine Br.intro (fun hc => ?_) (fun hc => ?_)) <;> (try simp at hc)))
            | (with_reducible refine Cont.go (by assumption) _ ?_)
            | (with_reducible refine Cnt.go (by assumption) ?_))
          all_goals try (refine fin_mem' (by simp [*]) ?_ ?_)
          · intro id hid
            by_cases e1 : id = si
            · subst e1; simp [stp1, c, hM]
            · simp [e1]
          · intro u hu; simpa using hu
      · cases h
    · cases h
  · cases h
def okGat (fi f : FuncId) (cs : List V) (e : Ex) : Prop := f = fi ∧ cs = [] ∧ allX e = true
noncomputable instance (fi f : FuncId) (cs : List V) (e : Ex) : Decidable (okGat fi f cs e) := Classical.propDecidable _
@[simp] noncomputable def gGather (fi : FuncId) (pr : Int → Nat → Bool) : List V → Option V := fun args => match args with
  | [ev, .fn f cs] => (dec ev).bind fun e => if okGat fi f cs e then some (.int .u64 (runO (stp1 pr) (occE e 0) 0 : Nat)) else none
  | _ => none
theorem okGat_mk (fi : FuncId) {e : Ex} (h : allX e = true) : okGat fi fi [] e := ⟨rfl, rfl, h⟩
set_option maxHeartbeats 1000000 in
theorem ok_gather {fi : FuncId} {pr : Int → Nat → Bool} (hi : PureOk Try.prog fi (gIs pr)) : PureOk Try.prog 109 (gGather fi pr) := by
  intro args r h
  simp only [gGather] at h
  split at h
  · rename_i ev f cs
    obtain ⟨e, he, h2⟩ := Option.bind_eq_some_iff.1 h
    clear h
    split at h2
    · rename_i hok
      obtain ⟨rfl, rfl, ha⟩ := hok
      obtain rfl := Option.some.inj h2
      obtain rfl := dec_inv he
      clear he
      refine ⟨⟨Try.f109, Try.func109, by decide, rfl⟩, pure_of_T Try.func109 rfl (by simp [Try.ntmps109]) fun q => ?_⟩
      have hE := ((EnvOk.nil (P := Try.prog) (eq := fun _ => false) (own := fun _ => false) (mem := fun g => g == 77) EqOk.none).addm (walk_mem (gclo_mem (ii := 0 :: 5 :: q) (si := 0 :: 7 :: q) hi (by simp)) stp1_lt (by simp) (by simp) (by decide) (by decide) (SizeOf.sizeOf e + 1)))
      have hok : ∀ M2 : Mem, roOk [(0 :: 5 :: q, .cells [.fn f []])] M2 → okWalk (SizeOf.sizeOf e + 1) 135 135 [.ptr (0 :: 5 :: q) 0, .ptr (0 :: 7 :: q) 0] [.ptr (0 :: 5 :: q) 0, .ptr (0 :: 7 :: q) 0] e M2 [(0 :: 5 :: q, .cells [.fn f []])] 0 0 := fun M2 h2 => ⟨Nat.lt_succ_self _, rfl, rfl, h2, ha, ⟨by omega, by omega⟩, ⟨by omega, by omega⟩⟩
      have hro : ∀ B1 B2 : Option Box, roOk [(0 :: 5 :: q, .cells [.fn f []])] (upd (upd (upd noM (0 :: 4 :: q) B1) (0 :: 5 :: q) (some (.cells [.fn f []]))) (0 :: 7 :: q) B2) := fun B1 B2 r hr => by simp at hr; subst hr; simp
      repeat' (first
        | (with_reducible refine T.sq fun K hK => ?_)
        | ((first | ((with_reducible refine T.reg hE ?hd ?_); (case hd => kernel_rfl)) | ((with_reducible refine T.any hE mixed ?hd ?hok ?_); (case hd => kernel_rfl); (case hok => kernel_rfl))); simp [*]; (repeat' (split; all_goals (rename_i hc; try simp [*]))))
        | ((with_reducible refine T.ret ?_); refine fin_pure ?_; simp [*]; try (change Hold _))
        | (with_reducible refine T.block ?_)
        | ((with_reducible refine T.skip ?_); simp [*])
        | ((with_reducible refine T.exit ?_); simp [*])
        | ((with_reducible refine T.br fun K1 K2 hK1 hK2 => ?_); simp [*]; try ((refine Br.intro (fun hc => ?_) (fun hc => ?_)) <;> (try simp at hc)))
        | (with_reducible refine Cont.go (by assumption) _ ?_)
        | (with_reducible refine Cnt.go (by assumption) ?_))
      all_goals done
    · cases h2
  · cases h
end Go.Proofs.Ytiippmhlkcbjmaa.Ax
