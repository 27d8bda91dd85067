/- Contracts: binders called anew, by the program. -/
import Derived.Test.YtaacfmakfkaddaaDoorPlP
import Derived.Test.YtaacfmakfkaddaaDoorCxU
set_option linter.unusedVariables false
set_option linter.unusedSimpArgs false
namespace Go.Proofs.YtaacfmakfkaddaaDoor.Ax
open Go Go.Proofs

theorem recn3 {P : Program} {f : FuncId} {β γ : Type} {B : Kd β} {C : Kd γ} {F : Ex → β → γ → Option V} (h : ∀ e, PureOk P f (f3 kE B C fun x b c => if cntE x < cntE e then F x b c else none) → ∀ b c r, F e b c = some r → Okat P f [enc e, B.enc b, C.enc c] r) : PureOk P f (f3 kE B C F) := by
  have main : ∀ (n : Nat) (e : Ex), cntE e < n → ∀ b c r, F e b c = some r → Okat P f [enc e, B.enc b, C.enc c] r := by
    intro n
    induction n with
    | zero => intro e he; omega
    | succ n ih =>
      intro e he b c r hr
      refine h e (fun args r h1 => ?_) b c r hr
      obtain ⟨x, b, c, rfl, h2⟩ := f3_inv h1
      split at h2
      · rename_i hlt; exact ih x (by omega) b c r h2
      · cases h2
  intro args r h1
  obtain ⟨x, b, c, rfl, h2⟩ := f3_inv h1
  exact main _ x (Nat.lt_succ_self _) b c r h2
def okRn (e : Ex) (x : Int) (o : Int) : Prop := rightE e = 0 ∧ (0 ≤ x ∧ x ≤ 63) ∧ isU64 o
noncomputable instance (e : Ex) (x : Int) (o : Int) : Decidable (okRn e x o) := Classical.propDecidable _
@[simp] noncomputable def gRn : List V → Option V := f3 kE (kI .i64) (kI .u64) fun e x o => if okRn e x o then some (cnV (rnE x o.toNat e)) else none
/-- What is gone on with. -/
def Smaller (e : Ex) (L : List Ex) : Prop := (∀ (j : Nat) (hj : j < L.length), rightE L[j] = 0 ∧ cntE L[j] < cntE e) ∧ L.length * 40 + 40 ≤ 140737488355328
set_option maxHeartbeats 4000000 in
theorem ok_rename : PureOk Tryd.prog 40 gRn := by
  refine recn3 fun e ih x o r hr => ?_
  split at hr
  · rename_i hm
    obtain ⟨hr0, hx0, hu0⟩ := hm
    cases hr
    obtain ⟨o, rfl, ho⟩ := u64_of hu0
    simp only [Int.toNat_natCast] at *
    obtain ⟨x1, x2, x3⟩ := right_zero hr0
    have ha : allX e = true := x3
    rw [nodesN_eq] at x1
    have hE := ((((((((((EnvOk.nil (P := Tryd.prog) (eq := fun _ => false) (own := fun _ => false) (mem := fun f => f == 41) EqOk.none).addf ok_sBinds).addf ok_Free).addf ok_wHas).addf ok_Vars).addf ok_wWith).addf ok_sLeast).addf ok_in).addf ih).addm ok_tput)
    refine ⟨⟨Tryd.f40, Tryd.func40, by decide, rfl⟩, pure_of_T Tryd.func40 rfl (by simp [Tryd.ntmps40]) fun q => ?_⟩
    have hpe := rnE_eq (x := x) (o := o) ha
    have hsk : Smaller e e.kids := ⟨fun j hj => ⟨right_mem hr0 (List.getElem_mem hj), cnt_mem (List.getElem_mem hj)⟩, by
      have := small_all ha; rw [smE_eq, Bool.and_eq_true, decide_eq_true_eq] at this
      have h3 := cntE_eq e
      have h4 : e.kids.length ≤ cntL e.kids := by
        have : ∀ l : List Ex, l.length ≤ cntL l := fun l => by
          induction l with
          | nil => exact Nat.zero_le _
          | cons a l ih => rw [cntL, List.length_cons]; have := cntE_pos a; omega
        exact this _
      omega⟩
    have hsk' : Hold (Smaller e e.kids) := hsk
    clear hsk
    refine T.sq fun K hK => ?_
    obtain ⟨hgo⟩ := hK
    repeat' (first | (with_reducible refine T.sq fun K hK => ?_) | ((first | ((with_reducible refine T.reg hE ?hd ?_); (case hd => kernel_rfl)) | ((with_reducible refine T.any hE mixed ?hd ?hok ?_); (case hd => kernel_rfl); (case hok => kernel_rfl))); simp [*]; (repeat' (split; all_goals (rename_i hc; try simp [*])))) | ((with_reducible refine T.ret ?_); refine fin_pure ?_; simp [*]; try (change Hold _)) | (with_reducible refine T.block ?_) | ((with_reducible refine T.skip ?_); simp [*]) | ((with_reducible refine T.exit ?_); simp [*]) | ((with_reducible refine T.br fun K1 K2 hK1 hK2 => ?_); simp [*]; try ((refine Br.intro (fun hc => ?_) (fun hc => ?_)) <;> (try simp at hc))) | (with_reducible refine Cont.go (by assumption) _ ?_) | (with_reducible refine Cnt.go (by assumption) ?_))
    refine hgo _ ?_
    clear hgo
    refine T.sq fun K hK => ?_
    obtain ⟨hgo⟩ := hK
    repeat' (first | (with_reducible refine T.sq fun K hK => ?_) | ((first | ((with_reducible refine T.reg hE ?hd ?_); (case hd => kernel_rfl)) | ((with_reducible refine T.any hE mixed ?hd ?hok ?_); (case hd => kernel_rfl); (case hok => kernel_rfl))); simp [*]; (repeat' (split; all_goals (rename_i hc; try simp [*])))) | ((with_reducible refine T.ret ?_); refine fin_pure ?_; simp [*]; try (change Hold _)) | (with_reducible refine T.block ?_) | ((with_reducible refine T.skip ?_); simp [*]) | ((with_reducible refine T.exit ?_); simp [*]) | ((with_reducible refine T.br fun K1 K2 hK1 hK2 => ?_); simp [*]; try ((refine Br.intro (fun hc => ?_) (fun hc => ?_)) <;> (try simp at hc))) | (with_reducible refine Cont.go (by assumption) _ ?_) | (with_reducible refine Cnt.go (by assumption) ?_))
    refine hgo _ ?_
    clear hgo
    refine T.sq fun K hK => ?_
    obtain ⟨hgo⟩ := hK
    repeat' (first | (with_reducible refine T.sq fun K hK => ?_) | ((first | ((with_reducible refine T.reg hE ?hd ?_); (case hd => kernel_rfl)) | ((with_reducible refine T.any hE mixed ?hd ?hok ?_); (case hd => kernel_rfl); (case hok => kernel_rfl))); simp [*]; (repeat' (split; all_goals (rename_i hc; try simp [*])))) | ((with_reducible refine T.ret ?_); refine fin_pure ?_; simp [*]; try (change Hold _)) | (with_reducible refine T.block ?_) | ((with_reducible refine T.skip ?_); simp [*]) | ((with_reducible refine T.exit ?_); simp [*]) | ((with_reducible refine T.br fun K1 K2 hK1 hK2 => ?_); simp [*]; try ((refine Br.intro (fun hc => ?_) (fun hc => ?_)) <;> (try simp at hc))) | (with_reducible refine Cont.go (by assumption) _ ?_) | (with_reducible refine Cnt.go (by assumption) ?_))
    refine hgo _ ?_
    clear hgo
    refine T.sq fun K0 hK0 => ?_
    suffices j0 : ∀ (I : Int) (L : List Ex) (tk : Tk) (σ : St), (Hold (rnE x o e = pcK (rnE x o) e.k I L) ∧ Hold (Smaller e L) ∧ σ.get 1 = .int .i64 x ∧ σ.get 2 = .int .u64 (o : Nat) ∧ σ.get 6 = .ptr (0 :: 8 :: q) 0 ∧ σ.get 8 = .ptr (0 :: 10 :: q) 0 ∧ σ.get 9 = .sl (encL L) tk ∧ (∃ c0 c1 c2, σ.M (0 :: 8 :: q) = some (.cells [c0, c1, c2])) ∧ σ.M (0 :: 10 :: q) = some (.cells [.int .i64 e.k, .int .i64 I, .nils])) → K0 σ by
      clear hK0
      by_cases cq : isQ e = true
      · rw [if_pos cq] at hpe
        have hk0 := q_kids ha cq
        have hkm : kid0 e ∈ e.kids := by rw [hk0]; simp [kid0]
        have hkr := right_mem hr0 hkm
        have c1' : e.k = 7 ∨ e.k = 10 := by simpa [isQ] using cq
        have va := shaped_var ha (.inr c1')
        have v1 : 0 ≤ e.i := va.1
        have v2 : e.i ≤ 63 := va.2
        obtain ⟨y, hy⟩ : ∃ y, kid0 e = y := ⟨_, rfl⟩
        have hs1 : setV frE y = _ := setV_good (hy ▸ hkr)
        have hs2 : setV vaE y = _ := setV_good (hy ▸ hkr)
        have hkl : e.kids.length = 1 := by rw [hk0]; rfl
        have hk1 : 0 < e.kids.length := by omega
        have hk2 : e.kids[0]'hk1 = y := by rw [← hy]; simp only [hk0]; rfl
        have hya : allX y = true := (right_zero (hy ▸ hkr)).2.2
        have f1 := u64_nat (frE_lt hya)
        have f2 := u64_nat (vaE_lt hya)
        rw [hy] at hpe
        clear hk0 hkm hkl
        by_cases c1 : e.i = x ∨ hasB (frE y) x = false
        · rw [if_pos c1] at hpe
          have hn : Hold (rnE x o e = some e) := hpe
          clear hpe
          by_cases c2 : e.i = x
          · have e1 : Ex.mk e.k x e.kids = e := by rw [← c2]; cases e; rfl
            have hn2 : Hold (rnE x o e = some (Ex.mk e.k x e.kids)) := by rw [e1]; exact hn
            clear hn
            repeat' (first | (with_reducible refine T.sq fun K hK => ?_) | ((first | ((with_reducible refine T.reg hE ?hd ?_); (case hd => kernel_rfl)) | ((with_reducible refine T.any hE mixed ?hd ?hok ?_); (case hd => kernel_rfl); (case hok => kernel_rfl))); simp [*]; (repeat' (split; all_goals (rename_i hc; try simp [*])))) | ((with_reducible refine T.ret ?_); refine fin_pure ?_; simp [*]; try (change Hold _)) | (with_reducible refine T.block ?_) | ((with_reducible refine T.skip ?_); simp [*]) | ((with_reducible refine T.exit ?_); simp [*]) | ((with_reducible refine T.br fun K1 K2 hK1 hK2 => ?_); simp [*]; try ((refine Br.intro (fun hc => ?_) (fun hc => ?_)) <;> (try simp at hc))) | (with_reducible refine Cont.go (by assumption) _ ?_) | (with_reducible refine Cnt.go (by assumption) ?_))
            all_goals (unfold Hold at *; rw [hn2]; simp [cnV, encC_eq])
          · have c3 : hasB (frE y) x = false := by rcases c1 with h | h; exact absurd h c2; exact h
            repeat' (first | (with_reducible refine T.sq fun K hK => ?_) | ((first | ((with_reducible refine T.reg hE ?hd ?_); (case hd => kernel_rfl)) | ((with_reducible refine T.any hE mixed ?hd ?hok ?_); (case hd => kernel_rfl); (case hok => kernel_rfl))); simp [*]; (repeat' (split; all_goals (rename_i hc; try simp [*])))) | ((with_reducible refine T.ret ?_); refine fin_pure ?_; simp [*]; try (change Hold _)) | (with_reducible refine T.block ?_) | ((with_reducible refine T.skip ?_); simp [*]) | ((with_reducible refine T.exit ?_); simp [*]) | ((with_reducible refine T.br fun K1 K2 hK1 hK2 => ?_); simp [*]; try ((refine Br.intro (fun hc => ?_) (fun hc => ?_)) <;> (try simp at hc))) | (with_reducible refine Cont.go (by assumption) _ ?_) | (with_reducible refine Cnt.go (by assumption) ?_))
            all_goals (unfold Hold at *; rw [hn]; simp [cnV, encC_eq])
        · rw [if_neg c1] at hpe
          have c2 : ¬ e.i = x := fun h => c1 (.inl h)
          have c3 : hasB (frE y) x = true := by
            cases h : hasB (frE y) x with
            | false => exact absurd (.inr h) c1
            | true => rfl
          clear c1
          by_cases c4 : hasB o e.i = true
          · rw [if_pos c4] at hpe
            have hU : rnU x o e = withN (vaE y ||| o) x := by unfold rnU; rw [hy]
            rw [hU] at hpe
            have hvl := vaE_lt hya
            have hbt : bits .or .u64 (vaE y : Nat) (o : Nat) = ((vaE y ||| o : Nat) : Int) := bits_or rfl (by simpa [IntKind.bits] using hvl) (by simpa [IntKind.bits] using ho)
            have hol := or_lt hvl ho
            have f3 := u64_nat hol
            have f4 := u64_nat (withN_lt (n := x) hol)
            have hlv : lsV (withN (vaE y ||| o) x) = .tup [.int .i64 (leastN (withN (vaE y ||| o) x)), .bool (decide (0 ≤ leastN (withN (vaE y ||| o) x)))] := rfl
            have hzr := least_range (withN (vaE y ||| o) x)
            obtain ⟨z, hz⟩ : ∃ z, leastN (withN (vaE y ||| o) x) = z := ⟨_, rfl⟩
            rw [hz] at hlv hzr hpe
            by_cases c5 : z < 0
            · rw [if_pos c5] at hpe
              have hn : Hold (rnE x o e = none) := hpe
              have c6 : ¬ 0 ≤ z := by omega
              clear hpe
              repeat' (first | (with_reducible refine T.sq fun K hK => ?_) | ((first | ((with_reducible refine T.reg hE ?hd ?_); (case hd => kernel_rfl)) | ((with_reducible refine T.any hE mixed ?hd ?hok ?_); (case hd => kernel_rfl); (case hok => kernel_rfl))); simp [*]; (repeat' (split; all_goals (rename_i hc; try simp [*])))) | ((with_reducible refine T.ret ?_); refine fin_pure ?_; simp [*]; try (change Hold _)) | (with_reducible refine T.block ?_) | ((with_reducible refine T.skip ?_); simp [*]) | ((with_reducible refine T.exit ?_); simp [*]) | ((with_reducible refine T.br fun K1 K2 hK1 hK2 => ?_); simp [*]; try ((refine Br.intro (fun hc => ?_) (fun hc => ?_)) <;> (try simp at hc))) | (with_reducible refine Cont.go (by assumption) _ ?_) | (with_reducible refine Cnt.go (by assumption) ?_))
              all_goals (unfold Hold at *; rw [hn]; rfl)
            · rw [if_neg c5] at hpe
              have hn : Hold (rnE x o e = pcK (rnE x o) e.k z [rnK x o e]) := hpe
              have c6 : 0 ≤ z := by omega
              clear hpe
              refine T.sq fun K hK => ?_
              obtain ⟨hgo⟩ := hK
              repeat' (first | (with_reducible refine T.sq fun K hK => ?_) | ((first | ((with_reducible refine T.reg hE ?hd ?_); (case hd => kernel_rfl)) | ((with_reducible refine T.any hE mixed ?hd ?hok ?_); (case hd => kernel_rfl); (case hok => kernel_rfl))); simp [*]; (repeat' (split; all_goals (rename_i hc; try simp [*])))) | ((with_reducible refine T.ret ?_); refine fin_pure ?_; simp [*]; try (change Hold _)) | (with_reducible refine T.block ?_) | ((with_reducible refine T.skip ?_); simp [*]) | ((with_reducible refine T.exit ?_); simp [*]) | ((with_reducible refine T.br fun K1 K2 hK1 hK2 => ?_); simp [*]; try ((refine Br.intro (fun hc => ?_) (fun hc => ?_)) <;> (try simp at hc))) | (with_reducible refine Cont.go (by assumption) _ ?_) | (with_reducible refine Cnt.go (by assumption) ?_))
              refine hgo _ ?_
              clear hgo
              refine T.br fun K1 K2 hK1 hK2 => ?_
              simp [*]
              refine Cnt.go (by assumption) ?_
              refine T.sq fun K hK => ?_
              obtain ⟨hgo⟩ := hK
              repeat' (first | (with_reducible refine T.sq fun K hK => ?_) | ((first | ((with_reducible refine T.reg hE ?hd ?_); (case hd => kernel_rfl)) | ((with_reducible refine T.any hE mixed ?hd ?hok ?_); (case hd => kernel_rfl); (case hok => kernel_rfl))); simp [*]; (repeat' (split; all_goals (rename_i hc; try simp [*])))) | ((with_reducible refine T.ret ?_); refine fin_pure ?_; simp [*]; try (change Hold _)) | (with_reducible refine T.block ?_) | ((with_reducible refine T.skip ?_); simp [*]) | ((with_reducible refine T.exit ?_); simp [*]) | ((with_reducible refine T.br fun K1 K2 hK1 hK2 => ?_); simp [*]; try ((refine Br.intro (fun hc => ?_) (fun hc => ?_)) <;> (try simp at hc))) | (with_reducible refine Cont.go (by assumption) _ ?_) | (with_reducible refine Cnt.go (by assumption) ?_))
              refine hgo _ ?_
              clear hgo
              refine T.sq fun K hK => ?_
              obtain ⟨hgo⟩ := hK
              repeat' (first | (with_reducible refine T.sq fun K hK => ?_) | ((first | ((with_reducible refine T.reg hE ?hd ?_); (case hd => kernel_rfl)) | ((with_reducible refine T.any hE mixed ?hd ?hok ?_); (case hd => kernel_rfl); (case hok => kernel_rfl))); simp [*]; (repeat' (split; all_goals (rename_i hc; try simp [*])))) | ((with_reducible refine T.ret ?_); refine fin_pure ?_; simp [*]; try (change Hold _)) | (with_reducible refine T.block ?_) | ((with_reducible refine T.skip ?_); simp [*]) | ((with_reducible refine T.exit ?_); simp [*]) | ((with_reducible refine T.br fun K1 K2 hK1 hK2 => ?_); simp [*]; try ((refine Br.intro (fun hc => ?_) (fun hc => ?_)) <;> (try simp at hc))) | (with_reducible refine Cont.go (by assumption) _ ?_) | (with_reducible refine Cnt.go (by assumption) ?_))
              refine hgo _ ?_
              clear hgo
              refine T.sq fun K hK => ?_
              obtain ⟨hgo⟩ := hK
              repeat' (first | (with_reducible refine T.sq fun K hK => ?_) | ((first | ((with_reducible refine T.reg hE ?hd ?_); (case hd => kernel_rfl)) | ((with_reducible refine T.any hE mixed ?hd ?hok ?_); (case hd => kernel_rfl); (case hok => kernel_rfl))); simp [*]; (repeat' (split; all_goals (rename_i hc; try simp [*])))) | ((with_reducible refine T.ret ?_); refine fin_pure ?_; simp [*]; try (change Hold _)) | (with_reducible refine T.block ?_) | ((with_reducible refine T.skip ?_); simp [*]) | ((with_reducible refine T.exit ?_); simp [*]) | ((with_reducible refine T.br fun K1 K2 hK1 hK2 => ?_); simp [*]; try ((refine Br.intro (fun hc => ?_) (fun hc => ?_)) <;> (try simp at hc))) | (with_reducible refine Cont.go (by assumption) _ ?_) | (with_reducible refine Cnt.go (by assumption) ?_))
              refine hgo _ ?_
              clear hgo
              refine T.br fun K1 K2 hK1 hK2 => ?_
              simp [*]
              refine Cnt.go (by assumption) ?_
              refine T.sq fun K hK => ?_
              obtain ⟨hgo⟩ := hK
              repeat' (first | (with_reducible refine T.sq fun K hK => ?_) | ((first | ((with_reducible refine T.reg hE ?hd ?_); (case hd => kernel_rfl)) | ((with_reducible refine T.any hE mixed ?hd ?hok ?_); (case hd => kernel_rfl); (case hok => kernel_rfl))); simp [*]; (repeat' (split; all_goals (rename_i hc; try simp [*])))) | ((with_reducible refine T.ret ?_); refine fin_pure ?_; simp [*]; try (change Hold _)) | (with_reducible refine T.block ?_) | ((with_reducible refine T.skip ?_); simp [*]) | ((with_reducible refine T.exit ?_); simp [*]) | ((with_reducible refine T.br fun K1 K2 hK1 hK2 => ?_); simp [*]; try ((refine Br.intro (fun hc => ?_) (fun hc => ?_)) <;> (try simp at hc))) | (with_reducible refine Cont.go (by assumption) _ ?_) | (with_reducible refine Cnt.go (by assumption) ?_))
              refine hgo _ ?_
              clear hgo
              refine T.sq fun K hK => ?_
              obtain ⟨hgo⟩ := hK
              repeat' (first | (with_reducible refine T.sq fun K hK => ?_) | ((first | ((with_reducible refine T.reg hE ?hd ?_); (case hd => kernel_rfl)) | ((with_reducible refine T.any hE mixed ?hd ?hok ?_); (case hd => kernel_rfl); (case hok => kernel_rfl))); simp [*]; (repeat' (split; all_goals (rename_i hc; try simp [*])))) | ((with_reducible refine T.ret ?_); refine fin_pure ?_; simp [*]; try (change Hold _)) | (with_reducible refine T.block ?_) | ((with_reducible refine T.skip ?_); simp [*]) | ((with_reducible refine T.exit ?_); simp [*]) | ((with_reducible refine T.br fun K1 K2 hK1 hK2 => ?_); simp [*]; try ((refine Br.intro (fun hc => ?_) (fun hc => ?_)) <;> (try simp at hc))) | (with_reducible refine Cont.go (by assumption) _ ?_) | (with_reducible refine Cnt.go (by assumption) ?_))
              refine hgo _ ?_
              clear hgo
              refine T.sq fun K hK => ?_
              obtain ⟨hgo⟩ := hK
              repeat' (first | (with_reducible refine T.sq fun K hK => ?_) | ((first | ((with_reducible refine T.reg hE ?hd ?_); (case hd => kernel_rfl)) | ((with_reducible refine T.any hE mixed ?hd ?hok ?_); (case hd => kernel_rfl); (case hok => kernel_rfl))); simp [*]; (repeat' (split; all_goals (rename_i hc; try simp [*])))) | ((with_reducible refine T.ret ?_); refine fin_pure ?_; simp [*]; try (change Hold _)) | (with_reducible refine T.block ?_) | ((with_reducible refine T.skip ?_); simp [*]) | ((with_reducible refine T.exit ?_); simp [*]) | ((with_reducible refine T.br fun K1 K2 hK1 hK2 => ?_); simp [*]; try ((refine Br.intro (fun hc => ?_) (fun hc => ?_)) <;> (try simp at hc))) | (with_reducible refine Cont.go (by assumption) _ ?_) | (with_reducible refine Cnt.go (by assumption) ?_))
              refine hgo _ ?_
              clear hgo
              have hz2 : 0 ≤ z ∧ z ≤ 63 := ⟨c6, hzr.2⟩
              have hrl : (List.replicate 64 [V.int .i64 0, V.int .i64 0, V.nils]).flatten.length = 192 := by rfl
              obtain ⟨rest, hrest⟩ : ∃ rest, (List.replicate 64 [V.int .i64 0, V.int .i64 0, V.nils]).flatten = rest := ⟨_, rfl⟩
              have hre : rest.map V.er = encXs zeroX := by rw [← hrest]; exact zero_er
              rw [hrest] at hrl
              refine T.sq fun K2 hK2 => ?_
              suffices j2 : ∀ (σ : St), (σ.get 1 = .int .i64 x ∧ σ.get 2 = .int .u64 (o : Nat) ∧ σ.get 3 = .ptr (0 :: 5 :: q) 0 ∧ σ.get 6 = .ptr (0 :: 8 :: q) 0 ∧ σ.get 8 = .ptr (0 :: 10 :: q) 0 ∧ σ.get 14 = .int .i64 z ∧ σ.get 16 = .ptr (0 :: 76 :: q) 0 ∧ σ.M (0 :: 5 :: q) = some (.cells (encC e)) ∧ (∃ c0 c1 c2, σ.M (0 :: 8 :: q) = some (.cells [c0, c1, c2])) ∧ σ.M (0 :: 10 :: q) = some (.cells [.int .i64 e.k, .int .i64 e.i, .nils]) ∧ σ.M (0 :: 76 :: q) = some (.cells (.int .u64 0 :: rest))) → K2 σ by
                clear hK2
                repeat' (first | (with_reducible refine T.sq fun K hK => ?_) | ((first | ((with_reducible refine T.reg hE ?hd ?_); (case hd => kernel_rfl)) | ((with_reducible refine T.any hE mixed ?hd ?hok ?_); (case hd => kernel_rfl); (case hok => kernel_rfl))); simp [*]; (repeat' (split; all_goals (rename_i hc; try simp [*])))) | ((with_reducible refine T.ret ?_); refine fin_pure ?_; simp [*]; try (change Hold _)) | (with_reducible refine T.block ?_) | ((with_reducible refine T.skip ?_); simp [*]) | ((with_reducible refine T.exit ?_); simp [*]) | ((with_reducible refine T.br fun K1 K2 hK1 hK2 => ?_); simp [*]; try ((refine Br.intro (fun hc => ?_) (fun hc => ?_)) <;> (try simp at hc))) | (with_reducible refine Cont.go (by assumption) _ ?_) | (with_reducible refine Cnt.go (by assumption) ?_))
                refine j2 _ ⟨?_, ?_, ?_, ?_, ?_, ?_, ?_, ?_, ?_, ?_, ?_⟩
                all_goals first | (simp [encC_eq]; done) | (rw [← hrest]; simp; done)
              clear hrest hs1 hs2 f1 f2 f3 f4 hbt hlv
              rintro σ ⟨b1, b2, b3, b6, b8, b14, b16, n5, ⟨c0, c1, c2, n8⟩, n10, n76⟩
              refine hK2.go σ ?_
              clear hK2
              rw [encC_eq] at n5
              have hokt : okTP 0 rest e.i := ⟨⟨by omega, by omega⟩, hrl, va⟩
              have her := er_put hre (withN 0 e.i : Nat) e.i.toNat (vrX z) (by simp [zeroX]; omega)
              obtain ⟨r2, e1, e2⟩ := put_len (u := (withN 0 e.i : Nat)) (e := vrX z) (m := e.i.toNat) hrl (by omega)
              rw [e1] at her
              have her2 : Hold (r2.map V.er = encXs (zeroX.set e.i.toNat (vrX z))) := by rw [List.map_cons] at her; exact (List.cons.inj her).2
              have e3 : Hold (List.take (1 + e.i.toNat * 3) (V.int .u64 (withN 0 e.i : Nat) :: rest) ++ V.int .i64 1 :: V.int .i64 z :: V.sl [] .no :: List.drop (1 + e.i.toNat * 3 + 2) rest = .int .u64 (withN 0 e.i : Nat) :: r2) := by
                unfold Hold; rw [← e1]; simp [Ax.splice, vrX]
              clear her e1 hre
              refine T.sq fun K3 hK3 => ?_
              suffices j3 : ∀ (σ : St), (σ.get 1 = .int .i64 x ∧ σ.get 2 = .int .u64 (o : Nat) ∧ σ.get 3 = .ptr (0 :: 5 :: q) 0 ∧ σ.get 6 = .ptr (0 :: 8 :: q) 0 ∧ σ.get 8 = .ptr (0 :: 10 :: q) 0 ∧ σ.get 14 = .int .i64 z ∧ σ.get 16 = .ptr (0 :: 76 :: q) 0 ∧ σ.M (0 :: 5 :: q) = some (.cells (encC e)) ∧ (∃ c0 c1 c2, σ.M (0 :: 8 :: q) = some (.cells [c0, c1, c2])) ∧ σ.M (0 :: 10 :: q) = some (.cells [.int .i64 e.k, .int .i64 e.i, .nils]) ∧ σ.M (0 :: 76 :: q) = some (.cells (.int .u64 (withN 0 e.i : Nat) :: r2))) → K3 σ by
                clear hK3
                repeat' (first | (with_reducible refine T.sq fun K hK => ?_) | ((first | ((with_reducible refine T.reg hE ?hd ?_); (case hd => kernel_rfl)) | ((with_reducible refine T.any hE mixed ?hd ?hok ?_); (case hd => kernel_rfl); (case hok => kernel_rfl))); simp [*]; (repeat' (split; all_goals (rename_i hc; try simp [*])))) | ((with_reducible refine T.ret ?_); refine fin_pure ?_; simp [*]; try (change Hold _)) | (with_reducible refine T.block ?_) | ((with_reducible refine T.skip ?_); simp [*]) | ((with_reducible refine T.exit ?_); simp [*]) | ((with_reducible refine T.br fun K1 K2 hK1 hK2 => ?_); simp [*]; try ((refine Br.intro (fun hc => ?_) (fun hc => ?_)) <;> (try simp at hc))) | (with_reducible refine Cont.go (by assumption) _ ?_) | (with_reducible refine Cnt.go (by assumption) ?_))
                refine j3 _ ⟨?_, ?_, ?_, ?_, ?_, ?_, ?_, ?_, ⟨c0, c1, c2, ?_⟩, ?_, ?_⟩
                all_goals first | (simp [*, encC_eq]; done) | (simp; exact e3)
              clear b1 b2 b3 b6 b8 b14 b16 n5 n8 n10 n76 hokt e3 c0 c1 c2 hrl e2
              rintro σ ⟨b1, b2, b3, b6, b8, b14, b16, n5, ⟨c0, c1, c2, n8⟩, n10, n76⟩
              refine hK3.go σ ?_
              clear hK3
              rw [encC_eq] at n5
              have hvp : VarsP [(e.i, vrX z)] := ⟨fun p hp => by obtain rfl : p = (e.i, vrX z) := by simpa using hp
                                                                 exact va, by simp⟩
              have htf : tbF (withN 0 e.i) (zeroX.set e.i.toNat (vrX z)) 0 = sgF e.i (vrX z) := (tab_fun hvp).trans (lk_sg _ _)
              have hoki : okIn y (withN 0 e.i : Nat) (zeroX.set e.i.toNat (vrX z)) 0 := ⟨hya, u64_nat (withN_lt (by omega)), by simp [zeroX], ⟨by omega, by omega⟩⟩
              refine T.frzE 16 (by decide) b16 n76 (ds := .int .u64 (withN 0 e.i : Nat) :: encXs (zeroX.set e.i.toNat (vrX z))) (by rw [List.map_cons, her2]; rfl) ?_
              clear her2 hvp n76
              obtain ⟨R, hR⟩ : ∃ R, psF (sgF e.i (vrX z)) y = R := ⟨_, rfl⟩
              have hRn : rnK x o e = R := by unfold rnK; rw [hU, hz, hy]; exact hR
              have hsm : Hold (Smaller e [R]) := ⟨fun j hj => by
                obtain rfl : j = 0 := by simp at hj; omega
                have hzz : ¬ leastN (rnU x o e) < 0 := by rw [hU, hz]; exact c5
                have g1 := rnK_right hr0 cq hzz
                have g2 := (rnK_small ha cq hzz).1
                rw [hRn] at g1 g2
                exact ⟨g1, g2⟩, by simp⟩
              rw [hRn] at hn
              repeat' (first | (with_reducible refine T.sq fun K hK => ?_) | ((first | ((with_reducible refine T.reg hE ?hd ?_); (case hd => kernel_rfl)) | ((with_reducible refine T.any hE mixed ?hd ?hok ?_); (case hd => kernel_rfl); (case hok => kernel_rfl))); simp [*]; (repeat' (split; all_goals (rename_i hc; try simp [*])))) | ((with_reducible refine T.ret ?_); refine fin_pure ?_; simp [*]; try (change Hold _)) | (with_reducible refine T.block ?_) | ((with_reducible refine T.skip ?_); simp [*]) | ((with_reducible refine T.exit ?_); simp [*]) | ((with_reducible refine T.br fun K1 K2 hK1 hK2 => ?_); simp [*]; try ((refine Br.intro (fun hc => ?_) (fun hc => ?_)) <;> (try simp at hc))) | (with_reducible refine Cont.go (by assumption) _ ?_) | (with_reducible refine Cnt.go (by assumption) ?_))
              all_goals (refine j0 z [R] .ex _ ⟨hn, hsm, ?_, ?_, ?_, ?_, ?_, ?_, ?_⟩ <;> simp [*, encC_eq])
          · rw [if_neg c4] at hpe
            rw [Bool.not_eq_true] at c4
            have hn : Hold (rnE x o e = pcK (rnE x o) e.k e.i e.kids) := hpe
            clear hpe
            repeat' (first | (with_reducible refine T.sq fun K hK => ?_) | ((first | ((with_reducible refine T.reg hE ?hd ?_); (case hd => kernel_rfl)) | ((with_reducible refine T.any hE mixed ?hd ?hok ?_); (case hd => kernel_rfl); (case hok => kernel_rfl))); simp [*]; (repeat' (split; all_goals (rename_i hc; try simp [*])))) | ((with_reducible refine T.ret ?_); refine fin_pure ?_; simp [*]; try (change Hold _)) | (with_reducible refine T.block ?_) | ((with_reducible refine T.skip ?_); simp [*]) | ((with_reducible refine T.exit ?_); simp [*]) | ((with_reducible refine T.br fun K1 K2 hK1 hK2 => ?_); simp [*]; try ((refine Br.intro (fun hc => ?_) (fun hc => ?_)) <;> (try simp at hc))) | (with_reducible refine Cont.go (by assumption) _ ?_) | (with_reducible refine Cnt.go (by assumption) ?_))
            all_goals (refine j0 _ e.kids .no _ ⟨hn, hsk', ?_, ?_, ?_, ?_, ?_, ?_, ?_⟩ <;> simp [*, encC_eq])
      · rw [if_neg cq] at hpe
        rw [Bool.not_eq_true] at cq
        have hn : Hold (rnE x o e = pcK (rnE x o) e.k e.i e.kids) := hpe
        clear hpe
        repeat' (first | (with_reducible refine T.sq fun K hK => ?_) | ((first | ((with_reducible refine T.reg hE ?hd ?_); (case hd => kernel_rfl)) | ((with_reducible refine T.any hE mixed ?hd ?hok ?_); (case hd => kernel_rfl); (case hok => kernel_rfl))); simp [*]; (repeat' (split; all_goals (rename_i hc; try simp [*])))) | ((with_reducible refine T.ret ?_); refine fin_pure ?_; simp [*]; try (change Hold _)) | (with_reducible refine T.block ?_) | ((with_reducible refine T.skip ?_); simp [*]) | ((with_reducible refine T.exit ?_); simp [*]) | ((with_reducible refine T.br fun K1 K2 hK1 hK2 => ?_); simp [*]; try ((refine Br.intro (fun hc => ?_) (fun hc => ?_)) <;> (try simp at hc))) | (with_reducible refine Cont.go (by assumption) _ ?_) | (with_reducible refine Cnt.go (by assumption) ?_))
        all_goals (refine j0 _ e.kids .no _ ⟨hn, hsk', ?_, ?_, ?_, ?_, ?_, ?_, ?_⟩ <;> simp [*, encC_eq])
    rintro I L tk σ ⟨hn, hL0, b1, b2, b6, b8, b9, ⟨c0, c1, c2, n8⟩, n10⟩
    refine hK0.go σ ?_
    clear hK0 hpe hsk'
    obtain ⟨hL1, hL2⟩ := hL0
    have hokp : ∀ (j : Nat) (hj : j < L.length), okRn L[j] x (o : Nat) := fun j hj => ⟨(hL1 j hj).1, hx0, hu0⟩
    have hlt : ∀ (j : Nat) (hj : j < L.length), cntE L[j] < cntE e := fun j hj => (hL1 j hj).2
    repeat' (first | (with_reducible refine T.sq fun K hK => ?_) | ((first | ((with_reducible refine T.reg hE ?hd ?_); (case hd => kernel_rfl)) | ((with_reducible refine T.any hE mixed ?hd ?hok ?_); (case hd => kernel_rfl); (case hok => kernel_rfl))); simp [*]; (repeat' (split; all_goals (rename_i hc; try simp [*])))) | ((with_reducible refine T.ret ?_); refine fin_pure ?_; simp [*]; try (change Hold _)) | (with_reducible refine T.block ?_) | ((with_reducible refine T.skip ?_); simp [*]) | ((with_reducible refine T.exit ?_); simp [*]) | ((with_reducible refine T.br fun K1 K2 hK1 hK2 => ?_); simp [*]; try ((refine Br.intro (fun hc => ?_) (fun hc => ?_)) <;> (try simp at hc))) | (with_reducible refine Cont.go (by assumption) _ ?_) | (with_reducible refine Cnt.go (by assumption) ?_))
    refine T.len (t := 90) (els := encL L) (tk := tk) (by simp [*]) fun hlen => ?_
    rw [encL_length] at hlen
    refine T.loop (fun n σ => ∃ (j : Nat) (w : V) (Y : List Ex), n = L.length - j ∧ σ.get 90 = .sl (encL L) tk ∧ σ.get 91 = .int .i64 L.length ∧ σ.get 92 = .int .i64 j ∧ j ≤ L.length ∧ σ.get 1 = .int .i64 x ∧ σ.get 2 = .int .u64 (o : Nat) ∧ σ.get 6 = .ptr (0 :: 8 :: q) 0 ∧ σ.get 8 = .ptr (0 :: 10 :: q) 0 ∧ (∃ c0 c1 c2, σ.M (0 :: 8 :: q) = some (.cells [c0, c1, c2])) ∧ σ.M (0 :: 10 :: q) = some (.cells [.int .i64 e.k, .int .i64 I, w]) ∧ Hold (optL (rnE x o) (L.take j) = some Y ∧ Y.length = j) ∧ Hold ((Y = [] ∧ w = .nils) ∨ (Y ≠ [] ∧ ∃ id, w = .sl (encL Y) (.own id 3) ∧ σ.K id = true))) L.length ⟨0, .nils, [], by simp [*], by simp [*], by simp [*], by simp [*], by omega, by simp [*], by simp [*], by simp [*], by simp [*], ⟨c0, c1, c2, by simp [*]⟩, by simp [*], ⟨by rw [List.take_zero]; rfl, rfl⟩, .inl ⟨rfl, rfl⟩⟩ ?_
    clear b1 b2 b6 b8 b9 n8 n10 c0 c1 c2 hL1
    rintro n σ ⟨j, w, Y, rfl, g1, g2, g3, g4, b1, b2, b6, b8, ⟨c0, c1, c2, n8⟩, n10, g8, g9⟩
    obtain ⟨hL, hLj⟩ := g8
    by_cases hj : j < L.length
    · have hw := wrap_succ hlen hj
      have hs := hlt j hj
      have hok := hokp j hj
      have u1 : (j + 1) * 40 ≤ 140737488355328 := by omega
      rcases optL_head hj hL with ⟨y, hy, hY2⟩ | ⟨hy, hno⟩
      · have hcv : cnV (rnE x o L[j]) = .tup [enc y, .int .i64 0] := by rw [hy]; rfl
        have hL2' : Hold (optL (rnE x o) (L.take (j + 1)) = some (Y ++ [y])) := hY2
        clear hy hL hY2 hokp hlt
        rcases g9 with ⟨rfl, rfl⟩ | ⟨hj0, id, rfl, hK⟩
        · have hj1 : j = 0 := by rw [← hLj]; rfl
          subst hj1
          have hw1 : IntKind.i64.wrap 1 = 1 := wrap64 (by omega) (by omega)
          repeat' (first | (with_reducible refine T.sq fun K hK => ?_) | ((first | ((with_reducible refine T.reg hE ?hd ?_); (case hd => kernel_rfl)) | ((with_reducible refine T.any hE mixed ?hd ?hok ?_); (case hd => kernel_rfl); (case hok => kernel_rfl))); simp [*]; (repeat' (split; all_goals (rename_i hc; try simp [*])))) | ((with_reducible refine T.ret ?_); refine fin_pure ?_; simp [*]; try (change Hold _)) | (with_reducible refine T.block ?_) | ((with_reducible refine T.skip ?_); simp [*]) | ((with_reducible refine T.exit ?_); simp [*]) | ((with_reducible refine T.br fun K1 K2 hK1 hK2 => ?_); simp [*]; try ((refine Br.intro (fun hc => ?_) (fun hc => ?_)) <;> (try simp at hc))) | (with_reducible refine Cont.go (by assumption) _ ?_) | (with_reducible refine Cnt.go (by assumption) ?_))
          exact ⟨_, by omega, 1, rfl, rfl, by omega, [y], ⟨hL2', rfl⟩, by simp, _, ⟨by simp, rfl⟩, .inl rfl⟩
        · have hl3 : (∀ el : List V, el ∈ encL Y → el.length = 3) = True := eq_true (encL_len3 Y)
          have hll : (encL Y).length = j := by rw [encL_length, hLj]
          have c4 : Hold (encL (Y ++ [y]) = encL Y ++ [[.int .i64 y.k, .int .i64 y.i, .sl (encL y.kids) .no]]) := by unfold Hold; rw [encL_append]; simp
          repeat' (first | (with_reducible refine T.sq fun K hK => ?_) | ((first | ((with_reducible refine T.reg hE ?hd ?_); (case hd => kernel_rfl)) | ((with_reducible refine T.any hE mixed ?hd ?hok ?_); (case hd => kernel_rfl); (case hok => kernel_rfl))); simp [*]; (repeat' (split; all_goals (rename_i hc; try simp [*])))) | ((with_reducible refine T.ret ?_); refine fin_pure ?_; simp [*]; try (change Hold _)) | (with_reducible refine T.block ?_) | ((with_reducible refine T.skip ?_); simp [*]) | ((with_reducible refine T.exit ?_); simp [*]) | ((with_reducible refine T.br fun K1 K2 hK1 hK2 => ?_); simp [*]; try ((refine Br.intro (fun hc => ?_) (fun hc => ?_)) <;> (try simp at hc))) | (with_reducible refine Cont.go (by assumption) _ ?_) | (with_reducible refine Cnt.go (by assumption) ?_))
          exact ⟨_, by omega, j + 1, rfl, by omega, by omega, Y ++ [y], ⟨hL2', by simp [hLj]⟩, by simp, _, ⟨c4.symm, rfl⟩, .inl rfl⟩
      · have hcv : cnV (rnE x o L[j]) = .tup [enc ex0, .int .i64 51] := by rw [hy]; rfl
        have hn2 : Hold (rnE x o e = none) := by unfold Hold at *; rw [hn, pcK, hno]; rfl
        clear hy hno hL hokp g9 hn hlt
        repeat' (first | (with_reducible refine T.sq fun K hK => ?_) | ((first | ((with_reducible refine T.reg hE ?hd ?_); (case hd => kernel_rfl)) | ((with_reducible refine T.any hE mixed ?hd ?hok ?_); (case hd => kernel_rfl); (case hok => kernel_rfl))); simp [*]; (repeat' (split; all_goals (rename_i hc; try simp [*])))) | ((with_reducible refine T.ret ?_); refine fin_pure ?_; simp [*]; try (change Hold _)) | (with_reducible refine T.block ?_) | ((with_reducible refine T.skip ?_); simp [*]) | ((with_reducible refine T.exit ?_); simp [*]) | ((with_reducible refine T.br fun K1 K2 hK1 hK2 => ?_); simp [*]; try ((refine Br.intro (fun hc => ?_) (fun hc => ?_)) <;> (try simp at hc))) | (with_reducible refine Cont.go (by assumption) _ ?_) | (with_reducible refine Cnt.go (by assumption) ?_))
        all_goals (unfold Hold at *; rw [hn2]; rfl)
    · have w8 : j = L.length := by omega
      have hn2 : Hold (rnE x o e = some (.mk e.k I Y)) := by unfold Hold at *; rw [w8, List.take_length] at hL; rw [hn, pcK, hL]; rfl
      clear hL hokp hn hlt
      rcases g9 with ⟨rfl, rfl⟩ | ⟨hj0, id, rfl, hK⟩
      · repeat' (first | (with_reducible refine T.sq fun K hK => ?_) | ((first | ((with_reducible refine T.reg hE ?hd ?_); (case hd => kernel_rfl)) | ((with_reducible refine T.any hE mixed ?hd ?hok ?_); (case hd => kernel_rfl); (case hok => kernel_rfl))); simp [*]; (repeat' (split; all_goals (rename_i hc; try simp [*])))) | ((with_reducible refine T.ret ?_); refine fin_pure ?_; simp [*]; try (change Hold _)) | (with_reducible refine T.block ?_) | ((with_reducible refine T.skip ?_); simp [*]) | ((with_reducible refine T.exit ?_); simp [*]) | ((with_reducible refine T.br fun K1 K2 hK1 hK2 => ?_); simp [*]; try ((refine Br.intro (fun hc => ?_) (fun hc => ?_)) <;> (try simp at hc))) | (with_reducible refine Cont.go (by assumption) _ ?_) | (with_reducible refine Cnt.go (by assumption) ?_))
        all_goals (unfold Hold at *; rw [hn2]; simp [cnV])
      · repeat' (first | (with_reducible refine T.sq fun K hK => ?_) | ((first | ((with_reducible refine T.reg hE ?hd ?_); (case hd => kernel_rfl)) | ((with_reducible refine T.any hE mixed ?hd ?hok ?_); (case hd => kernel_rfl); (case hok => kernel_rfl))); simp [*]; (repeat' (split; all_goals (rename_i hc; try simp [*])))) | ((with_reducible refine T.ret ?_); refine fin_pure ?_; simp [*]; try (change Hold _)) | (with_reducible refine T.block ?_) | ((with_reducible refine T.skip ?_); simp [*]) | ((with_reducible refine T.exit ?_); simp [*]) | ((with_reducible refine T.br fun K1 K2 hK1 hK2 => ?_); simp [*]; try ((refine Br.intro (fun hc => ?_) (fun hc => ?_)) <;> (try simp at hc))) | (with_reducible refine Cont.go (by assumption) _ ?_) | (with_reducible refine Cnt.go (by assumption) ?_))
        all_goals (unfold Hold at *; rw [hn2]; simp [cnV])
  · cases hr
end Go.Proofs.YtaacfmakfkaddaaDoor.Ax
