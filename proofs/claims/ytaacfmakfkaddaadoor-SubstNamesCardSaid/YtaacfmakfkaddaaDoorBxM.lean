/- Contracts: alike; the law SubstAlphas. -/
import Derived.Test.YtaacfmakfkaddaaDoorPlC
import Derived.Test.YtaacfmakfkaddaaDoorBxF
import Derived.Test.YtaacfmakfkaddaaDoorBxJ
set_option linter.unusedVariables false
set_option linter.unusedSimpArgs false
namespace Go.Proofs.YtaacfmakfkaddaaDoor.Ax
open Go Go.Proofs

def isQ (e : Ex) : Bool := decide (e.k = 7) || decide (e.k = 10)
@[simp] def gQ : List V → Option V := f1 kE fun e => some (.bool (isQ e))
theorem ok_sBinds : PureOk Tryd.prog 67 gQ := by
  intro args r h
  obtain ⟨e, rfl, ⟨⟩⟩ := f1_inv h
  clear h
  have hE := (EnvOk.nil (P := Tryd.prog) (eq := fun _ => false) (own := fun _ => false) (mem := fun _ => false) EqOk.none)
  refine ⟨⟨Tryd.f67, Tryd.func67, by decide, rfl⟩, pure_of_T Tryd.func67 rfl (by simp [Tryd.ntmps67]) fun q => ?_⟩
  repeat' (first | (with_reducible refine T.sq fun K hK => ?_) | ((first | ((with_reducible refine T.reg hE ?hd ?_); (case hd => kernel_rfl)) | ((with_reducible refine T.any hE mixed ?hd ?hok ?_); (case hd => kernel_rfl); (case hok => kernel_rfl))); simp [*]; (repeat' (split; all_goals (rename_i hc; try simp [*])))) | ((with_reducible refine T.ret ?_); refine fin_pure ?_; simp [*]; try (change Hold _)) | (with_reducible refine T.block ?_) | ((with_reducible refine T.skip ?_); simp [*]) | ((with_reducible refine T.exit ?_); simp [*]) | ((with_reducible refine T.br fun K1 K2 hK1 hK2 => ?_); simp [*]; try ((refine Br.intro (fun hc => ?_) (fun hc => ?_)) <;> (try simp at hc))) | (with_reducible refine Cont.go (by assumption) _ ?_) | (with_reducible refine Cnt.go (by assumption) ?_))
  all_goals (unfold Hold; simp [isQ, *])
theorem ok_rQuant : PureOk Tryd.prog 54 gQ := by
  intro args r h
  obtain ⟨e, rfl, ⟨⟩⟩ := f1_inv h
  clear h
  have hE := (EnvOk.nil (P := Tryd.prog) (eq := fun _ => false) (own := fun _ => false) (mem := fun _ => false) EqOk.none)
  refine ⟨⟨Tryd.f54, Tryd.func54, by decide, rfl⟩, pure_of_T Tryd.func54 rfl (by simp [Tryd.ntmps54]) fun q => ?_⟩
  repeat' (first | (with_reducible refine T.sq fun K hK => ?_) | ((first | ((with_reducible refine T.reg hE ?hd ?_); (case hd => kernel_rfl)) | ((with_reducible refine T.any hE mixed ?hd ?hok ?_); (case hd => kernel_rfl); (case hok => kernel_rfl))); simp [*]; (repeat' (split; all_goals (rename_i hc; try simp [*])))) | ((with_reducible refine T.ret ?_); refine fin_pure ?_; simp [*]; try (change Hold _)) | (with_reducible refine T.block ?_) | ((with_reducible refine T.skip ?_); simp [*]) | ((with_reducible refine T.exit ?_); simp [*]) | ((with_reducible refine T.br fun K1 K2 hK1 hK2 => ?_); simp [*]; try ((refine Br.intro (fun hc => ?_) (fun hc => ?_)) <;> (try simp at hc))) | (with_reducible refine Cont.go (by assumption) _ ?_) | (with_reducible refine Cnt.go (by assumption) ?_))
  all_goals (unfold Hold; simp [isQ, *])
@[simp] def gPlace : List V → Option V := f2 (kIs .i64) (kI .i64) fun l x => some (.int .i64 (pl l x))
theorem ok_rPlace : PureOk Tryd.prog 70 gPlace := by
  intro args r h
  obtain ⟨l, x, rfl, ⟨⟩⟩ := f2_inv h
  clear h
  have hE := (EnvOk.nil (P := Tryd.prog) (eq := fun _ => false) (own := fun _ => false) (mem := fun _ => false) EqOk.none)
  refine ⟨⟨Tryd.f70, Tryd.func70, by decide, rfl⟩, pure_of_T Tryd.func70 rfl (by simp [Tryd.ntmps70]) fun q => ?_⟩
  refine T.len (t := 0) (els := encI .i64 l) (tk := .no) (by simp [*]) fun hlen => ?_
  rw [encI_length] at hlen
  have hw0 : IntKind.i64.wrap ((l.length : Int) - 1) = (l.length : Int) - 1 := wrap64 (by omega) (by omega)
  repeat' (first | (with_reducible refine T.sq fun K hK => ?_) | ((first | ((with_reducible refine T.reg hE ?hd ?_); (case hd => kernel_rfl)) | ((with_reducible refine T.any hE mixed ?hd ?hok ?_); (case hd => kernel_rfl); (case hok => kernel_rfl))); simp [*]; (repeat' (split; all_goals (rename_i hc; try simp [*])))) | ((with_reducible refine T.ret ?_); refine fin_pure ?_; simp [*]; try (change Hold _)) | (with_reducible refine T.block ?_) | ((with_reducible refine T.skip ?_); simp [*]) | ((with_reducible refine T.exit ?_); simp [*]) | ((with_reducible refine T.br fun K1 K2 hK1 hK2 => ?_); simp [*]; try ((refine Br.intro (fun hc => ?_) (fun hc => ?_)) <;> (try simp at hc))) | (with_reducible refine Cont.go (by assumption) _ ?_) | (with_reducible refine Cnt.go (by assumption) ?_))
  refine T.loop (fun m σ => m ≤ l.length ∧ σ.get 0 = .sl (encI .i64 l) .no ∧ σ.get 1 = .int .i64 x ∧ σ.get 5 = .int .i64 ((m : Int) - 1) ∧ Hold (pl l x = pl (l.take m) x)) l.length ⟨by omega, by simp [*], by simp [*], by simp [*], by unfold Hold; rw [List.take_length]⟩ ?_
  rintro m σ ⟨g0, g1, g2, g3, g4⟩
  cases m with
  | zero =>
    have e : ((0 : Nat) : Int) - 1 = -1 := rfl
    rw [e] at g3
    repeat' (first | (with_reducible refine T.sq fun K hK => ?_) | ((first | ((with_reducible refine T.reg hE ?hd ?_); (case hd => kernel_rfl)) | ((with_reducible refine T.any hE mixed ?hd ?hok ?_); (case hd => kernel_rfl); (case hok => kernel_rfl))); simp [*]; (repeat' (split; all_goals (rename_i hc; try simp [*])))) | ((with_reducible refine T.ret ?_); refine fin_pure ?_; simp [*]; try (change Hold _)) | (with_reducible refine T.block ?_) | ((with_reducible refine T.skip ?_); simp [*]) | ((with_reducible refine T.exit ?_); simp [*]) | ((with_reducible refine T.br fun K1 K2 hK1 hK2 => ?_); simp [*]; try ((refine Br.intro (fun hc => ?_) (fun hc => ?_)) <;> (try simp at hc))) | (with_reducible refine Cont.go (by assumption) _ ?_) | (with_reducible refine Cnt.go (by assumption) ?_))
    unfold Hold at *; rw [g4]; rfl
  | succ j =>
    have hj : j < l.length := by omega
    have e : ((j + 1 : Nat) : Int) - 1 = (j : Int) := by omega
    rw [e] at g3
    have hw : IntKind.i64.wrap ((j : Int) - 1) = (j : Int) - 1 := wrap64 (by omega) (by omega)
    have g5 : Hold (pl l x = if l[j] = x then (j : Int) else pl (l.take j) x) := by unfold Hold at *; rw [g4, pl_take l j hj]
    clear g4
    by_cases v : l[j] = x
    · repeat' (first | (with_reducible refine T.sq fun K hK => ?_) | ((first | ((with_reducible refine T.reg hE ?hd ?_); (case hd => kernel_rfl)) | ((with_reducible refine T.any hE mixed ?hd ?hok ?_); (case hd => kernel_rfl); (case hok => kernel_rfl))); simp [*]; (repeat' (split; all_goals (rename_i hc; try simp [*])))) | ((with_reducible refine T.ret ?_); refine fin_pure ?_; simp [*]; try (change Hold _)) | (with_reducible refine T.block ?_) | ((with_reducible refine T.skip ?_); simp [*]) | ((with_reducible refine T.exit ?_); simp [*]) | ((with_reducible refine T.br fun K1 K2 hK1 hK2 => ?_); simp [*]; try ((refine Br.intro (fun hc => ?_) (fun hc => ?_)) <;> (try simp at hc))) | (with_reducible refine Cont.go (by assumption) _ ?_) | (with_reducible refine Cnt.go (by assumption) ?_))
      unfold Hold at *; rw [g5, if_pos v]
    · have g6 : Hold (pl l x = pl (l.take j) x) := by unfold Hold at *; rw [g5, if_neg v]
      repeat' (first | (with_reducible refine T.sq fun K hK => ?_) | ((first | ((with_reducible refine T.reg hE ?hd ?_); (case hd => kernel_rfl)) | ((with_reducible refine T.any hE mixed ?hd ?hok ?_); (case hd => kernel_rfl); (case hok => kernel_rfl))); simp [*]; (repeat' (split; all_goals (rename_i hc; try simp [*])))) | ((with_reducible refine T.ret ?_); refine fin_pure ?_; simp [*]; try (change Hold _)) | (with_reducible refine T.block ?_) | ((with_reducible refine T.skip ?_); simp [*]) | ((with_reducible refine T.exit ?_); simp [*]) | ((with_reducible refine T.br fun K1 K2 hK1 hK2 => ?_); simp [*]; try ((refine Br.intro (fun hc => ?_) (fun hc => ?_)) <;> (try simp at hc))) | (with_reducible refine Cont.go (by assumption) _ ?_) | (with_reducible refine Cnt.go (by assumption) ?_))
      exact ⟨j, by omega, by omega, rfl, g6⟩

def okLk (a b : Ex) (x y : List Int) (d : Int) : Prop := allX a = true ∧ allX b = true ∧ x.length = 64 ∧ y.length = 64 ∧ 0 ≤ d ∧ d + depE a ≤ 1000000
noncomputable instance (a b : Ex) (x y : List Int) (d : Int) : Decidable (okLk a b x y d) := Classical.propDecidable _
@[simp] noncomputable def gLk : List V → Option V := f5 kE kE kA kA (kI .i64) fun a b x y d => if okLk a b x y d then some (.bool (lkE a b x y d)) else none
set_option maxHeartbeats 2000000 in
theorem ok_like : PureOk Tryd.prog 37 gLk := by
  refine rec5 fun a ih b x y d r hr => ?_
  split at hr
  · rename_i hm
    obtain ⟨m1, m2, m3, m4, m5, m6⟩ := hm
    cases hr
    have hE := (((EnvOk.nil (P := Tryd.prog) (eq := fun _ => false) (own := fun _ => false) (mem := fun _ => false) EqOk.none).addf ok_sBinds).addf ih)
    replace hE := hE.withCl (fun n => n == 58)
    refine ⟨⟨Tryd.f37, Tryd.func37, by decide, rfl⟩, pure_of_T Tryd.func37 rfl (by simp [Tryd.ntmps37]) fun q => ?_⟩
    refine T.sq fun K hK => ?_
    refine T.reg hE rfl ?_
    simp
    refine hK.go _ ?_
    refine T.frz 5 (by decide) ?_
    refine T.frz 6 (by decide) ?_
    simp [frz]
    have he := lkE_eq a b x y d
    by_cases c1 : b.k = a.k
    rotate_left
    · have c1' : ¬ a.k = b.k := fun h => c1 h.symm
      have he' : Hold (lkE a b x y d = false) := by unfold Hold; rw [he]; simp [c1']
      clear he
      repeat' (first | (with_reducible refine T.sq fun K hK => ?_) | ((first | ((with_reducible refine T.reg hE ?hd ?_); (case hd => kernel_rfl)) | ((with_reducible refine T.any hE mixed ?hd ?hok ?_); (case hd => kernel_rfl); (case hok => kernel_rfl))); simp [*]; (repeat' (split; all_goals (rename_i hc; try simp [*])))) | ((with_reducible refine T.ret ?_); refine fin_pure ?_; simp [*]; try (change Hold _)) | (with_reducible refine T.block ?_) | ((with_reducible refine T.skip ?_); simp [*]) | ((with_reducible refine T.exit ?_); simp [*]) | ((with_reducible refine T.br fun K1 K2 hK1 hK2 => ?_); simp [*]; try ((refine Br.intro (fun hc => ?_) (fun hc => ?_)) <;> (try simp at hc))) | (with_reducible refine Cont.go (by assumption) _ ?_) | (with_reducible refine Cnt.go (by assumption) ?_))
      all_goals exact he'
    by_cases c2 : b.kids.length = a.kids.length
    rotate_left
    · have c2' : ¬ (a.kids.length : Int) = (b.kids.length : Int) := by omega
      have he' : Hold (lkE a b x y d = false) := by unfold Hold; rw [he, decide_eq_false (show ¬ a.kids.length = b.kids.length by omega)]; simp
      clear he
      repeat' (first | (with_reducible refine T.sq fun K hK => ?_) | ((first | ((with_reducible refine T.reg hE ?hd ?_); (case hd => kernel_rfl)) | ((with_reducible refine T.any hE mixed ?hd ?hok ?_); (case hd => kernel_rfl); (case hok => kernel_rfl))); simp [*]; (repeat' (split; all_goals (rename_i hc; try simp [*])))) | ((with_reducible refine T.ret ?_); refine fin_pure ?_; simp [*]; try (change Hold _)) | (with_reducible refine T.block ?_) | ((with_reducible refine T.skip ?_); simp [*]) | ((with_reducible refine T.exit ?_); simp [*]) | ((with_reducible refine T.br fun K1 K2 hK1 hK2 => ?_); simp [*]; try ((refine Br.intro (fun hc => ?_) (fun hc => ?_)) <;> (try simp at hc))) | (with_reducible refine Cont.go (by assumption) _ ?_) | (with_reducible refine Cnt.go (by assumption) ?_))
      all_goals exact he'
    have dk := depE_eq a
    have hd0 : 1 ≤ depE a := by omega
    by_cases c3 : a.k = 1
    · have va := shaped_var m1 (.inl c3)
      have vb := shaped_var m2 (.inl (by omega))
      have i1 : a.i.toNat < x.length := by omega
      have i2 : b.i.toNat < y.length := by omega
      have he' : Hold (lkE a b x y d = (decide (x[a.i.toNat] = y[b.i.toNat]) && (decide (0 < x[a.i.toNat]) || decide (a.i = b.i)))) := by unfold Hold; rw [he, decide_eq_true c1.symm, decide_eq_true c2.symm, if_pos c3]; simp [i1, i2]
      clear he
      have va1 : 0 ≤ a.i := va.1
      have va2 : a.i ≤ 63 := va.2
      have va3 : a.i < 64 := by omega
      have vb1 : 0 ≤ b.i := vb.1
      have vb2 : b.i ≤ 63 := vb.2
      have vb3 : b.i < 64 := by omega
      clear va vb
      have i3 : a.i.toNat < 64 := by omega
      have i4 : b.i.toNat < 64 := by omega
      by_cases d1 : x[a.i.toNat] = y[b.i.toNat]
      · by_cases d2 : 0 < y[b.i.toNat]
        · have he2 : Hold (lkE a b x y d = true) := by unfold Hold at *; rw [he', d1]; simp [d2]
          clear he'
          repeat' (first | (with_reducible refine T.sq fun K hK => ?_) | ((first | ((with_reducible refine T.reg hE ?hd ?_); (case hd => kernel_rfl)) | ((with_reducible refine T.any hE mixed ?hd ?hok ?_); (case hd => kernel_rfl); (case hok => kernel_rfl))); simp [*]; (repeat' (split; all_goals (rename_i hc; try simp [*])))) | ((with_reducible refine T.ret ?_); refine fin_pure ?_; simp [*]; try (change Hold _)) | (with_reducible refine T.block ?_) | ((with_reducible refine T.skip ?_); simp [*]) | ((with_reducible refine T.exit ?_); simp [*]) | ((with_reducible refine T.br fun K1 K2 hK1 hK2 => ?_); simp [*]; try ((refine Br.intro (fun hc => ?_) (fun hc => ?_)) <;> (try simp at hc))) | (with_reducible refine Cont.go (by assumption) _ ?_) | (with_reducible refine Cnt.go (by assumption) ?_))
          all_goals exact he2
        · have he2 : Hold (lkE a b x y d = decide (a.i = b.i)) := by unfold Hold at *; rw [he', d1]; simp [d2]
          clear he'
          repeat' (first | (with_reducible refine T.sq fun K hK => ?_) | ((first | ((with_reducible refine T.reg hE ?hd ?_); (case hd => kernel_rfl)) | ((with_reducible refine T.any hE mixed ?hd ?hok ?_); (case hd => kernel_rfl); (case hok => kernel_rfl))); simp [*]; (repeat' (split; all_goals (rename_i hc; try simp [*])))) | ((with_reducible refine T.ret ?_); refine fin_pure ?_; simp [*]; try (change Hold _)) | (with_reducible refine T.block ?_) | ((with_reducible refine T.skip ?_); simp [*]) | ((with_reducible refine T.exit ?_); simp [*]) | ((with_reducible refine T.br fun K1 K2 hK1 hK2 => ?_); simp [*]; try ((refine Br.intro (fun hc => ?_) (fun hc => ?_)) <;> (try simp at hc))) | (with_reducible refine Cont.go (by assumption) _ ?_) | (with_reducible refine Cnt.go (by assumption) ?_))
          all_goals (unfold Hold at *; exact he2.symm)
      · have he2 : Hold (lkE a b x y d = false) := by unfold Hold at *; rw [he']; simp [d1]
        clear he'
        repeat' (first | (with_reducible refine T.sq fun K hK => ?_) | ((first | ((with_reducible refine T.reg hE ?hd ?_); (case hd => kernel_rfl)) | ((with_reducible refine T.any hE mixed ?hd ?hok ?_); (case hd => kernel_rfl); (case hok => kernel_rfl))); simp [*]; (repeat' (split; all_goals (rename_i hc; try simp [*])))) | ((with_reducible refine T.ret ?_); refine fin_pure ?_; simp [*]; try (change Hold _)) | (with_reducible refine T.block ?_) | ((with_reducible refine T.skip ?_); simp [*]) | ((with_reducible refine T.exit ?_); simp [*]) | ((with_reducible refine T.br fun K1 K2 hK1 hK2 => ?_); simp [*]; try ((refine Br.intro (fun hc => ?_) (fun hc => ?_)) <;> (try simp at hc))) | (with_reducible refine Cont.go (by assumption) _ ?_) | (with_reducible refine Cnt.go (by assumption) ?_))
        all_goals exact he2
    by_cases c4 : isQ a = true
    · have c4' : a.k = 7 ∨ a.k = 10 := by simpa [isQ] using c4
      have va := shaped_var m1 (.inr c4')
      have vb := shaped_var m2 (.inr (by omega))
      have i1 : a.i.toNat < x.length := by omega
      have i2 : b.i.toNat < y.length := by omega
      have s1 := encA_set x a.i.toNat d i1
      have s2 := encA_set y b.i.toNat d i2
      have he' : Hold (lkE a b x y d = all2 (fun u v => lkE u v (x.set a.i.toNat d) (y.set b.i.toNat d) (d + 1)) a.kids b.kids) := by
        unfold Hold; rw [he, decide_eq_true c1.symm, decide_eq_true c2.symm, if_neg c3, if_pos c4', lkL_eq]; rfl
      clear he
      have va1 : 0 ≤ a.i := va.1
      have va2 : a.i ≤ 63 := va.2
      have va3 : a.i < 64 := by omega
      have vb1 : 0 ≤ b.i := vb.1
      have vb2 : b.i ≤ 63 := vb.2
      have vb3 : b.i < 64 := by omega
      have i3 : a.i.toNat < 64 := by omega
      have i4 : b.i.toNat < 64 := by omega
      clear va vb
      repeat' (first | (with_reducible refine T.sq fun K hK => ?_) | ((first | ((with_reducible refine T.reg hE ?hd ?_); (case hd => kernel_rfl)) | ((with_reducible refine T.any hE mixed ?hd ?hok ?_); (case hd => kernel_rfl); (case hok => kernel_rfl))); simp [*]; (repeat' (split; all_goals (rename_i hc; try simp [*])))) | ((with_reducible refine T.ret ?_); refine fin_pure ?_; simp [*]; try (change Hold _)) | (with_reducible refine T.block ?_) | ((with_reducible refine T.skip ?_); simp [*]) | ((with_reducible refine T.exit ?_); simp [*]) | ((with_reducible refine T.br fun K1 K2 hK1 hK2 => ?_); simp [*]; try ((refine Br.intro (fun hc => ?_) (fun hc => ?_)) <;> (try simp at hc))) | (with_reducible refine Cont.go (by assumption) _ ?_) | (with_reducible refine Cnt.go (by assumption) ?_))
      refine T.len (t := 71) (els := encL a.kids) (tk := .no) (by simp [*]) fun hlen => ?_
      rw [encL_length] at hlen
      refine T.loop (fun n σ => ∃ j : Nat, n = a.kids.length - j ∧ σ.get 72 = .int .i64 a.kids.length ∧ σ.get 73 = .int .i64 j ∧ σ.get 4 = .int .i64 d ∧ σ.get 5 = .cptr (encC a) 0 ∧ σ.get 6 = .cptr (encC b) 0 ∧ σ.get 7 = .ptr (0 :: 9 :: q) 0 ∧ σ.get 8 = .ptr (0 :: 10 :: q) 0 ∧ σ.M (0 :: 9 :: q) = some (.cells (encA (x.set a.i.toNat d))) ∧ σ.M (0 :: 10 :: q) = some (.cells (encA (y.set b.i.toNat d))) ∧ j ≤ a.kids.length ∧ Hold (all2 (fun u v => lkE u v (x.set a.i.toNat d) (y.set b.i.toNat d) (d + 1)) (a.kids.take j) (b.kids.take j) = true)) a.kids.length ⟨0, by simp [*, encC_eq, Hold, all2]⟩ ?_
      rintro n σ ⟨j, rfl, g1, g2, g3, g4, g5, g6, g7, g10, g11, g12, g13⟩
      rw [encC_eq] at g4 g5
      by_cases hj : j < a.kids.length
      · have hj2 : j < b.kids.length := by omega
        have hw := wrap_succ hlen hj
        have hw2 : IntKind.i64.wrap (d + 1) = d + 1 := wrap64 (by omega) (by omega)
        have hs := ex_kid_lt a j hj
        have hdk := depE_kid (e := a) j hj
        have tx : (encA (x.set a.i.toNat d)).take 64 = encA (x.set a.i.toNat d) := List.take_of_length_le (by rw [encA_length]; exact Nat.le_of_eq (by simpa using m3))
        have ty : (encA (y.set b.i.toNat d)).take 64 = encA (y.set b.i.toNat d) := List.take_of_length_le (by rw [encA_length]; exact Nat.le_of_eq (by simpa using m4))
        have hok : okLk a.kids[j] b.kids[j] (x.set a.i.toNat d) (y.set b.i.toNat d) (d + 1) := ⟨allX_kid m1 j hj, allX_kid m2 j hj2, by simpa using m3, by simpa using m4, by omega, by omega⟩
        have c5 := all2_take (fun u v => lkE u v (x.set a.i.toNat d) (y.set b.i.toNat d) (d + 1)) a.kids b.kids j hj hj2
        by_cases v : lkE a.kids[j] b.kids[j] (x.set a.i.toNat d) (y.set b.i.toNat d) (d + 1) = true
        · have c6 : Hold (all2 (fun u v => lkE u v (x.set a.i.toNat d) (y.set b.i.toNat d) (d + 1)) (a.kids.take (j + 1)) (b.kids.take (j + 1)) = true) := by unfold Hold at *; rw [c5, g13, v]; rfl
          clear c5
          repeat' (first | (with_reducible refine T.sq fun K hK => ?_) | ((first | ((with_reducible refine T.reg hE ?hd ?_); (case hd => kernel_rfl)) | ((with_reducible refine T.any hE mixed ?hd ?hok ?_); (case hd => kernel_rfl); (case hok => kernel_rfl))); simp [*]; (repeat' (split; all_goals (rename_i hc; try simp [*])))) | ((with_reducible refine T.ret ?_); refine fin_pure ?_; simp [*]; try (change Hold _)) | (with_reducible refine T.block ?_) | ((with_reducible refine T.skip ?_); simp [*]) | ((with_reducible refine T.exit ?_); simp [*]) | ((with_reducible refine T.br fun K1 K2 hK1 hK2 => ?_); simp [*]; try ((refine Br.intro (fun hc => ?_) (fun hc => ?_)) <;> (try simp at hc))) | (with_reducible refine Cont.go (by assumption) _ ?_) | (with_reducible refine Cnt.go (by assumption) ?_))
          exact ⟨_, by omega, j + 1, rfl, by omega, by simp [encC_eq, *], by simp [encC_eq, *], by omega, c6⟩
        · rw [Bool.not_eq_true] at v
          have c6 : Hold (lkE a b x y d = false) := by unfold Hold at *; rw [he']; exact all2_false _ _ _ j hj hj2 v
          clear c5
          repeat' (first | (with_reducible refine T.sq fun K hK => ?_) | ((first | ((with_reducible refine T.reg hE ?hd ?_); (case hd => kernel_rfl)) | ((with_reducible refine T.any hE mixed ?hd ?hok ?_); (case hd => kernel_rfl); (case hok => kernel_rfl))); simp [*]; (repeat' (split; all_goals (rename_i hc; try simp [*])))) | ((with_reducible refine T.ret ?_); refine fin_pure ?_; simp [*]; try (change Hold _)) | (with_reducible refine T.block ?_) | ((with_reducible refine T.skip ?_); simp [*]) | ((with_reducible refine T.exit ?_); simp [*]) | ((with_reducible refine T.br fun K1 K2 hK1 hK2 => ?_); simp [*]; try ((refine Br.intro (fun hc => ?_) (fun hc => ?_)) <;> (try simp at hc))) | (with_reducible refine Cont.go (by assumption) _ ?_) | (with_reducible refine Cnt.go (by assumption) ?_))
          exact c6
      · have w8 : j = a.kids.length := by omega
        have w9 : a.kids.take j = a.kids := by rw [w8, List.take_length]
        have w10 : b.kids.take j = b.kids := by rw [w8, ← c2, List.take_length]
        rw [w9, w10] at g13
        have c6 : Hold (lkE a b x y d = true) := by unfold Hold at *; rw [he', g13]
        clear w9 w10
        repeat' (first | (with_reducible refine T.sq fun K hK => ?_) | ((first | ((with_reducible refine T.reg hE ?hd ?_); (case hd => kernel_rfl)) | ((with_reducible refine T.any hE mixed ?hd ?hok ?_); (case hd => kernel_rfl); (case hok => kernel_rfl))); simp [*]; (repeat' (split; all_goals (rename_i hc; try simp [*])))) | ((with_reducible refine T.ret ?_); refine fin_pure ?_; simp [*]; try (change Hold _)) | (with_reducible refine T.block ?_) | ((with_reducible refine T.skip ?_); simp [*]) | ((with_reducible refine T.exit ?_); simp [*]) | ((with_reducible refine T.br fun K1 K2 hK1 hK2 => ?_); simp [*]; try ((refine Br.intro (fun hc => ?_) (fun hc => ?_)) <;> (try simp at hc))) | (with_reducible refine Cont.go (by assumption) _ ?_) | (with_reducible refine Cnt.go (by assumption) ?_))
        exact c6
    · have c4' : ¬ (a.k = 7 ∨ a.k = 10) := by simpa [isQ] using c4
      by_cases c5 : b.i = a.i
      rotate_left
      · have c5' : ¬ a.i = b.i := fun h => c5 h.symm
        have he' : Hold (lkE a b x y d = false) := by unfold Hold; rw [he, if_neg c3, if_neg c4']; simp [c5']
        clear he
        repeat' (first | (with_reducible refine T.sq fun K hK => ?_) | ((first | ((with_reducible refine T.reg hE ?hd ?_); (case hd => kernel_rfl)) | ((with_reducible refine T.any hE mixed ?hd ?hok ?_); (case hd => kernel_rfl); (case hok => kernel_rfl))); simp [*]; (repeat' (split; all_goals (rename_i hc; try simp [*])))) | ((with_reducible refine T.ret ?_); refine fin_pure ?_; simp [*]; try (change Hold _)) | (with_reducible refine T.block ?_) | ((with_reducible refine T.skip ?_); simp [*]) | ((with_reducible refine T.exit ?_); simp [*]) | ((with_reducible refine T.br fun K1 K2 hK1 hK2 => ?_); simp [*]; try ((refine Br.intro (fun hc => ?_) (fun hc => ?_)) <;> (try simp at hc))) | (with_reducible refine Cont.go (by assumption) _ ?_) | (with_reducible refine Cnt.go (by assumption) ?_))
        all_goals exact he'
      have he' : Hold (lkE a b x y d = all2 (fun u v => lkE u v x y (d + 1)) a.kids b.kids) := by
        unfold Hold; rw [he, decide_eq_true c1.symm, decide_eq_true c2.symm, if_neg c3, if_neg c4', lkL_eq, decide_eq_true c5.symm]; rfl
      clear he
      repeat' (first | (with_reducible refine T.sq fun K hK => ?_) | ((first | ((with_reducible refine T.reg hE ?hd ?_); (case hd => kernel_rfl)) | ((with_reducible refine T.any hE mixed ?hd ?hok ?_); (case hd => kernel_rfl); (case hok => kernel_rfl))); simp [*]; (repeat' (split; all_goals (rename_i hc; try simp [*])))) | ((with_reducible refine T.ret ?_); refine fin_pure ?_; simp [*]; try (change Hold _)) | (with_reducible refine T.block ?_) | ((with_reducible refine T.skip ?_); simp [*]) | ((with_reducible refine T.exit ?_); simp [*]) | ((with_reducible refine T.br fun K1 K2 hK1 hK2 => ?_); simp [*]; try ((refine Br.intro (fun hc => ?_) (fun hc => ?_)) <;> (try simp at hc))) | (with_reducible refine Cont.go (by assumption) _ ?_) | (with_reducible refine Cnt.go (by assumption) ?_))
      refine T.len (t := 71) (els := encL a.kids) (tk := .no) (by simp [*]) fun hlen => ?_
      rw [encL_length] at hlen
      refine T.loop (fun n σ => ∃ j : Nat, n = a.kids.length - j ∧ σ.get 72 = .int .i64 a.kids.length ∧ σ.get 73 = .int .i64 j ∧ σ.get 4 = .int .i64 d ∧ σ.get 5 = .cptr (encC a) 0 ∧ σ.get 6 = .cptr (encC b) 0 ∧ σ.get 7 = .ptr (0 :: 9 :: q) 0 ∧ σ.get 8 = .ptr (0 :: 10 :: q) 0 ∧ σ.M (0 :: 9 :: q) = some (.cells (encA (x))) ∧ σ.M (0 :: 10 :: q) = some (.cells (encA (y))) ∧ j ≤ a.kids.length ∧ Hold (all2 (fun u v => lkE u v (x) (y) (d + 1)) (a.kids.take j) (b.kids.take j) = true)) a.kids.length ⟨0, by simp [*, encC_eq, Hold, all2]⟩ ?_
      rintro n σ ⟨j, rfl, g1, g2, g3, g4, g5, g6, g7, g10, g11, g12, g13⟩
      rw [encC_eq] at g4 g5
      by_cases hj : j < a.kids.length
      · have hj2 : j < b.kids.length := by omega
        have hw := wrap_succ hlen hj
        have hw2 : IntKind.i64.wrap (d + 1) = d + 1 := wrap64 (by omega) (by omega)
        have hs := ex_kid_lt a j hj
        have hdk := depE_kid (e := a) j hj
        have tx : (encA (x)).take 64 = encA (x) := List.take_of_length_le (by rw [encA_length]; exact Nat.le_of_eq (m3))
        have ty : (encA (y)).take 64 = encA (y) := List.take_of_length_le (by rw [encA_length]; exact Nat.le_of_eq (m4))
        have hok : okLk a.kids[j] b.kids[j] (x) (y) (d + 1) := ⟨allX_kid m1 j hj, allX_kid m2 j hj2, m3, m4, by omega, by omega⟩
        have c5 := all2_take (fun u v => lkE u v (x) (y) (d + 1)) a.kids b.kids j hj hj2
        by_cases v : lkE a.kids[j] b.kids[j] (x) (y) (d + 1) = true
        · have c6 : Hold (all2 (fun u v => lkE u v (x) (y) (d + 1)) (a.kids.take (j + 1)) (b.kids.take (j + 1)) = true) := by unfold Hold at *; rw [c5, g13, v]; rfl
          clear c5
          repeat' (first | (with_reducible refine T.sq fun K hK => ?_) | ((first | ((with_reducible refine T.reg hE ?hd ?_); (case hd => kernel_rfl)) | ((with_reducible refine T.any hE mixed ?hd ?hok ?_); (case hd => kernel_rfl); (case hok => kernel_rfl))); simp [*]; (repeat' (split; all_goals (rename_i hc; try simp [*])))) | ((with_reducible refine T.ret ?_); refine fin_pure ?_; simp [*]; try (change Hold _)) | (with_reducible refine T.block ?_) | ((with_reducible refine T.skip ?_); simp [*]) | ((with_reducible refine T.exit ?_); simp [*]) | ((with_reducible refine T.br fun K1 K2 hK1 hK2 => ?_); simp [*]; try ((refine Br.intro (fun hc => ?_) (fun hc => ?_)) <;> (try simp at hc))) | (with_reducible refine Cont.go (by assumption) _ ?_) | (with_reducible refine Cnt.go (by assumption) ?_))
          exact ⟨_, by omega, j + 1, rfl, by omega, by simp [encC_eq, *], by simp [encC_eq, *], by omega, c6⟩
        · rw [Bool.not_eq_true] at v
          have c6 : Hold (lkE a b x y d = false) := by unfold Hold at *; rw [he']; exact all2_false _ _ _ j hj hj2 v
          clear c5
          repeat' (first | (with_reducible refine T.sq fun K hK => ?_) | ((first | ((with_reducible refine T.reg hE ?hd ?_); (case hd => kernel_rfl)) | ((with_reducible refine T.any hE mixed ?hd ?hok ?_); (case hd => kernel_rfl); (case hok => kernel_rfl))); simp [*]; (repeat' (split; all_goals (rename_i hc; try simp [*])))) | ((with_reducible refine T.ret ?_); refine fin_pure ?_; simp [*]; try (change Hold _)) | (with_reducible refine T.block ?_) | ((with_reducible refine T.skip ?_); simp [*]) | ((with_reducible refine T.exit ?_); simp [*]) | ((with_reducible refine T.br fun K1 K2 hK1 hK2 => ?_); simp [*]; try ((refine Br.intro (fun hc => ?_) (fun hc => ?_)) <;> (try simp at hc))) | (with_reducible refine Cont.go (by assumption) _ ?_) | (with_reducible refine Cnt.go (by assumption) ?_))
          exact c6
      · have w8 : j = a.kids.length := by omega
        have w9 : a.kids.take j = a.kids := by rw [w8, List.take_length]
        have w10 : b.kids.take j = b.kids := by rw [w8, ← c2, List.take_length]
        rw [w9, w10] at g13
        have c6 : Hold (lkE a b x y d = true) := by unfold Hold at *; rw [he', g13]
        clear w9 w10
        repeat' (first | (with_reducible refine T.sq fun K hK => ?_) | ((first | ((with_reducible refine T.reg hE ?hd ?_); (case hd => kernel_rfl)) | ((with_reducible refine T.any hE mixed ?hd ?hok ?_); (case hd => kernel_rfl); (case hok => kernel_rfl))); simp [*]; (repeat' (split; all_goals (rename_i hc; try simp [*])))) | ((with_reducible refine T.ret ?_); refine fin_pure ?_; simp [*]; try (change Hold _)) | (with_reducible refine T.block ?_) | ((with_reducible refine T.skip ?_); simp [*]) | ((with_reducible refine T.exit ?_); simp [*]) | ((with_reducible refine T.br fun K1 K2 hK1 hK2 => ?_); simp [*]; try ((refine Br.intro (fun hc => ?_) (fun hc => ?_)) <;> (try simp at hc))) | (with_reducible refine Cont.go (by assumption) _ ?_) | (with_reducible refine Cnt.go (by assumption) ?_))
        exact c6
  · cases hr
end Go.Proofs.YtaacfmakfkaddaaDoor.Ax
