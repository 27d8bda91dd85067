/- Contracts: one plain form; detachment; RuleEquals and RuleDetaches, walked. -/
import Derived.Test.YtibfdebhbibfpaaGreatBxZ
import Derived.Test.YtibfdebhbibfpaaGreatBxO
set_option linter.unusedVariables false
set_option linter.unusedSimpArgs false
namespace Go.Proofs.YtibfdebhbibfpaaGreat.Ax
open Go Go.Proofs

def eqErr (a b : Ex) : Int := if bothE a b ≠ 0 then bothE a b else if plainErr a ≠ 0 then plainErr a else plainErr b
def eqB (a b : Ex) : Bool := decide (eqErr a b = 0) && decide (ordE (plainX a) (plainX b) = 0)
@[simp] def gEqual : List V → Option V := f2 kE kE fun a b => some (.tup [.bool (eqB a b), .int .i64 (eqErr a b)])
/-- The sorts of a list against a string: t a term. -/
def sortsOk : List Ex → List UInt8 → Bool
  | [], _ => true
  | e :: l, [] => true
  | e :: l, c :: s => (isT e == decide (c = 116)) && sortsOk l s
theorem sorts_drop (l : List Ex) (s : List UInt8) (j : Nat) (h : j < l.length) (hs : j < s.length) : sortsOk (l.drop j) (s.drop j) = ((isT l[j] == decide (s[j] = 116)) && sortsOk (l.drop (j + 1)) (s.drop (j + 1))) := by
  rw [List.drop_eq_getElem_cons h, List.drop_eq_getElem_cons hs, sortsOk]
def sortE (l : List Ex) (s : ByteArray) : Int := if firstBad l ≠ 0 then firstBad l else if sortsOk l s.data.toList = true then 0 else 40
@[simp] def gSorted : List V → Option V := f2 kL kS fun l s => if s.size = l.length then some (.int .i64 (sortE l s)) else none
set_option maxHeartbeats 1000000 in
theorem ok_rSorted : PureOk Tryz.prog 47 gSorted := by
  intro args r h
  obtain ⟨l, s, rfl, hr⟩ := f2_inv h; clear h
  split at hr
  · rename_i hsz
    cases hr
    have hE := (((EnvOk.nil (P := Tryz.prog) (eq := fun _ => false) (own := fun _ => false) (mem := fun _ => false) EqOk.none).addf ok_rRight).addf ok_rTerm)
    refine ⟨⟨Tryz.f47, Tryz.func47, by decide, rfl⟩, pure_of_T Tryz.func47 rfl (by simp [Tryz.ntmps47]) fun q => ?_⟩
    repeat' (first | (with_reducible refine T.sq fun K hK => ?_) | ((first | ((with_reducible refine T.reg hE ?hd ?_); (case hd => kernel_rfl)) | ((with_reducible refine T.any hE mixed ?hd ?hok ?_); (case hd => kernel_rfl); (case hok => kernel_rfl))); simp [*]; (repeat' (split; all_goals (rename_i hc; try simp [*])))) | ((with_reducible refine T.ret ?_); refine fin_pure ?_; simp [*]; try (change Hold _)) | (with_reducible refine T.block ?_) | ((with_reducible refine T.skip ?_); simp [*]) | ((with_reducible refine T.exit ?_); simp [*]) | ((with_reducible refine T.br fun K1 K2 hK1 hK2 => ?_); simp [*]; try ((refine Br.intro (fun hc => ?_) (fun hc => ?_)) <;> (try simp at hc))) | (with_reducible refine Cont.go (by assumption) _ ?_) | (with_reducible refine Cnt.go (by assumption) ?_))
    refine T.len (t := 9) (els := encL l) (tk := .no) (by simp [*]) fun hlen => ?_
    rw [encL_length] at hlen
    refine T.loop (fun n σ => ∃ j : Nat, n = l.length - j ∧ σ.get 0 = .sl (encL l) .no ∧ σ.get 1 = .str s ∧ σ.get 9 = .sl (encL l) .no ∧ σ.get 10 = .int .i64 l.length ∧ σ.get 11 = .int .i64 j ∧ j ≤ l.length ∧ Hold (firstBad l = firstBad (l.drop j))) l.length ⟨0, by simp [Hold]⟩ ?_
    rintro n σ ⟨j, rfl, g1, g1s, g2, g3, g4, g5, g6⟩
    by_cases hj : j < l.length
    · have hw := wrap_succ hlen hj
      have hd := firstBad_drop l j hj
      by_cases v : rightE l[j] = 0
      · rw [if_neg (by omega)] at hd
        have hn : Hold (firstBad l = firstBad (l.drop (j + 1))) := by unfold Hold at *; rw [g6, hd]
        clear g6 hd
        repeat' (first | (with_reducible refine T.sq fun K hK => ?_) | ((first | ((with_reducible refine T.reg hE ?hd ?_); (case hd => kernel_rfl)) | ((with_reducible refine T.any hE mixed ?hd ?hok ?_); (case hd => kernel_rfl); (case hok => kernel_rfl))); simp [*]; (repeat' (split; all_goals (rename_i hc; try simp [*])))) | ((with_reducible refine T.ret ?_); refine fin_pure ?_; simp [*]; try (change Hold _)) | (with_reducible refine T.block ?_) | ((with_reducible refine T.skip ?_); simp [*]) | ((with_reducible refine T.exit ?_); simp [*]) | ((with_reducible refine T.br fun K1 K2 hK1 hK2 => ?_); simp [*]; try ((refine Br.intro (fun hc => ?_) (fun hc => ?_)) <;> (try simp at hc))) | (with_reducible refine Cont.go (by assumption) _ ?_) | (with_reducible refine Cnt.go (by assumption) ?_))
        exact ⟨l.length - (j + 1), by omega, j + 1, rfl, by omega, by omega, hn⟩
      · rw [if_pos v] at hd
        have hn : Hold (sortE l s = rightE l[j]) := by unfold Hold at *; unfold sortE; rw [g6, hd, if_pos v]
        clear g6 hd
        repeat' (first | (with_reducible refine T.sq fun K hK => ?_) | ((first | ((with_reducible refine T.reg hE ?hd ?_); (case hd => kernel_rfl)) | ((with_reducible refine T.any hE mixed ?hd ?hok ?_); (case hd => kernel_rfl); (case hok => kernel_rfl))); simp [*]; (repeat' (split; all_goals (rename_i hc; try simp [*])))) | ((with_reducible refine T.ret ?_); refine fin_pure ?_; simp [*]; try (change Hold _)) | (with_reducible refine T.block ?_) | ((with_reducible refine T.skip ?_); simp [*]) | ((with_reducible refine T.exit ?_); simp [*]) | ((with_reducible refine T.br fun K1 K2 hK1 hK2 => ?_); simp [*]; try ((refine Br.intro (fun hc => ?_) (fun hc => ?_)) <;> (try simp at hc))) | (with_reducible refine Cont.go (by assumption) _ ?_) | (with_reducible refine Cnt.go (by assumption) ?_))
        all_goals (unfold Hold at *; rw [hn])
    · have w8 : j = l.length := by omega
      have h0 : firstBad l = 0 := by unfold Hold at g6; rw [g6, w8, List.drop_length]; rfl
      have hf : Hold (sortE l s = if sortsOk l s.data.toList = true then 0 else 40) := by unfold Hold sortE; rw [if_neg (by omega)]
      clear g6 w8 g5 h0
      repeat' (first | (with_reducible refine T.sq fun K hK => ?_) | ((first | ((with_reducible refine T.reg hE ?hd ?_); (case hd => kernel_rfl)) | ((with_reducible refine T.any hE mixed ?hd ?hok ?_); (case hd => kernel_rfl); (case hok => kernel_rfl))); simp [*]; (repeat' (split; all_goals (rename_i hc; try simp [*])))) | ((with_reducible refine T.ret ?_); refine fin_pure ?_; simp [*]; try (change Hold _)) | (with_reducible refine T.block ?_) | ((with_reducible refine T.skip ?_); simp [*]) | ((with_reducible refine T.exit ?_); simp [*]) | ((with_reducible refine T.br fun K1 K2 hK1 hK2 => ?_); simp [*]; try ((refine Br.intro (fun hc => ?_) (fun hc => ?_)) <;> (try simp at hc))) | (with_reducible refine Cont.go (by assumption) _ ?_) | (with_reducible refine Cnt.go (by assumption) ?_))
      refine T.loop (fun n σ => ∃ j : Nat, n = l.length - j ∧ σ.get 1 = .str s ∧ σ.get 21 = .sl (encL l) .no ∧ σ.get 22 = .int .i64 l.length ∧ σ.get 23 = .int .i64 j ∧ j ≤ l.length ∧ Hold (sortsOk l s.data.toList = sortsOk (l.drop j) (s.data.toList.drop j))) l.length ⟨0, by simp [*, Hold]⟩ ?_
      clear g1 g2 g3 g4 hj g1s
      rintro n σ ⟨j, rfl, g1s, g1, g2, g3, g4, g5⟩
      by_cases hj : j < l.length
      · have hw := wrap_succ hlen hj
        have hjs : j < s.data.toList.length := by have h2 : s.data.size = l.length := hsz; rw [Array.length_toList]; omega
        have hby : byteAt s (j : Int) = some s.data.toList[j] := by
          have h1 : j < s.size := by omega
          unfold byteAt
          simp [h1]
          rfl
        have hsd := sorts_drop l s.data.toList j hj hjs
        generalize hc : s.data.toList[j] = c at *
        have hcc : Hold ((c.toNat : Int) = 116 ↔ c = 116) := ⟨fun h => UInt8.toNat_inj.1 (by simpa using Int.ofNat_inj.1 h), fun h => by rw [h]; rfl⟩
        by_cases v : isT l[j] = decide (c = 116)
        · have hn : Hold (sortsOk l s.data.toList = sortsOk (l.drop (j + 1)) (s.data.toList.drop (j + 1))) := by unfold Hold at *; rw [g5, hsd, v]; simp
          clear hsd g5
          by_cases u : c = 116
          · subst u
            have hv : isT l[j] = true := by rw [v]; rfl
            clear v hcc
            repeat' (first | (with_reducible refine T.sq fun K hK => ?_) | ((first | ((with_reducible refine T.reg hE ?hd ?_); (case hd => kernel_rfl)) | ((with_reducible refine T.any hE mixed ?hd ?hok ?_); (case hd => kernel_rfl); (case hok => kernel_rfl))); simp [*]; (repeat' (split; all_goals (rename_i hc; try simp [*])))) | ((with_reducible refine T.ret ?_); refine fin_pure ?_; simp [*]; try (change Hold _)) | (with_reducible refine T.block ?_) | ((with_reducible refine T.skip ?_); simp [*]) | ((with_reducible refine T.exit ?_); simp [*]) | ((with_reducible refine T.br fun K1 K2 hK1 hK2 => ?_); simp [*]; try ((refine Br.intro (fun hc => ?_) (fun hc => ?_)) <;> (try simp at hc))) | (with_reducible refine Cont.go (by assumption) _ ?_) | (with_reducible refine Cnt.go (by assumption) ?_))
            exact ⟨l.length - (j + 1), by omega, j + 1, rfl, by omega, by omega, hn⟩
          · have hv : isT l[j] = false := by rw [v]; simp [u]
            have hu : ¬ (c.toNat : Int) = 116 := fun h => u (hcc.1 h)
            clear v hcc u
            repeat' (first | (with_reducible refine T.sq fun K hK => ?_) | ((first | ((with_reducible refine T.reg hE ?hd ?_); (case hd => kernel_rfl)) | ((with_reducible refine T.any hE mixed ?hd ?hok ?_); (case hd => kernel_rfl); (case hok => kernel_rfl))); simp [*]; (repeat' (split; all_goals (rename_i hc; try simp [*])))) | ((with_reducible refine T.ret ?_); refine fin_pure ?_; simp [*]; try (change Hold _)) | (with_reducible refine T.block ?_) | ((with_reducible refine T.skip ?_); simp [*]) | ((with_reducible refine T.exit ?_); simp [*]) | ((with_reducible refine T.br fun K1 K2 hK1 hK2 => ?_); simp [*]; try ((refine Br.intro (fun hc => ?_) (fun hc => ?_)) <;> (try simp at hc))) | (with_reducible refine Cont.go (by assumption) _ ?_) | (with_reducible refine Cnt.go (by assumption) ?_))
            exact ⟨l.length - (j + 1), by omega, j + 1, rfl, by omega, by omega, hn⟩
        · have hn : Hold (sortE l s = 40) := by
            unfold Hold at *
            rw [hf, g5, hsd]
            have : (isT l[j] == decide (c = 116)) = false := by simpa using v
            rw [this]; rfl
          clear hsd g5
          by_cases u : c = 116
          · subst u
            have hv : isT l[j] = false := by simpa using v
            clear v hcc
            repeat' (first | (with_reducible refine T.sq fun K hK => ?_) | ((first | ((with_reducible refine T.reg hE ?hd ?_); (case hd => kernel_rfl)) | ((with_reducible refine T.any hE mixed ?hd ?hok ?_); (case hd => kernel_rfl); (case hok => kernel_rfl))); simp [*]; (repeat' (split; all_goals (rename_i hc; try simp [*])))) | ((with_reducible refine T.ret ?_); refine fin_pure ?_; simp [*]; try (change Hold _)) | (with_reducible refine T.block ?_) | ((with_reducible refine T.skip ?_); simp [*]) | ((with_reducible refine T.exit ?_); simp [*]) | ((with_reducible refine T.br fun K1 K2 hK1 hK2 => ?_); simp [*]; try ((refine Br.intro (fun hc => ?_) (fun hc => ?_)) <;> (try simp at hc))) | (with_reducible refine Cont.go (by assumption) _ ?_) | (with_reducible refine Cnt.go (by assumption) ?_))
            all_goals (unfold Hold at *; rw [hn])
          · have hv : isT l[j] = true := by simpa [u] using v
            have hu : ¬ (c.toNat : Int) = 116 := fun h => u (hcc.1 h)
            clear v hcc u
            repeat' (first | (with_reducible refine T.sq fun K hK => ?_) | ((first | ((with_reducible refine T.reg hE ?hd ?_); (case hd => kernel_rfl)) | ((with_reducible refine T.any hE mixed ?hd ?hok ?_); (case hd => kernel_rfl); (case hok => kernel_rfl))); simp [*]; (repeat' (split; all_goals (rename_i hc; try simp [*])))) | ((with_reducible refine T.ret ?_); refine fin_pure ?_; simp [*]; try (change Hold _)) | (with_reducible refine T.block ?_) | ((with_reducible refine T.skip ?_); simp [*]) | ((with_reducible refine T.exit ?_); simp [*]) | ((with_reducible refine T.br fun K1 K2 hK1 hK2 => ?_); simp [*]; try ((refine Br.intro (fun hc => ?_) (fun hc => ?_)) <;> (try simp at hc))) | (with_reducible refine Cont.go (by assumption) _ ?_) | (with_reducible refine Cnt.go (by assumption) ?_))
            all_goals (unfold Hold at *; rw [hn])
      · have w8 : j = l.length := by omega
        have hn : Hold (sortE l s = 0) := by
          unfold Hold at *
          rw [hf, g5, w8, List.drop_length, sortsOk]; rfl
        clear g5
        repeat' (first | (with_reducible refine T.sq fun K hK => ?_) | ((first | ((with_reducible refine T.reg hE ?hd ?_); (case hd => kernel_rfl)) | ((with_reducible refine T.any hE mixed ?hd ?hok ?_); (case hd => kernel_rfl); (case hok => kernel_rfl))); simp [*]; (repeat' (split; all_goals (rename_i hc; try simp [*])))) | ((with_reducible refine T.ret ?_); refine fin_pure ?_; simp [*]; try (change Hold _)) | (with_reducible refine T.block ?_) | ((with_reducible refine T.skip ?_); simp [*]) | ((with_reducible refine T.exit ?_); simp [*]) | ((with_reducible refine T.br fun K1 K2 hK1 hK2 => ?_); simp [*]; try ((refine Br.intro (fun hc => ?_) (fun hc => ?_)) <;> (try simp at hc))) | (with_reducible refine Cont.go (by assumption) _ ?_) | (with_reducible refine Cnt.go (by assumption) ?_))
        all_goals (unfold Hold at *; rw [hn])
  · cases hr

def detErr (a b : Ex) : Int := if formsE [a, b] ≠ 0 then formsE [a, b] else if b.k = 6 ∧ ordE a (b.kids.getD 0 ex0) = 0 then 0 else 80
def detX (a b : Ex) : Ex := if detErr a b = 0 then b.kids.getD 1 ex0 else ex0
@[simp] def gDetach : List V → Option V := f2 kE kE fun a b => some (.tup [enc (detX a b), .int .i64 (detErr a b)])
theorem right_kid' {e k : Ex} (h : rightE e = 0) (hk : k ∈ e.kids) : rightE k = 0 := by
  obtain ⟨z1, z2, z3⟩ := right_zero h
  obtain ⟨j, hj, rfl⟩ := List.getElem_of_mem hk
  have h1 := cntE_kid (e := e) j hj
  have h2 := depE_kid (e := e) j hj
  rw [nodesN_eq] at z1
  exact right_of (by rw [nodesN_eq]; omega) (by omega) (allX_kids z3 _ hk)
end Go.Proofs.YtibfdebhbibfpaaGreat.Ax
