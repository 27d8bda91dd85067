/- Contracts: decoding; ExprDecodes, walked. -/
import Derived.Test.YtdpphpdjimmpbaaCxI
import Derived.Test.YtdpphpdjimmpbaaBxL
set_option linter.unusedVariables false
set_option linter.unusedSimpArgs false
namespace Go.Proofs.Ytdpphpdjimmpbaa.Ax
open Go Go.Proofs

def decR (b : List Int) : Int × Ex × Nat × Nat := rdE false b 1001 0 0
def decErr (b : List Int) : Int := if (decR b).1 ≠ 0 then (decR b).1 else if (decR b).2.2.1 < b.length then 23 else rightE (decR b).2.1
def decX (b : List Int) : Ex := if decErr b = 0 then (decR b).2.1 else ex0
theorem decErr_eq (b : List Int) : decErr b = if (rdE false b 1001 0 0).1 ≠ 0 then (rdE false b 1001 0 0).1 else if (rdE false b 1001 0 0).2.2.1 < b.length then 23 else rightE (rdE false b 1001 0 0).2.1 := rfl
theorem dec_good {b : List Int} (h : decErr b = 0) : decX b = (decR b).2.1 := by unfold decX; rw [if_pos h]
theorem dec_bad {b : List Int} {n : Int} (h : decErr b = n) (hn : n ≠ 0) : decX b = ex0 := by unfold decX; rw [h, if_neg hn]
@[simp] noncomputable def gDecode : List V → Option V := f1 (kIs .u8) fun b => if byt b then some (.tup [enc (decX b), .int .i64 (decErr b)]) else none
set_option maxHeartbeats 1000000 in
theorem ok_Decode : PureOk Try.prog 28 gDecode := by
  intro args r h
  obtain ⟨b, rfl, hr⟩ := f1_inv h; clear h
  split at hr
  · rename_i hm
    cases hr
    refine ⟨⟨Try.f28, Try.func28, by decide, rfl⟩, pure_of_T Try.func28 rfl (by simp [Try.ntmps28]) fun q => ?_⟩
    have hmem := ok_node (b := b) (ri := 0 :: 11 :: q) 1001
    have hE := (((EnvOk.nil (P := Try.prog) (eq := fun _ => false) (own := fun _ => false) (mem := fun f => f == 71) EqOk.none).addf ok_Right).addm hmem)
    refine T.len (t := 0) (els := encI .u8 b) (tk := .no) (by simp [*]) fun hlen => ?_
    rw [encI_length] at hlen
    have hok : okNd 1001 b (encI .u8 b) (0 :: 11 :: q) (0 :: 11 :: q) 0 := ⟨rfl, hm, ⟨0, by omega, rfl⟩, by omega, by omega, by omega⟩
    have hin := rdE_in true b 1001 0 0 (by omega) (by omega)
    have he := decErr_eq b
    have hg : Hold (decErr b = 0 → decX b = (rdE false b 1001 0 0).2.1) := dec_good
    obtain ⟨t1, t2⟩ := rdE_two b 1001 0 0
    by_cases c1 : (rdE true b 1001 0 0).1 = 0
    · rw [← t2 c1] at he hg
      generalize hR : rdE true b 1001 0 0 = R at *
      obtain ⟨e1, x1, p2, s2⟩ := R
      simp only at hin he hg c1
      subst c1
      clear t1 t2
      rw [if_neg (by simp)] at he
      by_cases c2 : p2 < b.length
      · rw [if_pos c2] at he
        have hx : Hold (decX b = ex0) := dec_bad he (by omega)
        have c2i : (0 : Int) < ((b.length - p2 : Nat) : Int) := by omega
        have c2n : 0 < b.length - p2 := by omega
        clear hg
        repeat' (first
          | (with_reducible refine T.sq fun K hK => ?_)
          | ((first | ((with_reducible refine T.reg hE ?hd ?_); (case hd => kernel_rfl)) | ((with_reducible refine T.any hE mixed ?hd ?hok ?_); (case hd => kernel_rfl); (case hok => kernel_rfl))); simp [*]; (repeat' (split; all_goals (rename_i hc; try simp [*]))))
          | ((with_reducible refine T.ret ?_); refine fin_pure ?_; simp [*]; try (change Hold _))
          | (with_reducible refine T.block ?_)
          | ((with_reducible refine T.skip ?_); simp [*])
          | ((with_reducible refine T.exit ?_); simp [*])
          | ((with_reducible refine T.br fun K1 K2 hK1 hK2 => ?_); simp [*]; try ((refine Br.intro (fun hc => ?_) (fun hc => ?_)) <;> (try simp at hc)))
          | (with_reducible refine Cont.go (by assumption) _ ?_)
          | (with_reducible refine Cnt.go (by assumption) ?_))
        all_goals (unfold Hold at *; rw [hx]; simp [ex0])
      · rw [if_neg c2] at he
        have c2n : b.length - p2 = 0 := by omega
        by_cases c3 : rightE x1 = 0
        · have hx : Hold (decX b = x1) := hg (by rw [he]; exact c3)
          clear hg
          repeat' (first
            | (with_reducible refine T.sq fun K hK => ?_)
            | ((first | ((with_reducible refine T.reg hE ?hd ?_); (case hd => kernel_rfl)) | ((with_reducible refine T.any hE mixed ?hd ?hok ?_); (case hd => kernel_rfl); (case hok => kernel_rfl))); simp [*]; (repeat' (split; all_goals (rename_i hc; try simp [*]))))
            | ((with_reducible refine T.ret ?_); refine fin_pure ?_; simp [*]; try (change Hold _))
            | (with_reducible refine T.block ?_)
            | ((with_reducible refine T.skip ?_); simp [*])
            | ((with_reducible refine T.exit ?_); simp [*])
            | ((with_reducible refine T.br fun K1 K2 hK1 hK2 => ?_); simp [*]; try ((refine Br.intro (fun hc => ?_) (fun hc => ?_)) <;> (try simp at hc)))
            | (with_reducible refine Cont.go (by assumption) _ ?_)
            | (with_reducible refine Cnt.go (by assumption) ?_))
          all_goals (unfold Hold at *; rw [hx]; simp)
        · have hx : Hold (decX b = ex0) := dec_bad he c3
          clear hg
          repeat' (first
            | (with_reducible refine T.sq fun K hK => ?_)
            | ((first | ((with_reducible refine T.reg hE ?hd ?_); (case hd => kernel_rfl)) | ((with_reducible refine T.any hE mixed ?hd ?hok ?_); (case hd => kernel_rfl); (case hok => kernel_rfl))); simp [*]; (repeat' (split; all_goals (rename_i hc; try simp [*]))))
            | ((with_reducible refine T.ret ?_); refine fin_pure ?_; simp [*]; try (change Hold _))
            | (with_reducible refine T.block ?_)
            | ((with_reducible refine T.skip ?_); simp [*])
            | ((with_reducible refine T.exit ?_); simp [*])
            | ((with_reducible refine T.br fun K1 K2 hK1 hK2 => ?_); simp [*]; try ((refine Br.intro (fun hc => ?_) (fun hc => ?_)) <;> (try simp at hc)))
            | (with_reducible refine Cont.go (by assumption) _ ?_)
            | (with_reducible refine Cnt.go (by assumption) ?_))
          all_goals (unfold Hold at *; rw [hx]; simp [ex0])
    · rw [t1] at c1
      rw [if_pos c1, ← t1] at he
      rw [← t1] at c1
      generalize hR : rdE true b 1001 0 0 = R at *
      obtain ⟨e1, x1, p2, s2⟩ := R
      simp only at hin he c1
      clear t1 t2 hg
      have hx : Hold (decX b = ex0) := dec_bad he c1
      repeat' (first
        | (with_reducible refine T.sq fun K hK => ?_)
        | ((first | ((with_reducible refine T.reg hE ?hd ?_); (case hd => kernel_rfl)) | ((with_reducible refine T.any hE mixed ?hd ?hok ?_); (case hd => kernel_rfl); (case hok => kernel_rfl))); simp [*]; (repeat' (split; all_goals (rename_i hc; try simp [*]))))
        | ((with_reducible refine T.ret ?_); refine fin_pure ?_; simp [*]; try (change Hold _))
        | (with_reducible refine T.block ?_)
        | ((with_reducible refine T.skip ?_); simp [*])
        | ((with_reducible refine T.exit ?_); simp [*])
        | ((with_reducible refine T.br fun K1 K2 hK1 hK2 => ?_); simp [*]; try ((refine Br.intro (fun hc => ?_) (fun hc => ?_)) <;> (try simp at hc)))
        | (with_reducible refine Cont.go (by assumption) _ ?_)
        | (with_reducible refine Cnt.go (by assumption) ?_))
      all_goals (unfold Hold at *; rw [hx]; simp [ex0])
  · cases hr
theorem byt_of {l : List Int} {k : Nat} (h : (∀ n ∈ l, inK .u8 n) ∧ l.length ≤ k) : byt l := fun c hc => by
  have := h.1 c hc
  simp [inK, IntKind.min, IntKind.max, IntKind.signed, IntKind.bits] at this
  omega
end Go.Proofs.Ytdpphpdjimmpbaa.Ax
