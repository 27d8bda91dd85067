/- Contracts: terms put in, by the program; what is wrong with them. -/
import Derived.Test.YtibfdebhbibfpaaGreatCxS
set_option linter.unusedVariables false
set_option linter.unusedSimpArgs false
namespace Go.Proofs.YtibfdebhbibfpaaGreat.Ax
open Go Go.Proofs

def ffL (a : Ex) (l : List (Int × Ex)) : Bool := l.all fun p => ffB p.2 p.1 a
theorem ffL_take (a : Ex) (l : List (Int × Ex)) (j : Nat) (h : j < l.length) : ffL a (l.take (j + 1)) = (ffL a (l.take j) && ffB l[j].2 l[j].1 a) := all_take_succ l _ j h
theorem ffL_bad {a : Ex} {l : List (Int × Ex)} {j : Nat} (h : j < l.length) (hb : ffB l[j].2 l[j].1 a = false) : ffL a l = false := List.all_eq_false.2 ⟨l[j], List.getElem_mem h, by simp [hb]⟩
def plV (a : Ex) (l : List (Int × Ex)) : V := if ffL a l = true then frV (psF (lkF l) a) else .tup [enc ex0, .int .i64 50]
def okPL (a : Ex) (l : List (Int × Ex)) : Prop := allX a = true ∧ VarsP l
noncomputable instance (a : Ex) (l : List (Int × Ex)) : Decidable (okPL a l) := Classical.propDecidable _
@[simp] noncomputable def gPutL : List V → Option V := f2 kE (kRs rPair) fun a l => if okPL a l then some (plV a l) else none
theorem zero_er : (List.replicate 64 [V.int .i64 0, V.int .i64 0, V.nils]).flatten.map V.er = encXs zeroX := by
  have h : ∀ n : Nat, (List.replicate n [V.int .i64 0, V.int .i64 0, V.nils]).flatten.map V.er = encXs (List.replicate n ex0) := by
    intro n
    induction n with
    | zero => rfl
    | succ n ih => rw [List.replicate_succ, List.replicate_succ, List.flatten_cons, List.map_append, ih, encXs_cons]; rfl
  exact h 64
set_option maxHeartbeats 4000000 in
theorem ok_putL : PureOk Tryz.prog 200 gPutL := by
  intro args r h
  obtain ⟨a, l, rfl, hr⟩ := f2_inv h; clear h
  split at hr
  · rename_i hm
    obtain ⟨ha, hv⟩ := hm
    cases hr
    have hsl := setN_lt l
    have hE := ((((EnvOk.nil (P := Tryz.prog) (eq := fun _ => false) (own := fun _ => false) (mem := fun f => f == 215) EqOk.none).addf ok_FreeFor).addf ok_bounded).addm ok_tput)
    refine ⟨⟨Tryz.f200, Tryz.func200, by decide, rfl⟩, pure_of_T Tryz.func200 rfl (by simp [Tryz.ntmps200]) fun q => ?_⟩
    refine T.len (t := 1) (els := rPair.encL l) (tk := .no) (by simp [*]) fun hlen => ?_
    rw [Rw.encL_length] at hlen
    repeat' (first | (with_reducible refine T.sq fun K hK => ?_) | ((first | ((with_reducible refine T.reg hE ?hd ?_); (case hd => kernel_rfl)) | ((with_reducible refine T.any hE mixed ?hd ?hok ?_); (case hd => kernel_rfl); (case hok => kernel_rfl))); simp [*]; (repeat' (split; all_goals (rename_i hc; try simp [*])))) | ((with_reducible refine T.ret ?_); refine fin_pure ?_; simp [*]; try (change Hold _)) | (with_reducible refine T.block ?_) | ((with_reducible refine T.skip ?_); simp [*]) | ((with_reducible refine T.exit ?_); simp [*]) | ((with_reducible refine T.br fun K1 K2 hK1 hK2 => ?_); simp [*]; try ((refine Br.intro (fun hc => ?_) (fun hc => ?_)) <;> (try simp at hc))) | (with_reducible refine Cont.go (by assumption) _ ?_) | (with_reducible refine Cnt.go (by assumption) ?_))
    refine T.loop (fun n σ => ∃ j : Nat, n = l.length - j ∧ σ.get 1 = .sl (rPair.encL l) .no ∧ σ.get 2 = .ptr (0 :: 4 :: q) 0 ∧ σ.M (0 :: 4 :: q) = some (.cells (encC a)) ∧ σ.get 4 = .ptr (0 :: 6 :: q) 0 ∧ (∃ c0 c1 c2, σ.M (0 :: 6 :: q) = some (.cells [c0, c1, c2])) ∧ σ.get 13 = .sl (rPair.encL l) .no ∧ σ.get 14 = .int .i64 l.length ∧ σ.get 15 = .int .i64 j ∧ j ≤ l.length ∧ σ.cnt 35 = 0 ∧ Hold (ffL a (l.take j) = true)) l.length ⟨0, by simp [*, Hold, ffL, encC_eq]⟩ ?_
    rintro n σ ⟨j, rfl, g1, g2, m1, g3, ⟨c0, c1, c2, m2⟩, g4, g5, g6, g7, g8, g9⟩
    rw [encC_eq] at m1
    by_cases hj : j < l.length
    · have hw : IntKind.i64.wrap ((j : Int) + 1) = (j : Int) + 1 := wrap64 (by omega) (by omega)
      have ht := ffL_take a l j hj
      by_cases c : ffB l[j].2 l[j].1 a = true
      · have hn : Hold (ffL a (l.take (j + 1)) = true) := by unfold Hold at *; rw [ht, g9, c]; rfl
        clear ht
        repeat' (first | (with_reducible refine T.sq fun K hK => ?_) | ((first | ((with_reducible refine T.reg hE ?hd ?_); (case hd => kernel_rfl)) | ((with_reducible refine T.any hE mixed ?hd ?hok ?_); (case hd => kernel_rfl); (case hok => kernel_rfl))); simp [*]; (repeat' (split; all_goals (rename_i hc; try simp [*])))) | ((with_reducible refine T.ret ?_); refine fin_pure ?_; simp [*]; try (change Hold _)) | (with_reducible refine T.block ?_) | ((with_reducible refine T.skip ?_); simp [*]) | ((with_reducible refine T.exit ?_); simp [*]) | ((with_reducible refine T.br fun K1 K2 hK1 hK2 => ?_); simp [*]; try ((refine Br.intro (fun hc => ?_) (fun hc => ?_)) <;> (try simp at hc))) | (with_reducible refine Cont.go (by assumption) _ ?_) | (with_reducible refine Cnt.go (by assumption) ?_))
        exact ⟨_, by omega, j + 1, rfl, by simp [encC_eq], by omega, by omega, hn⟩
      · rw [Bool.not_eq_true] at c
        have hn : Hold (plV a l = .tup [enc ex0, .int .i64 50]) := by unfold Hold plV; rw [ffL_bad hj c]; rfl
        clear ht
        repeat' (first | (with_reducible refine T.sq fun K hK => ?_) | ((first | ((with_reducible refine T.reg hE ?hd ?_); (case hd => kernel_rfl)) | ((with_reducible refine T.any hE mixed ?hd ?hok ?_); (case hd => kernel_rfl); (case hok => kernel_rfl))); simp [*]; (repeat' (split; all_goals (rename_i hc; try simp [*])))) | ((with_reducible refine T.ret ?_); refine fin_pure ?_; simp [*]; try (change Hold _)) | (with_reducible refine T.block ?_) | ((with_reducible refine T.skip ?_); simp [*]) | ((with_reducible refine T.exit ?_); simp [*]) | ((with_reducible refine T.br fun K1 K2 hK1 hK2 => ?_); simp [*]; try ((refine Br.intro (fun hc => ?_) (fun hc => ?_)) <;> (try simp at hc))) | (with_reducible refine Cont.go (by assumption) _ ?_) | (with_reducible refine Cnt.go (by assumption) ?_))
        all_goals (unfold Hold at *; rw [hn]; simp [ex0])
    · have w8 : j = l.length := by omega
      have hn : Hold (plV a l = frV (psF (lkF l) a)) := by unfold Hold plV at *; rw [w8, List.take_length] at g9; rw [g9]; rfl
      clear g9
      repeat' (first | (with_reducible refine T.sq fun K hK => ?_) | ((first | ((with_reducible refine T.reg hE ?hd ?_); (case hd => kernel_rfl)) | ((with_reducible refine T.any hE mixed ?hd ?hok ?_); (case hd => kernel_rfl); (case hok => kernel_rfl))); simp [*]; (repeat' (split; all_goals (rename_i hc; try simp [*])))) | ((with_reducible refine T.ret ?_); refine fin_pure ?_; simp [*]; try (change Hold _)) | (with_reducible refine T.block ?_) | ((with_reducible refine T.skip ?_); simp [*]) | ((with_reducible refine T.exit ?_); simp [*]) | ((with_reducible refine T.br fun K1 K2 hK1 hK2 => ?_); simp [*]; try ((refine Br.intro (fun hc => ?_) (fun hc => ?_)) <;> (try simp at hc))) | (with_reducible refine Cont.go (by assumption) _ ?_) | (with_reducible refine Cnt.go (by assumption) ?_))
      refine T.loop (fun n σ => ∃ (j : Nat) (rest : List V), n = l.length - j ∧ σ.get 2 = .ptr (0 :: 4 :: q) 0 ∧ σ.M (0 :: 4 :: q) = some (.cells (encC a)) ∧ σ.get 4 = .ptr (0 :: 6 :: q) 0 ∧ (∃ c0 c1 c2, σ.M (0 :: 6 :: q) = some (.cells [c0, c1, c2])) ∧ σ.get 10 = .ptr (0 :: 35 :: q) 0 ∧ σ.M (0 :: 35 :: q) = some (.cells (.int .u64 (setN (l.take j) : Nat) :: rest)) ∧ σ.get 34 = .sl (rPair.encL l) .no ∧ σ.get 35 = .int .i64 l.length ∧ σ.get 36 = .int .i64 j ∧ j ≤ l.length ∧ Hold (rest.length = 192 ∧ rest.map V.er = encXs (tabX (l.take j)))) l.length ?hinit ?hstep
      case hinit =>
        refine ⟨0, (List.replicate 64 [V.int .i64 0, V.int .i64 0, V.nils]).flatten, by omega, by simp [*], by simp [*, encC_eq], by simp [*], ⟨c0, c1, c2, by simp [*]⟩, by simp [*], ?_, by simp [*], by simp [*], by simp [*], by omega, by rfl, ?_⟩
        · simp [setN, g8]
        · rw [List.take_zero]; exact zero_er
      case hstep =>
        clear g1 g2 g3 g4 g5 g6 g7 g8 m1 m2 hj
        rintro n σ ⟨j, rest, rfl, g2, m1, g3, ⟨c0, c1, c2, m2⟩, g10, m3, g4, g5, g6, g7, g8⟩
        rw [encC_eq] at m1
        obtain ⟨hr1, hr2⟩ := g8
        by_cases hj : j < l.length
        · have hw : IntKind.i64.wrap ((j : Int) + 1) = (j : Int) + 1 := wrap64 (by omega) (by omega)
          have hp := hv.1 l[j] (List.getElem_mem hj)
          have hsj := setN_lt (l.take j)
          have hok : okTP (setN (l.take j) : Nat) rest l[j].1 := ⟨u64_nat hsj, hr1, hp⟩
          have hsn : Hold (setN (l.take (j + 1)) = withN (setN (l.take j)) l[j].1) := by unfold Hold; rw [List.take_add_one, List.getElem?_eq_getElem hj]; exact setN_snoc _ _
          have htn : Hold (tabX (l.take (j + 1)) = (tabX (l.take j)).set l[j].1.toNat l[j].2) := by unfold Hold; rw [List.take_add_one, List.getElem?_eq_getElem hj]; exact tabX_snoc _ _
          have her := er_put hr2 (withN (setN (l.take j)) l[j].1 : Nat) l[j].1.toNat l[j].2 (by rw [tabX_len]; omega)
          obtain ⟨r2, e1, e2⟩ := put_len (u := (withN (setN (l.take j)) l[j].1 : Nat)) (e := l[j].2) (m := l[j].1.toNat) hr1 (by omega)
          rw [e1] at her
          have her2 : Hold (r2.map V.er = encXs ((tabX (l.take j)).set l[j].1.toNat l[j].2)) := by rw [List.map_cons] at her; exact (List.cons.inj her).2
          have e3 : Hold (List.take (1 + l[j].1.toNat * 3) (V.int .u64 (withN (setN (l.take j)) l[j].1 : Nat) :: rest) ++ V.int .i64 l[j].2.k :: V.int .i64 l[j].2.i :: V.sl (encL l[j].2.kids) .no :: List.drop (1 + l[j].1.toNat * 3 + 2) rest = .int .u64 (withN (setN (l.take j)) l[j].1 : Nat) :: r2) := by
            unfold Hold; rw [← e1]; simp [Ax.splice]
          have e4 : Hold (r2.length = 192) := e2
          clear her hr1 hr2 e1 e2
          repeat' (first | (with_reducible refine T.sq fun K hK => ?_) | ((first | ((with_reducible refine T.reg hE ?hd ?_); (case hd => kernel_rfl)) | ((with_reducible refine T.any hE mixed ?hd ?hok ?_); (case hd => kernel_rfl); (case hok => kernel_rfl))); simp [*]; (repeat' (split; all_goals (rename_i hc; try simp [*])))) | ((with_reducible refine T.ret ?_); refine fin_pure ?_; simp [*]; try (change Hold _)) | (with_reducible refine T.block ?_) | ((with_reducible refine T.skip ?_); simp [*]) | ((with_reducible refine T.exit ?_); simp [*]) | ((with_reducible refine T.br fun K1 K2 hK1 hK2 => ?_); simp [*]; try ((refine Br.intro (fun hc => ?_) (fun hc => ?_)) <;> (try simp at hc))) | (with_reducible refine Cont.go (by assumption) _ ?_) | (with_reducible refine Cnt.go (by assumption) ?_))
          unfold Hold at *
          exact ⟨l.length - (j + 1), by omega, j + 1, rfl, by simp [encC_eq], r2, by rw [hsn]; exact e3, by omega, by omega, e4, by rw [htn]; exact her2⟩
        · have w8 : j = l.length := by omega
          have hds : (V.int .u64 (setN (l.take j) : Nat) :: rest).map V.er = .int .u64 (setN l : Nat) :: encXs (tabX l) := by
            rw [w8, List.take_length] at hr2 ⊢
            rw [List.map_cons, hr2]; rfl
          have htf := tab_fun hv
          have hok : okIn a (setN l : Nat) (tabX l) 0 := ⟨ha, u64_nat hsl, tabX_len l, ⟨by omega, by omega⟩⟩
          refine T.frzE 10 (by decide) g10 m3 hds ?_
          clear hds hr1 hr2
          by_cases v : rightE (psF (lkF l) a) = 0
          · have hfv := frV_good v
            repeat' (first | (with_reducible refine T.sq fun K hK => ?_) | ((first | ((with_reducible refine T.reg hE ?hd ?_); (case hd => kernel_rfl)) | ((with_reducible refine T.any hE mixed ?hd ?hok ?_); (case hd => kernel_rfl); (case hok => kernel_rfl))); simp [*]; (repeat' (split; all_goals (rename_i hc; try simp [*])))) | ((with_reducible refine T.ret ?_); refine fin_pure ?_; simp [*]; try (change Hold _)) | (with_reducible refine T.block ?_) | ((with_reducible refine T.skip ?_); simp [*]) | ((with_reducible refine T.exit ?_); simp [*]) | ((with_reducible refine T.br fun K1 K2 hK1 hK2 => ?_); simp [*]; try ((refine Br.intro (fun hc => ?_) (fun hc => ?_)) <;> (try simp at hc))) | (with_reducible refine Cont.go (by assumption) _ ?_) | (with_reducible refine Cnt.go (by assumption) ?_))
            all_goals (unfold Hold at *; rw [hn, hfv]; try simp)
          · have hfv := frV_bad rfl v
            repeat' (first | (with_reducible refine T.sq fun K hK => ?_) | ((first | ((with_reducible refine T.reg hE ?hd ?_); (case hd => kernel_rfl)) | ((with_reducible refine T.any hE mixed ?hd ?hok ?_); (case hd => kernel_rfl); (case hok => kernel_rfl))); simp [*]; (repeat' (split; all_goals (rename_i hc; try simp [*])))) | ((with_reducible refine T.ret ?_); refine fin_pure ?_; simp [*]; try (change Hold _)) | (with_reducible refine T.block ?_) | ((with_reducible refine T.skip ?_); simp [*]) | ((with_reducible refine T.exit ?_); simp [*]) | ((with_reducible refine T.br fun K1 K2 hK1 hK2 => ?_); simp [*]; try ((refine Br.intro (fun hc => ?_) (fun hc => ?_)) <;> (try simp at hc))) | (with_reducible refine Cont.go (by assumption) _ ?_) | (with_reducible refine Cnt.go (by assumption) ?_))
            all_goals (unfold Hold at *; rw [hn, hfv]; try simp)
  · cases hr
end Go.Proofs.YtibfdebhbibfpaaGreat.Ax
