/- The law SubstSafes, walked. -/
import Derived.Test.YtaacfmakfkaddaaDoorExE
import Derived.Test.YtaacfmakfkaddaaDoorPlQ
set_option linter.unusedVariables false
set_option linter.unusedSimpArgs false
namespace Go.Proofs.YtaacfmakfkaddaaDoor.Ax
open Go Go.Proofs

@[simp] def gSafe : List V → Option V := f3 kE (kI .i64) kE fun a x t => some (safV a x t (askE a x t))
set_option maxHeartbeats 2000000 in
theorem ok_rSafe : PureOk Tryd.prog 14 gSafe := by
  intro args r h
  obtain ⟨a, x, t, rfl, ⟨⟩⟩ := f3_inv h
  clear h
  have hE := ((((((EnvOk.nil (P := Tryd.prog) (eq := fun _ => false) (own := fun _ => false) (mem := fun _ => false) EqOk.none).addf ok_rAskedS).addf ok_rVarsS).addf ok_prepared).addf ok_rWithin).addf ok_rLimited)
  refine ⟨⟨Tryd.f14, Tryd.func14, by decide, rfl⟩, pure_of_T Tryd.func14 rfl (by simp [Tryd.ntmps14]) fun q => ?_⟩
  by_cases v : askE a x t = 0
  rotate_left
  · have hn : Hold (safV a x t (askE a x t) = .tup [enc ex0, .int .i64 (askE a x t)]) := by unfold Hold safV; rw [if_neg v]
    repeat' (first | (with_reducible refine T.sq fun K hK => ?_) | ((first | ((with_reducible refine T.reg hE ?hd ?_); (case hd => kernel_rfl)) | ((with_reducible refine T.any hE mixed ?hd ?hok ?_); (case hd => kernel_rfl); (case hok => kernel_rfl))); simp [*]; (repeat' (split; all_goals (rename_i hc; try simp [*])))) | ((with_reducible refine T.ret ?_); refine fin_pure ?_; simp [*]; try (change Hold _)) | (with_reducible refine T.block ?_) | ((with_reducible refine T.skip ?_); simp [*]) | ((with_reducible refine T.exit ?_); simp [*]) | ((with_reducible refine T.br fun K1 K2 hK1 hK2 => ?_); simp [*]; try ((refine Br.intro (fun hc => ?_) (fun hc => ?_)) <;> (try simp at hc))) | (with_reducible refine Cont.go (by assumption) _ ?_) | (with_reducible refine Cnt.go (by assumption) ?_))
    all_goals (unfold Hold at *; rw [hn]; simp [ex0])
  obtain ⟨hx0, h1, h2, h3⟩ := ask_ok v
  obtain ⟨a1, a2, a3⟩ := right_zero h1
  obtain ⟨t1, t2, t3⟩ := right_zero h2
  rw [nodesN_eq] at a1 t1
  have htx : okX t := t3
  have hta : allX t = true := t3
  have hokr : okRn a x (vaE t : Nat) := ⟨h1, hx0, u64_nat (vaE_lt hta)⟩
  cases hrn : rnE x (vaE t) a with
  | none =>
    have hn : Hold (safV a x t 0 = .tup [enc ex0, .int .i64 51]) := by unfold Hold safV; rw [if_pos rfl, hrn]
    have e1 : cnV none = .tup [enc ex0, .int .i64 51] := rfl
    rw [v]
    repeat' (first | (with_reducible refine T.sq fun K hK => ?_) | ((first | ((with_reducible refine T.reg hE ?hd ?_); (case hd => kernel_rfl)) | ((with_reducible refine T.any hE mixed ?hd ?hok ?_); (case hd => kernel_rfl); (case hok => kernel_rfl))); simp [*]; (repeat' (split; all_goals (rename_i hc; try simp [*])))) | ((with_reducible refine T.ret ?_); refine fin_pure ?_; simp [*]; try (change Hold _)) | (with_reducible refine T.block ?_) | ((with_reducible refine T.skip ?_); simp [*]) | ((with_reducible refine T.exit ?_); simp [*]) | ((with_reducible refine T.br fun K1 K2 hK1 hK2 => ?_); simp [*]; try ((refine Br.intro (fun hc => ?_) (fun hc => ?_)) <;> (try simp at hc))) | (with_reducible refine Cont.go (by assumption) _ ?_) | (with_reducible refine Cnt.go (by assumption) ?_))
    all_goals (unfold Hold at *; rw [hn]; simp [ex0])
  | some b =>
    have hbr := rn_right h1 hrn
    obtain ⟨b1, b2, b3⟩ := right_zero hbr
    rw [nodesN_eq] at b1
    have hn0 : Hold (safV a x t 0 = .tup [enc (if rightE (psF (sgF x t) b) = 0 then psF (sgF x t) b else ex0), .int .i64 (rightE (psF (sgF x t) b))]) := by unfold Hold safV; rw [if_pos rfl, hrn]
    have e1 : cnV (some b) = .tup [enc b, .int .i64 0] := rfl
    have hok : okWi b t 1000 := ⟨b3, t3, b1, t1, by omega, by omega⟩
    rw [v]
    obtain ⟨z, hz⟩ : ∃ z, psF (sgF x t) b = z := ⟨_, rfl⟩
    rw [hz] at hn0
    by_cases c : (cntE z : Int) ≤ 1000
    · have hwi := wi_good c
      by_cases u : rightE z = 0
      · have hf := frV_good u
        rw [u, if_pos rfl] at hn0
        repeat' (first | (with_reducible refine T.sq fun K hK => ?_) | ((first | ((with_reducible refine T.reg hE ?hd ?_); (case hd => kernel_rfl)) | ((with_reducible refine T.any hE mixed ?hd ?hok ?_); (case hd => kernel_rfl); (case hok => kernel_rfl))); simp [*]; (repeat' (split; all_goals (rename_i hc; try simp [*])))) | ((with_reducible refine T.ret ?_); refine fin_pure ?_; simp [*]; try (change Hold _)) | (with_reducible refine T.block ?_) | ((with_reducible refine T.skip ?_); simp [*]) | ((with_reducible refine T.exit ?_); simp [*]) | ((with_reducible refine T.br fun K1 K2 hK1 hK2 => ?_); simp [*]; try ((refine Br.intro (fun hc => ?_) (fun hc => ?_)) <;> (try simp at hc))) | (with_reducible refine Cont.go (by assumption) _ ?_) | (with_reducible refine Cnt.go (by assumption) ?_))
        all_goals (unfold Hold at *; rw [hn0]; try simp)
      · have hf := frV_bad rfl u
        rw [if_neg u] at hn0
        repeat' (first | (with_reducible refine T.sq fun K hK => ?_) | ((first | ((with_reducible refine T.reg hE ?hd ?_); (case hd => kernel_rfl)) | ((with_reducible refine T.any hE mixed ?hd ?hok ?_); (case hd => kernel_rfl); (case hok => kernel_rfl))); simp [*]; (repeat' (split; all_goals (rename_i hc; try simp [*])))) | ((with_reducible refine T.ret ?_); refine fin_pure ?_; simp [*]; try (change Hold _)) | (with_reducible refine T.block ?_) | ((with_reducible refine T.skip ?_); simp [*]) | ((with_reducible refine T.exit ?_); simp [*]) | ((with_reducible refine T.br fun K1 K2 hK1 hK2 => ?_); simp [*]; try ((refine Br.intro (fun hc => ?_) (fun hc => ?_)) <;> (try simp at hc))) | (with_reducible refine Cont.go (by assumption) _ ?_) | (with_reducible refine Cnt.go (by assumption) ?_))
        all_goals (unfold Hold at *; rw [hn0]; try simp [ex0])
    · have hwi := wi_bad c
      have h20 : rightE z = 20 := by rw [rightE_eq, nodesN_eq, if_pos (by omega)]
      rw [h20, if_neg (by omega)] at hn0
      have hd0 : decL [] = some [] := decL_nil
      clear h20
      repeat' (first | (with_reducible refine T.sq fun K hK => ?_) | ((first | ((with_reducible refine T.reg hE ?hd ?_); (case hd => kernel_rfl)) | ((with_reducible refine T.any hE mixed ?hd ?hok ?_); (case hd => kernel_rfl); (case hok => kernel_rfl))); simp [*]; (repeat' (split; all_goals (rename_i hc; try simp [*])))) | ((with_reducible refine T.ret ?_); refine fin_pure ?_; simp [*]; try (change Hold _)) | (with_reducible refine T.block ?_) | ((with_reducible refine T.skip ?_); simp [*]) | ((with_reducible refine T.exit ?_); simp [*]) | ((with_reducible refine T.br fun K1 K2 hK1 hK2 => ?_); simp [*]; try ((refine Br.intro (fun hc => ?_) (fun hc => ?_)) <;> (try simp at hc))) | (with_reducible refine Cont.go (by assumption) _ ?_) | (with_reducible refine Cnt.go (by assumption) ?_))
      all_goals (unfold Hold at *; rw [hn0]; try simp [ex0])
set_option maxHeartbeats 2000000 in
theorem ok_sSafe : PureOk Tryd.prog 13 gSafe := by
  intro args r h
  obtain ⟨a, x, t, rfl, ⟨⟩⟩ := f3_inv h
  clear h
  have hE := ((((((EnvOk.nil (P := Tryd.prog) (eq := fun _ => false) (own := fun _ => false) (mem := fun f => f == 41) EqOk.none).addf ok_sAsked).addf ok_Vars).addf ok_rename).addf ok_bounded).addm ok_tput)
  refine ⟨⟨Tryd.f13, Tryd.func13, by decide, rfl⟩, pure_of_T Tryd.func13 rfl (by simp [Tryd.ntmps13]) fun q => ?_⟩
  by_cases v : askE a x t = 0
  rotate_left
  · have hn : Hold (safV a x t (askE a x t) = .tup [enc ex0, .int .i64 (askE a x t)]) := by unfold Hold safV; rw [if_neg v]
    repeat' (first | (with_reducible refine T.sq fun K hK => ?_) | ((first | ((with_reducible refine T.reg hE ?hd ?_); (case hd => kernel_rfl)) | ((with_reducible refine T.any hE mixed ?hd ?hok ?_); (case hd => kernel_rfl); (case hok => kernel_rfl))); simp [*]; (repeat' (split; all_goals (rename_i hc; try simp [*])))) | ((with_reducible refine T.ret ?_); refine fin_pure ?_; simp [*]; try (change Hold _)) | (with_reducible refine T.block ?_) | ((with_reducible refine T.skip ?_); simp [*]) | ((with_reducible refine T.exit ?_); simp [*]) | ((with_reducible refine T.br fun K1 K2 hK1 hK2 => ?_); simp [*]; try ((refine Br.intro (fun hc => ?_) (fun hc => ?_)) <;> (try simp at hc))) | (with_reducible refine Cont.go (by assumption) _ ?_) | (with_reducible refine Cnt.go (by assumption) ?_))
    all_goals (unfold Hold at *; rw [hn]; simp [ex0])
  obtain ⟨hx0, h1, h2, h3⟩ := ask_ok v
  obtain ⟨a1, a2, a3⟩ := right_zero h1
  obtain ⟨t1, t2, t3⟩ := right_zero h2
  have hta : allX t = true := t3
  have hs2 : setV vaE t = _ := setV_good h2
  have hokr : okRn a x (vaE t : Nat) := ⟨h1, hx0, u64_nat (vaE_lt hta)⟩
  cases hrn : rnE x (vaE t) a with
  | none =>
    have hn : Hold (safV a x t 0 = .tup [enc ex0, .int .i64 51]) := by unfold Hold safV; rw [if_pos rfl, hrn]
    have e1 : cnV none = .tup [enc ex0, .int .i64 51] := rfl
    rw [v]
    repeat' (first | (with_reducible refine T.sq fun K hK => ?_) | ((first | ((with_reducible refine T.reg hE ?hd ?_); (case hd => kernel_rfl)) | ((with_reducible refine T.any hE mixed ?hd ?hok ?_); (case hd => kernel_rfl); (case hok => kernel_rfl))); simp [*]; (repeat' (split; all_goals (rename_i hc; try simp [*])))) | ((with_reducible refine T.ret ?_); refine fin_pure ?_; simp [*]; try (change Hold _)) | (with_reducible refine T.block ?_) | ((with_reducible refine T.skip ?_); simp [*]) | ((with_reducible refine T.exit ?_); simp [*]) | ((with_reducible refine T.br fun K1 K2 hK1 hK2 => ?_); simp [*]; try ((refine Br.intro (fun hc => ?_) (fun hc => ?_)) <;> (try simp at hc))) | (with_reducible refine Cont.go (by assumption) _ ?_) | (with_reducible refine Cnt.go (by assumption) ?_))
    all_goals (unfold Hold at *; rw [hn]; simp [ex0])
  | some b =>
    have hbr := rn_right h1 hrn
    have hba : allX b = true := (right_zero hbr).2.2
    have hn0 : Hold (safV a x t 0 = frV (psF (sgF x t) b)) := by unfold Hold safV; rw [if_pos rfl, hrn]; rfl
    have e1 : cnV (some b) = .tup [enc b, .int .i64 0] := rfl
    have v1 : 0 ≤ x := hx0.1
    have v2 : x ≤ 63 := hx0.2
    rw [v]
    have hrl : (List.replicate 64 [V.int .i64 0, V.int .i64 0, V.nils]).flatten.length = 192 := by rfl
    obtain ⟨rest, hrest⟩ : ∃ rest, (List.replicate 64 [V.int .i64 0, V.int .i64 0, V.nils]).flatten = rest := ⟨_, rfl⟩
    have hre : rest.map V.er = encXs zeroX := by rw [← hrest]; exact zero_er
    rw [hrest] at hrl
    refine T.sq fun K hK => ?_
    obtain ⟨hgo⟩ := hK
    repeat' (first | (with_reducible refine T.sq fun K hK => ?_) | ((first | ((with_reducible refine T.reg hE ?hd ?_); (case hd => kernel_rfl)) | ((with_reducible refine T.any hE mixed ?hd ?hok ?_); (case hd => kernel_rfl); (case hok => kernel_rfl))); simp [*]; (repeat' (split; all_goals (rename_i hc; try simp [*])))) | ((with_reducible refine T.ret ?_); refine fin_pure ?_; simp [*]; try (change Hold _)) | (with_reducible refine T.block ?_) | ((with_reducible refine T.skip ?_); simp [*]) | ((with_reducible refine T.exit ?_); simp [*]) | ((with_reducible refine T.br fun K1 K2 hK1 hK2 => ?_); simp [*]; try ((refine Br.intro (fun hc => ?_) (fun hc => ?_)) <;> (try simp at hc))) | (with_reducible refine Cont.go (by assumption) _ ?_) | (with_reducible refine Cnt.go (by assumption) ?_))
    refine hgo _ ?_
    clear hgo
    refine T.sq fun K hK => ?_
    obtain ⟨hgo⟩ := hK
    repeat' (first | (with_reducible refine T.sq fun K hK => ?_) | ((first | ((with_reducible refine T.reg hE ?hd ?_); (case hd => kernel_rfl)) | ((with_reducible refine T.any hE mixed ?hd ?hok ?_); (case hd => kernel_rfl); (case hok => kernel_rfl))); simp [*]; (repeat' (split; all_goals (rename_i hc; try simp [*])))) | ((with_reducible refine T.ret ?_); refine fin_pure ?_; simp [*]; try (change Hold _)) | (with_reducible refine T.block ?_) | ((with_reducible refine T.skip ?_); simp [*]) | ((with_reducible refine T.exit ?_); simp [*]) | ((with_reducible refine T.br fun K1 K2 hK1 hK2 => ?_); simp [*]; try ((refine Br.intro (fun hc => ?_) (fun hc => ?_)) <;> (try simp at hc))) | (with_reducible refine Cont.go (by assumption) _ ?_) | (with_reducible refine Cnt.go (by assumption) ?_))
    refine hgo _ ?_
    clear hgo
    refine T.sq fun K hK => ?_
    obtain ⟨hgo⟩ := hK
    repeat' (first | (with_reducible refine T.sq fun K hK => ?_) | ((first | ((with_reducible refine T.reg hE ?hd ?_); (case hd => kernel_rfl)) | ((with_reducible refine T.any hE mixed ?hd ?hok ?_); (case hd => kernel_rfl); (case hok => kernel_rfl))); simp [*]; (repeat' (split; all_goals (rename_i hc; try simp [*])))) | ((with_reducible refine T.ret ?_); refine fin_pure ?_; simp [*]; try (change Hold _)) | (with_reducible refine T.block ?_) | ((with_reducible refine T.skip ?_); simp [*]) | ((with_reducible refine T.exit ?_); simp [*]) | ((with_reducible refine T.br fun K1 K2 hK1 hK2 => ?_); simp [*]; try ((refine Br.intro (fun hc => ?_) (fun hc => ?_)) <;> (try simp at hc))) | (with_reducible refine Cont.go (by assumption) _ ?_) | (with_reducible refine Cnt.go (by assumption) ?_))
    refine hgo _ ?_
    clear hgo
    refine T.sq fun K hK => ?_
    obtain ⟨hgo⟩ := hK
    repeat' (first | (with_reducible refine T.sq fun K hK => ?_) | ((first | ((with_reducible refine T.reg hE ?hd ?_); (case hd => kernel_rfl)) | ((with_reducible refine T.any hE mixed ?hd ?hok ?_); (case hd => kernel_rfl); (case hok => kernel_rfl))); simp [*]; (repeat' (split; all_goals (rename_i hc; try simp [*])))) | ((with_reducible refine T.ret ?_); refine fin_pure ?_; simp [*]; try (change Hold _)) | (with_reducible refine T.block ?_) | ((with_reducible refine T.skip ?_); simp [*]) | ((with_reducible refine T.exit ?_); simp [*]) | ((with_reducible refine T.br fun K1 K2 hK1 hK2 => ?_); simp [*]; try ((refine Br.intro (fun hc => ?_) (fun hc => ?_)) <;> (try simp at hc))) | (with_reducible refine Cont.go (by assumption) _ ?_) | (with_reducible refine Cnt.go (by assumption) ?_))
    refine hgo _ ?_
    clear hgo
    refine T.sq fun K hK => ?_
    obtain ⟨hgo⟩ := hK
    repeat' (first | (with_reducible refine T.sq fun K hK => ?_) | ((first | ((with_reducible refine T.reg hE ?hd ?_); (case hd => kernel_rfl)) | ((with_reducible refine T.any hE mixed ?hd ?hok ?_); (case hd => kernel_rfl); (case hok => kernel_rfl))); simp [*]; (repeat' (split; all_goals (rename_i hc; try simp [*])))) | ((with_reducible refine T.ret ?_); refine fin_pure ?_; simp [*]; try (change Hold _)) | (with_reducible refine T.block ?_) | ((with_reducible refine T.skip ?_); simp [*]) | ((with_reducible refine T.exit ?_); simp [*]) | ((with_reducible refine T.br fun K1 K2 hK1 hK2 => ?_); simp [*]; try ((refine Br.intro (fun hc => ?_) (fun hc => ?_)) <;> (try simp at hc))) | (with_reducible refine Cont.go (by assumption) _ ?_) | (with_reducible refine Cnt.go (by assumption) ?_))
    refine hgo _ ?_
    clear hgo
    refine T.sq fun K2 hK2 => ?_
    suffices j2 : ∀ (σ : St), (σ.get 1 = .int .i64 x ∧ σ.get 5 = .ptr (0 :: 7 :: q) 0 ∧ σ.get 6 = .ptr (0 :: 8 :: q) 0 ∧ σ.get 11 = .ptr (0 :: 13 :: q) 0 ∧ σ.get 13 = .ptr (0 :: 41 :: q) 0 ∧ σ.M (0 :: 7 :: q) = some (.cells (encC t)) ∧ (∃ c0 c1 c2, σ.M (0 :: 8 :: q) = some (.cells [c0, c1, c2])) ∧ σ.M (0 :: 13 :: q) = some (.cells (encC b)) ∧ σ.M (0 :: 41 :: q) = some (.cells (.int .u64 0 :: rest))) → K2 σ by
      clear hK2
      repeat' (first | (with_reducible refine T.sq fun K hK => ?_) | ((first | ((with_reducible refine T.reg hE ?hd ?_); (case hd => kernel_rfl)) | ((with_reducible refine T.any hE mixed ?hd ?hok ?_); (case hd => kernel_rfl); (case hok => kernel_rfl))); simp [*]; (repeat' (split; all_goals (rename_i hc; try simp [*])))) | ((with_reducible refine T.ret ?_); refine fin_pure ?_; simp [*]; try (change Hold _)) | (with_reducible refine T.block ?_) | ((with_reducible refine T.skip ?_); simp [*]) | ((with_reducible refine T.exit ?_); simp [*]) | ((with_reducible refine T.br fun K1 K2 hK1 hK2 => ?_); simp [*]; try ((refine Br.intro (fun hc => ?_) (fun hc => ?_)) <;> (try simp at hc))) | (with_reducible refine Cont.go (by assumption) _ ?_) | (with_reducible refine Cnt.go (by assumption) ?_))
      refine j2 _ ⟨?_, ?_, ?_, ?_, ?_, ?_, ?_, ?_, ?_⟩
      all_goals first | (simp [encC_eq]; done) | (rw [← hrest]; simp; done)
    clear hrest hs2 hokr e1 hrn
    rintro σ ⟨b1, b5, b6, b11, b13, n7, ⟨c0, c1, c2, n8⟩, n13, n41⟩
    refine hK2.go σ ?_
    clear hK2
    rw [encC_eq] at n7 n13
    have hokt : okTP 0 rest x := ⟨⟨by omega, by omega⟩, hrl, hx0⟩
    have her := er_put hre (withN 0 x : Nat) x.toNat t (by simp [zeroX]; omega)
    obtain ⟨r2, e1, e2⟩ := put_len (u := (withN 0 x : Nat)) (e := t) (m := x.toNat) hrl (by omega)
    rw [e1] at her
    have her2 : Hold (r2.map V.er = encXs (zeroX.set x.toNat t)) := by rw [List.map_cons] at her; exact (List.cons.inj her).2
    have e3 : Hold (List.take (1 + x.toNat * 3) (V.int .u64 (withN 0 x : Nat) :: rest) ++ V.int .i64 t.k :: V.int .i64 t.i :: V.sl (encL t.kids) .no :: List.drop (1 + x.toNat * 3 + 2) rest = .int .u64 (withN 0 x : Nat) :: r2) := by
      unfold Hold; rw [← e1]; simp [Ax.splice]
    clear her e1 hre
    refine T.sq fun K3 hK3 => ?_
    suffices j3 : ∀ (σ : St), (σ.get 6 = .ptr (0 :: 8 :: q) 0 ∧ σ.get 11 = .ptr (0 :: 13 :: q) 0 ∧ σ.get 13 = .ptr (0 :: 41 :: q) 0 ∧ (∃ c0 c1 c2, σ.M (0 :: 8 :: q) = some (.cells [c0, c1, c2])) ∧ σ.M (0 :: 13 :: q) = some (.cells (encC b)) ∧ σ.M (0 :: 41 :: q) = some (.cells (.int .u64 (withN 0 x : Nat) :: r2))) → K3 σ by
      clear hK3
      repeat' (first | (with_reducible refine T.sq fun K hK => ?_) | ((first | ((with_reducible refine T.reg hE ?hd ?_); (case hd => kernel_rfl)) | ((with_reducible refine T.any hE mixed ?hd ?hok ?_); (case hd => kernel_rfl); (case hok => kernel_rfl))); simp [*]; (repeat' (split; all_goals (rename_i hc; try simp [*])))) | ((with_reducible refine T.ret ?_); refine fin_pure ?_; simp [*]; try (change Hold _)) | (with_reducible refine T.block ?_) | ((with_reducible refine T.skip ?_); simp [*]) | ((with_reducible refine T.exit ?_); simp [*]) | ((with_reducible refine T.br fun K1 K2 hK1 hK2 => ?_); simp [*]; try ((refine Br.intro (fun hc => ?_) (fun hc => ?_)) <;> (try simp at hc))) | (with_reducible refine Cont.go (by assumption) _ ?_) | (with_reducible refine Cnt.go (by assumption) ?_))
      refine j3 _ ⟨?_, ?_, ?_, ⟨c0, c1, c2, ?_⟩, ?_, ?_⟩
      all_goals first | (simp [*, encC_eq]; done) | (simp; exact e3)
    clear b1 b5 b6 b11 b13 n7 n8 n13 n41 hokt e3 c0 c1 c2 hrl e2
    rintro σ ⟨b6, b11, b13, ⟨c0, c1, c2, n8⟩, n13, n41⟩
    refine hK3.go σ ?_
    clear hK3
    rw [encC_eq] at n13
    have hvp : VarsP [(x, t)] := ⟨fun p hp => by obtain rfl : p = (x, t) := by simpa using hp
                                                 exact hx0, by simp⟩
    have htf : tbF (withN 0 x) (zeroX.set x.toNat t) 0 = sgF x t := (tab_fun hvp).trans (lk_sg _ _)
    have hoki : okIn b (withN 0 x : Nat) (zeroX.set x.toNat t) 0 := ⟨hba, u64_nat (withN_lt (by omega)), by simp [zeroX], ⟨by omega, by omega⟩⟩
    refine T.frzE 13 (by decide) b13 n41 (ds := .int .u64 (withN 0 x : Nat) :: encXs (zeroX.set x.toNat t)) (by rw [List.map_cons, her2]; rfl) ?_
    clear her2 hvp n41
    obtain ⟨z, hz⟩ : ∃ z, psF (sgF x t) b = z := ⟨_, rfl⟩
    rw [hz] at hn0
    by_cases u : rightE z = 0
    · have hf := frV_good u
      rw [hf] at hn0
      repeat' (first | (with_reducible refine T.sq fun K hK => ?_) | ((first | ((with_reducible refine T.reg hE ?hd ?_); (case hd => kernel_rfl)) | ((with_reducible refine T.any hE mixed ?hd ?hok ?_); (case hd => kernel_rfl); (case hok => kernel_rfl))); simp [*]; (repeat' (split; all_goals (rename_i hc; try simp [*])))) | ((with_reducible refine T.ret ?_); refine fin_pure ?_; simp [*]; try (change Hold _)) | (with_reducible refine T.block ?_) | ((with_reducible refine T.skip ?_); simp [*]) | ((with_reducible refine T.exit ?_); simp [*]) | ((with_reducible refine T.br fun K1 K2 hK1 hK2 => ?_); simp [*]; try ((refine Br.intro (fun hc => ?_) (fun hc => ?_)) <;> (try simp at hc))) | (with_reducible refine Cont.go (by assumption) _ ?_) | (with_reducible refine Cnt.go (by assumption) ?_))
      all_goals (unfold Hold at *; rw [hn0]; try simp)
    · have hf := frV_bad rfl u
      rw [hf] at hn0
      repeat' (first | (with_reducible refine T.sq fun K hK => ?_) | ((first | ((with_reducible refine T.reg hE ?hd ?_); (case hd => kernel_rfl)) | ((with_reducible refine T.any hE mixed ?hd ?hok ?_); (case hd => kernel_rfl); (case hok => kernel_rfl))); simp [*]; (repeat' (split; all_goals (rename_i hc; try simp [*])))) | ((with_reducible refine T.ret ?_); refine fin_pure ?_; simp [*]; try (change Hold _)) | (with_reducible refine T.block ?_) | ((with_reducible refine T.skip ?_); simp [*]) | ((with_reducible refine T.exit ?_); simp [*]) | ((with_reducible refine T.br fun K1 K2 hK1 hK2 => ?_); simp [*]; try ((refine Br.intro (fun hc => ?_) (fun hc => ?_)) <;> (try simp at hc))) | (with_reducible refine Cont.go (by assumption) _ ?_) | (with_reducible refine Cnt.go (by assumption) ?_))
      all_goals (unfold Hold at *; rw [hn0]; try simp [ex0])
theorem safV_shape (a : Ex) (x : Int) (t : Ex) : ∃ y z, safV a x t (askE a x t) = .tup [enc y, .int .i64 z] := by
  unfold safV
  split
  · cases rnE x (vaE t) a with
    | none => exact ⟨_, _, rfl⟩
    | some b => exact ⟨_, _, rfl⟩
  · exact ⟨_, _, rfl⟩
theorem ok_SubstSafes : PureOk Tryd.prog 5 (f3 kE (kI .i64) kE fun _ _ _ => some (.bool true)) := by
  intro args r h
  obtain ⟨a, x, t, rfl, ⟨⟩⟩ := f3_inv h; clear h
  have hE := ((((EnvOk.nil (P := Tryd.prog) (eq := fun _ => false) (own := fun _ => false) (mem := fun _ => false) EqOk.none).addf ok_sSafe).addf ok_rSafe).addf ok_rLike)
  refine ⟨⟨Tryd.f5, Tryd.func5, by decide, rfl⟩, pure_of_T Tryd.func5 rfl (by simp [Tryd.ntmps5]) fun q => ?_⟩
  obtain ⟨y, z, hc⟩ := safV_shape a x t
  have hs := ordE_self y
  repeat' (first | (with_reducible refine T.sq fun K hK => ?_) | ((first | ((with_reducible refine T.reg hE ?hd ?_); (case hd => kernel_rfl)) | ((with_reducible refine T.any hE mixed ?hd ?hok ?_); (case hd => kernel_rfl); (case hok => kernel_rfl))); simp [*]; (repeat' (split; all_goals (rename_i hc; try simp [*])))) | ((with_reducible refine T.ret ?_); refine fin_pure ?_; simp [*]; try (change Hold _)) | (with_reducible refine T.block ?_) | ((with_reducible refine T.skip ?_); simp [*]) | ((with_reducible refine T.exit ?_); simp [*]) | ((with_reducible refine T.br fun K1 K2 hK1 hK2 => ?_); simp [*]; try ((refine Br.intro (fun hc => ?_) (fun hc => ?_)) <;> (try simp at hc))) | (with_reducible refine Cont.go (by assumption) _ ?_) | (with_reducible refine Cnt.go (by assumption) ?_))
end Go.Proofs.YtaacfmakfkaddaaDoor.Ax
