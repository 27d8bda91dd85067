/- Contracts: the schemas' rows and Make, by the program. -/
import Derived.Test.YtibfdebhbibfpaaGreatDxD
set_option linter.unusedVariables false
set_option linter.unusedSimpArgs false
namespace Go.Proofs.YtibfdebhbibfpaaGreat.Ax
open Go Go.Proofs

theorem len_one {α : Type} {l : List α} (h : l.length = 1) : ∃ a, l = [a] := by
  match l, h with
  | [a], _ => exact ⟨a, rfl⟩
theorem len_two {α : Type} {l : List α} (h : l.length = 2) : ∃ a b, l = [a, b] := by
  match l, h with
  | [a, b], _ => exact ⟨a, b, rfl⟩
theorem len_three {α : Type} {l : List α} (h : l.length = 3) : ∃ a b c, l = [a, b, c] := by
  match l, h with
  | [a, b, c], _ => exact ⟨a, b, c, rfl⟩
theorem len_four {α : Type} {l : List α} (h : l.length = 4) : ∃ a b c d, l = [a, b, c, d] := by
  match l, h with
  | [a, b, c, d], _ => exact ⟨a, b, c, d, rfl⟩
/-! ### What the rows make -/
def mkV (k : Int) (l : List Ex) (x : Int) : V := if k = 4 then (if sideB 4 l x = true then (if rightE (psX l x) = 0 then .tup [enc (instE 4 l x), .bool true] else .tup [enc (.mk (-(rightE (instE 4 l x))) 0 []), .bool true]) else .tup [enc ex0, .bool false]) else .tup [enc (instE k l x), .bool (sideB k l x)]
def okMk (k : Int) (l : List Ex) (x : Int) : Prop := l.length = (srtS k).size ∧ sortE l (srtS k) = 0 ∧ 0 ≤ x ∧ x ≤ 63
noncomputable instance (k : Int) (l : List Ex) (x : Int) : Decidable (okMk k l x) := Classical.propDecidable _
@[simp] noncomputable def gMk (k : Int) : List V → Option V := f2 kL (kI .i64) fun l x => if okMk k l x then some (mkV k l x) else none
set_option maxHeartbeats 1000000 in
theorem ok_mk1 : PureOk Tryz.prog 112 (gMk 1) := by
  intro args r h
  obtain ⟨l, x, rfl, hr⟩ := f2_inv h; clear h
  split at hr
  · rename_i hm
    obtain ⟨hl, hs, hx0, hx1⟩ := hm
    cases hr
    obtain ⟨a, b, rfl⟩ := len_two hl
    have hv : Hold (mkV 1 [a, b] x = .tup [enc (impX a (impX b a)), .bool (true)]) := by unfold Hold mkV sideB instE; simp
    clear hs hl
    have hE := ((EnvOk.nil (P := Tryz.prog) (eq := fun _ => false) (own := fun _ => false) (mem := fun _ => false) EqOk.none).addf ok_sImp)
    refine ⟨⟨Tryz.f112, Tryz.func112, by decide, rfl⟩, pure_of_T Tryz.func112 rfl (by simp [Tryz.ntmps112]) fun q => ?_⟩
    repeat' (first | (with_reducible refine T.sq fun K hK => ?_) | ((first | ((with_reducible refine T.reg hE ?hd ?_); (case hd => kernel_rfl)) | ((with_reducible refine T.any hE mixed ?hd ?hok ?_); (case hd => kernel_rfl); (case hok => kernel_rfl))); simp [*]; (repeat' (split; all_goals (rename_i hc; try simp [*])))) | ((with_reducible refine T.ret ?_); refine fin_pure ?_; simp [*]; try (change Hold _)) | (with_reducible refine T.block ?_) | ((with_reducible refine T.skip ?_); simp [*]) | ((with_reducible refine T.exit ?_); simp [*]) | ((with_reducible refine T.br fun K1 K2 hK1 hK2 => ?_); simp [*]; try ((refine Br.intro (fun hc => ?_) (fun hc => ?_)) <;> (try simp at hc))) | (with_reducible refine Cont.go (by assumption) _ ?_) | (with_reducible refine Cnt.go (by assumption) ?_))
    all_goals (unfold Hold at *; rw [hv]; try simp)
  · cases hr
set_option maxHeartbeats 1000000 in
theorem ok_mk2 : PureOk Tryz.prog 116 (gMk 2) := by
  intro args r h
  obtain ⟨l, x, rfl, hr⟩ := f2_inv h; clear h
  split at hr
  · rename_i hm
    obtain ⟨hl, hs, hx0, hx1⟩ := hm
    cases hr
    obtain ⟨a, b, c, rfl⟩ := len_three hl
    have hv : Hold (mkV 2 [a, b, c] x = .tup [enc (impX (impX a (impX b c)) (impX (impX a b) (impX a c))), .bool (true)]) := by unfold Hold mkV sideB instE; simp
    clear hs hl
    have hE := ((EnvOk.nil (P := Tryz.prog) (eq := fun _ => false) (own := fun _ => false) (mem := fun _ => false) EqOk.none).addf ok_sImp)
    refine ⟨⟨Tryz.f116, Tryz.func116, by decide, rfl⟩, pure_of_T Tryz.func116 rfl (by simp [Tryz.ntmps116]) fun q => ?_⟩
    repeat' (first | (with_reducible refine T.sq fun K hK => ?_) | ((first | ((with_reducible refine T.reg hE ?hd ?_); (case hd => kernel_rfl)) | ((with_reducible refine T.any hE mixed ?hd ?hok ?_); (case hd => kernel_rfl); (case hok => kernel_rfl))); simp [*]; (repeat' (split; all_goals (rename_i hc; try simp [*])))) | ((with_reducible refine T.ret ?_); refine fin_pure ?_; simp [*]; try (change Hold _)) | (with_reducible refine T.block ?_) | ((with_reducible refine T.skip ?_); simp [*]) | ((with_reducible refine T.exit ?_); simp [*]) | ((with_reducible refine T.br fun K1 K2 hK1 hK2 => ?_); simp [*]; try ((refine Br.intro (fun hc => ?_) (fun hc => ?_)) <;> (try simp at hc))) | (with_reducible refine Cont.go (by assumption) _ ?_) | (with_reducible refine Cnt.go (by assumption) ?_))
    all_goals (unfold Hold at *; rw [hv]; try simp)
  · cases hr
set_option maxHeartbeats 1000000 in
theorem ok_mk3 : PureOk Tryz.prog 118 (gMk 3) := by
  intro args r h
  obtain ⟨l, x, rfl, hr⟩ := f2_inv h; clear h
  split at hr
  · rename_i hm
    obtain ⟨hl, hs, hx0, hx1⟩ := hm
    cases hr
    obtain ⟨a, b, rfl⟩ := len_two hl
    have hv : Hold (mkV 3 [a, b] x = .tup [enc (impX (impX (notX a) (notX b)) (impX b a)), .bool (true)]) := by unfold Hold mkV sideB instE; simp
    clear hs hl
    have hE := (((EnvOk.nil (P := Tryz.prog) (eq := fun _ => false) (own := fun _ => false) (mem := fun _ => false) EqOk.none).addf ok_sImp).addf ok_sNot)
    refine ⟨⟨Tryz.f118, Tryz.func118, by decide, rfl⟩, pure_of_T Tryz.func118 rfl (by simp [Tryz.ntmps118]) fun q => ?_⟩
    repeat' (first | (with_reducible refine T.sq fun K hK => ?_) | ((first | ((with_reducible refine T.reg hE ?hd ?_); (case hd => kernel_rfl)) | ((with_reducible refine T.any hE mixed ?hd ?hok ?_); (case hd => kernel_rfl); (case hok => kernel_rfl))); simp [*]; (repeat' (split; all_goals (rename_i hc; try simp [*])))) | ((with_reducible refine T.ret ?_); refine fin_pure ?_; simp [*]; try (change Hold _)) | (with_reducible refine T.block ?_) | ((with_reducible refine T.skip ?_); simp [*]) | ((with_reducible refine T.exit ?_); simp [*]) | ((with_reducible refine T.br fun K1 K2 hK1 hK2 => ?_); simp [*]; try ((refine Br.intro (fun hc => ?_) (fun hc => ?_)) <;> (try simp at hc))) | (with_reducible refine Cont.go (by assumption) _ ?_) | (with_reducible refine Cnt.go (by assumption) ?_))
    all_goals (unfold Hold at *; rw [hv]; try simp)
  · cases hr
set_option maxHeartbeats 1000000 in
theorem ok_mk5 : PureOk Tryz.prog 123 (gMk 5) := by
  intro args r h
  obtain ⟨l, x, rfl, hr⟩ := f2_inv h; clear h
  split at hr
  · rename_i hm
    obtain ⟨hl, hs, hx0, hx1⟩ := hm
    cases hr
    obtain ⟨a, b, rfl⟩ := len_two hl
    have ra : rightE a = 0 := (sortE_ok hs).1 a (by simp)
    have hnf : nfV x a = .tup [.bool (!hasB (frE a) x), .int .i64 0] := by
      unfold nfV; rw [if_pos ⟨hx0, hx1⟩, ra]; rfl
    have hv : Hold (mkV 5 [a, b] x = .tup [enc (impX (allQ x (impX a b)) (impX a (allQ x b))), .bool (!hasB (frE a) x)]) := by unfold Hold mkV sideB instE; simp
    clear hs hl
    have hE := ((((EnvOk.nil (P := Tryz.prog) (eq := fun _ => false) (own := fun _ => false) (mem := fun _ => false) EqOk.none).addf ok_sImp).addf ok_sAll).addf ok_NotFree)
    refine ⟨⟨Tryz.f123, Tryz.func123, by decide, rfl⟩, pure_of_T Tryz.func123 rfl (by simp [Tryz.ntmps123]) fun q => ?_⟩
    repeat' (first | (with_reducible refine T.sq fun K hK => ?_) | ((first | ((with_reducible refine T.reg hE ?hd ?_); (case hd => kernel_rfl)) | ((with_reducible refine T.any hE mixed ?hd ?hok ?_); (case hd => kernel_rfl); (case hok => kernel_rfl))); simp [*]; (repeat' (split; all_goals (rename_i hc; try simp [*])))) | ((with_reducible refine T.ret ?_); refine fin_pure ?_; simp [*]; try (change Hold _)) | (with_reducible refine T.block ?_) | ((with_reducible refine T.skip ?_); simp [*]) | ((with_reducible refine T.exit ?_); simp [*]) | ((with_reducible refine T.br fun K1 K2 hK1 hK2 => ?_); simp [*]; try ((refine Br.intro (fun hc => ?_) (fun hc => ?_)) <;> (try simp at hc))) | (with_reducible refine Cont.go (by assumption) _ ?_) | (with_reducible refine Cnt.go (by assumption) ?_))
    all_goals (unfold Hold at *; rw [hv]; try simp)
  · cases hr
set_option maxHeartbeats 1000000 in
theorem ok_mk6 : PureOk Tryz.prog 127 (gMk 6) := by
  intro args r h
  obtain ⟨l, x, rfl, hr⟩ := f2_inv h; clear h
  split at hr
  · rename_i hm
    obtain ⟨hl, hs, hx0, hx1⟩ := hm
    cases hr
    obtain ⟨a, rfl⟩ := len_one hl
    have hv : Hold (mkV 6 [a] x = .tup [enc (eqX a a), .bool (true)]) := by unfold Hold mkV sideB instE; simp
    clear hs hl
    have hE := ((EnvOk.nil (P := Tryz.prog) (eq := fun _ => false) (own := fun _ => false) (mem := fun _ => false) EqOk.none).addf ok_sEq)
    refine ⟨⟨Tryz.f127, Tryz.func127, by decide, rfl⟩, pure_of_T Tryz.func127 rfl (by simp [Tryz.ntmps127]) fun q => ?_⟩
    repeat' (first | (with_reducible refine T.sq fun K hK => ?_) | ((first | ((with_reducible refine T.reg hE ?hd ?_); (case hd => kernel_rfl)) | ((with_reducible refine T.any hE mixed ?hd ?hok ?_); (case hd => kernel_rfl); (case hok => kernel_rfl))); simp [*]; (repeat' (split; all_goals (rename_i hc; try simp [*])))) | ((with_reducible refine T.ret ?_); refine fin_pure ?_; simp [*]; try (change Hold _)) | (with_reducible refine T.block ?_) | ((with_reducible refine T.skip ?_); simp [*]) | ((with_reducible refine T.exit ?_); simp [*]) | ((with_reducible refine T.br fun K1 K2 hK1 hK2 => ?_); simp [*]; try ((refine Br.intro (fun hc => ?_) (fun hc => ?_)) <;> (try simp at hc))) | (with_reducible refine Cont.go (by assumption) _ ?_) | (with_reducible refine Cnt.go (by assumption) ?_))
    all_goals (unfold Hold at *; rw [hv]; try simp)
  · cases hr
set_option maxHeartbeats 1000000 in
theorem ok_mk7 : PureOk Tryz.prog 130 (gMk 7) := by
  intro args r h
  obtain ⟨l, x, rfl, hr⟩ := f2_inv h; clear h
  split at hr
  · rename_i hm
    obtain ⟨hl, hs, hx0, hx1⟩ := hm
    cases hr
    obtain ⟨a, b, c, d, rfl⟩ := len_four hl
    have hall := (sortE_ok hs).1
    have hok : okSwP c d a b 0 := ⟨hall c (by simp), hall d (by simp), hall a (by simp), hall b (by simp), ⟨by omega, by omega⟩⟩
    clear hall
    have hv : Hold (mkV 7 [a, b, c, d] x = .tup [enc (impX (eqX a b) (impX c d)), .bool (swE a b (vaE a ||| vaE b) c d true)]) := by unfold Hold mkV sideB instE; simp
    clear hs hl
    have hE := ((((EnvOk.nil (P := Tryz.prog) (eq := fun _ => false) (own := fun _ => false) (mem := fun _ => false) EqOk.none).addf ok_sEq).addf ok_sImp).addf ok_swapped)
    refine ⟨⟨Tryz.f130, Tryz.func130, by decide, rfl⟩, pure_of_T Tryz.func130 rfl (by simp [Tryz.ntmps130]) fun q => ?_⟩
    repeat' (first | (with_reducible refine T.sq fun K hK => ?_) | ((first | ((with_reducible refine T.reg hE ?hd ?_); (case hd => kernel_rfl)) | ((with_reducible refine T.any hE mixed ?hd ?hok ?_); (case hd => kernel_rfl); (case hok => kernel_rfl))); simp [*]; (repeat' (split; all_goals (rename_i hc; try simp [*])))) | ((with_reducible refine T.ret ?_); refine fin_pure ?_; simp [*]; try (change Hold _)) | (with_reducible refine T.block ?_) | ((with_reducible refine T.skip ?_); simp [*]) | ((with_reducible refine T.exit ?_); simp [*]) | ((with_reducible refine T.br fun K1 K2 hK1 hK2 => ?_); simp [*]; try ((refine Br.intro (fun hc => ?_) (fun hc => ?_)) <;> (try simp at hc))) | (with_reducible refine Cont.go (by assumption) _ ?_) | (with_reducible refine Cnt.go (by assumption) ?_))
    all_goals (unfold Hold at *; rw [hv]; try simp)
  · cases hr
set_option maxHeartbeats 2000000 in
theorem ok_mk4 : PureOk Tryz.prog 121 (gMk 4) := by
  intro args r h
  obtain ⟨l, x, rfl, hr⟩ := f2_inv h; clear h
  split at hr
  · rename_i hm
    obtain ⟨hl, hs, hx0, hx1⟩ := hm
    cases hr
    obtain ⟨a, t, rfl⟩ := len_two hl
    obtain ⟨hall, hso⟩ := sortE_ok hs
    have ra := hall a (by simp)
    have rt := hall t (by simp)
    have hT : isT t = true := by
      simp [srtS, sortsOk] at hso
      exact hso.2
    clear hall hso hs hl
    have hask : askE a x t = 0 := ask_mk ⟨hx0, hx1⟩ ra rt hT
    obtain ⟨a1, a2, a3⟩ := right_zero ra
    obtain ⟨t1, t2, t3⟩ := right_zero rt
    rw [nodesN_eq] at a1 t1
    have hv0 : Hold (mkV 4 [a, t] x = if ffB t x a = true then (if rightE (psF (sgF x t) a) = 0 then .tup [enc (impX (allQ x a) (psF (sgF x t) a)), .bool true] else .tup [enc (.mk (-(rightE (impX (allQ x a) (psF (sgF x t) a)))) 0 []), .bool true]) else .tup [enc ex0, .bool false]) := by
      unfold Hold mkV sideB instE psX; simp
    have he0 : Hold (putErr a x t = if ffB t x a = true then rightE (psF (sgF x t) a) else 50) := by unfold Hold putErr; rw [if_neg (by omega)]
    have h4 := err_four (x := x) ra rt hT
    have hp := psF_err a3 (termF_sg (x := x) t3 hT)
    have hgw := gw_ps (x := x) (t := t) a a3
    have hm1 : min (nodesN a) 1001 = cntE a := by rw [nodesN_eq]; omega
    have hm2 : min (nodesN t) 1001 = cntE t := by rw [nodesN_eq]; omega
    have hgl := gw_le x (cntE t) a
    have hgb : cntE a * (cntE t + 1) ≤ 1000 * 1001 := Nat.mul_le_mul a1 (by omega)
    have hok : okGr a (cntE t : Nat) := ⟨a3, a1, by omega, by omega⟩
    have hw1 : IntKind.i64.wrap (2 + (cntE a : Int)) = 2 + (cntE a : Int) := wrap64 (by omega) (by omega)
    have hw2 : IntKind.i64.wrap (2 + (cntE a : Int) + (gwE x (cntE t) a : Nat)) = 2 + (cntE a : Int) + (gwE x (cntE t) a : Nat) := wrap64 (by omega) (by omega)
    have hpx : putErr a x t = 0 → putX a x t = psF (sgF x t) a := put_good
    have hpb : ∀ n, putErr a x t = n → n ≠ 0 → putX a x t = ex0 := fun n h1 h2 => put_bad h1 h2
    rw [hgw] at hw2
    generalize hP : psF (sgF x t) a = P at *
    by_cases c : ffB t x a = true
    rotate_left
    · have e50 : putErr a x t = 50 := by unfold Hold at he0; rw [he0, if_neg c]
      have hx := hpb 50 e50 (by omega)
      have hv : Hold (mkV 4 [a, t] x = .tup [enc ex0, .bool false]) := by unfold Hold at *; rw [hv0, if_neg c]
      clear hv0 he0 h4 hp hpx hpb hw1 hw2 hgl hgb hgw hP
      have hE := ((EnvOk.nil (P := Tryz.prog) (eq := fun _ => false) (own := fun _ => false) (mem := fun _ => false) EqOk.none).addf ok_Put)
      refine ⟨⟨Tryz.f121, Tryz.func121, by decide, rfl⟩, pure_of_T Tryz.func121 rfl (by simp [Tryz.ntmps121]) fun q => ?_⟩
      repeat' (first | (with_reducible refine T.sq fun K hK => ?_) | ((first | ((with_reducible refine T.reg hE ?hd ?_); (case hd => kernel_rfl)) | ((with_reducible refine T.any hE mixed ?hd ?hok ?_); (case hd => kernel_rfl); (case hok => kernel_rfl))); simp [*]; (repeat' (split; all_goals (rename_i hc; try simp [*])))) | ((with_reducible refine T.ret ?_); refine fin_pure ?_; simp [*]; try (change Hold _)) | (with_reducible refine T.block ?_) | ((with_reducible refine T.skip ?_); simp [*]) | ((with_reducible refine T.exit ?_); simp [*]) | ((with_reducible refine T.br fun K1 K2 hK1 hK2 => ?_); simp [*]; try ((refine Br.intro (fun hc => ?_) (fun hc => ?_)) <;> (try simp at hc))) | (with_reducible refine Cont.go (by assumption) _ ?_) | (with_reducible refine Cnt.go (by assumption) ?_))
      all_goals (unfold Hold at *; rw [hv]; try simp [ex0])
    have hv1 : Hold (mkV 4 [a, t] x = if rightE P = 0 then .tup [enc (impX (allQ x a) P), .bool true] else .tup [enc (.mk (-(rightE (impX (allQ x a) P))) 0 []), .bool true]) := by unfold Hold at *; rw [hv0, if_pos c]
    have he1 : putErr a x t = rightE P := by unfold Hold at he0; rw [he0, if_pos c]
    clear hv0 he0
    by_cases u : rightE P = 0
    · have hx := hpx (by rw [he1, u])
      have hv : Hold (mkV 4 [a, t] x = .tup [enc (impX (allQ x a) P), .bool true]) := by unfold Hold at *; rw [hv1, if_pos u]
      rw [u] at he1
      clear hv1 h4 hp hpx hpb hw1 hw2 hgl hgb hgw hP
      have hE := ((((EnvOk.nil (P := Tryz.prog) (eq := fun _ => false) (own := fun _ => false) (mem := fun _ => false) EqOk.none).addf ok_Put).addf ok_sAll).addf ok_sImp)
      refine ⟨⟨Tryz.f121, Tryz.func121, by decide, rfl⟩, pure_of_T Tryz.func121 rfl (by simp [Tryz.ntmps121]) fun q => ?_⟩
      repeat' (first | (with_reducible refine T.sq fun K hK => ?_) | ((first | ((with_reducible refine T.reg hE ?hd ?_); (case hd => kernel_rfl)) | ((with_reducible refine T.any hE mixed ?hd ?hok ?_); (case hd => kernel_rfl); (case hok => kernel_rfl))); simp [*]; (repeat' (split; all_goals (rename_i hc; try simp [*])))) | ((with_reducible refine T.ret ?_); refine fin_pure ?_; simp [*]; try (change Hold _)) | (with_reducible refine T.block ?_) | ((with_reducible refine T.skip ?_); simp [*]) | ((with_reducible refine T.exit ?_); simp [*]) | ((with_reducible refine T.br fun K1 K2 hK1 hK2 => ?_); simp [*]; try ((refine Br.intro (fun hc => ?_) (fun hc => ?_)) <;> (try simp at hc))) | (with_reducible refine Cont.go (by assumption) _ ?_) | (with_reducible refine Cnt.go (by assumption) ?_))
      all_goals (unfold Hold at *; rw [hv]; try simp)
    have hx := hpb _ he1 u
    have hv2 : Hold (mkV 4 [a, t] x = .tup [enc (.mk (-(rightE (impX (allQ x a) P))) 0 []), .bool true]) := by unfold Hold at *; rw [hv1, if_neg u]
    clear hv1 hpx hpb hgl hgb
    have hw20 : IntKind.i64.wrap (-20) = -20 := wrap64 (by omega) (by omega)
    have hw21 : IntKind.i64.wrap (-21) = -21 := wrap64 (by omega) (by omega)
    by_cases v : cntE P > 1000
    · have h20 : rightE P = 20 := by rw [rightE_eq, nodesN_eq, if_pos v]
      rw [if_pos v] at h4
      have hv : Hold (mkV 4 [a, t] x = .tup [enc (.mk (-20) 0 []), .bool true]) := by unfold Hold at *; rw [hv2, h4]
      rw [h20] at he1
      clear hv2 h4 hp hgw hP u h20 v hw1 hw2
      have hE := ((EnvOk.nil (P := Tryz.prog) (eq := fun _ => false) (own := fun _ => false) (mem := fun _ => false) EqOk.none).addf ok_Put)
      refine ⟨⟨Tryz.f121, Tryz.func121, by decide, rfl⟩, pure_of_T Tryz.func121 rfl (by simp [Tryz.ntmps121]) fun q => ?_⟩
      repeat' (first | (with_reducible refine T.sq fun K hK => ?_) | ((first | ((with_reducible refine T.reg hE ?hd ?_); (case hd => kernel_rfl)) | ((with_reducible refine T.any hE mixed ?hd ?hok ?_); (case hd => kernel_rfl); (case hok => kernel_rfl))); simp [*]; (repeat' (split; all_goals (rename_i hc; try simp [*])))) | ((with_reducible refine T.ret ?_); refine fin_pure ?_; simp [*]; try (change Hold _)) | (with_reducible refine T.block ?_) | ((with_reducible refine T.skip ?_); simp [*]) | ((with_reducible refine T.exit ?_); simp [*]) | ((with_reducible refine T.br fun K1 K2 hK1 hK2 => ?_); simp [*]; try ((refine Br.intro (fun hc => ?_) (fun hc => ?_)) <;> (try simp at hc))) | (with_reducible refine Cont.go (by assumption) _ ?_) | (with_reducible refine Cnt.go (by assumption) ?_))
      all_goals (unfold Hold at *; rw [hv]; try simp)
    have h21 : rightE P = 21 := by
      rcases hp with hp | hp | hp
      · exact absurd hp u
      · rw [rightE_eq, nodesN_eq, if_neg v] at hp
        split at hp
        · cases hp
        · split at hp <;> cases hp
      · exact hp
    rw [if_neg v, if_neg u] at h4
    rw [h21] at he1
    by_cases w : 2 + cntE a + cntE P > 1000
    · rw [if_pos w] at h4
      have hv : Hold (mkV 4 [a, t] x = .tup [enc (.mk (-20) 0 []), .bool true]) := by unfold Hold at *; rw [hv2, h4]
      have wi : (1000 : Int) < 2 + (cntE a : Int) + (cntE P : Nat) := by omega
      clear hv2 h4 hp hP u v w
      have hE := ((((EnvOk.nil (P := Tryz.prog) (eq := fun _ => false) (own := fun _ => false) (mem := fun _ => false) EqOk.none).addf ok_Put).addf ok_Size).addf ok_grown)
      refine ⟨⟨Tryz.f121, Tryz.func121, by decide, rfl⟩, pure_of_T Tryz.func121 rfl (by simp [Tryz.ntmps121]) fun q => ?_⟩
      repeat' (first | (with_reducible refine T.sq fun K hK => ?_) | ((first | ((with_reducible refine T.reg hE ?hd ?_); (case hd => kernel_rfl)) | ((with_reducible refine T.any hE mixed ?hd ?hok ?_); (case hd => kernel_rfl); (case hok => kernel_rfl))); simp [*]; (repeat' (split; all_goals (rename_i hc; try simp [*])))) | ((with_reducible refine T.ret ?_); refine fin_pure ?_; simp [*]; try (change Hold _)) | (with_reducible refine T.block ?_) | ((with_reducible refine T.skip ?_); simp [*]) | ((with_reducible refine T.exit ?_); simp [*]) | ((with_reducible refine T.br fun K1 K2 hK1 hK2 => ?_); simp [*]; try ((refine Br.intro (fun hc => ?_) (fun hc => ?_)) <;> (try simp at hc))) | (with_reducible refine Cont.go (by assumption) _ ?_) | (with_reducible refine Cnt.go (by assumption) ?_))
      all_goals (unfold Hold at *; rw [hv]; try simp)
    · rw [if_neg w] at h4
      have hv : Hold (mkV 4 [a, t] x = .tup [enc (.mk (-21) 0 []), .bool true]) := by unfold Hold at *; rw [hv2, h4]
      have wi : ¬ (1000 : Int) < 2 + (cntE a : Int) + (cntE P : Nat) := by omega
      clear hv2 h4 hp hP u v w
      have hE := ((((EnvOk.nil (P := Tryz.prog) (eq := fun _ => false) (own := fun _ => false) (mem := fun _ => false) EqOk.none).addf ok_Put).addf ok_Size).addf ok_grown)
      refine ⟨⟨Tryz.f121, Tryz.func121, by decide, rfl⟩, pure_of_T Tryz.func121 rfl (by simp [Tryz.ntmps121]) fun q => ?_⟩
      repeat' (first | (with_reducible refine T.sq fun K hK => ?_) | ((first | ((with_reducible refine T.reg hE ?hd ?_); (case hd => kernel_rfl)) | ((with_reducible refine T.any hE mixed ?hd ?hok ?_); (case hd => kernel_rfl); (case hok => kernel_rfl))); simp [*]; (repeat' (split; all_goals (rename_i hc; try simp [*])))) | ((with_reducible refine T.ret ?_); refine fin_pure ?_; simp [*]; try (change Hold _)) | (with_reducible refine T.block ?_) | ((with_reducible refine T.skip ?_); simp [*]) | ((with_reducible refine T.exit ?_); simp [*]) | ((with_reducible refine T.br fun K1 K2 hK1 hK2 => ?_); simp [*]; try ((refine Br.intro (fun hc => ?_) (fun hc => ?_)) <;> (try simp at hc))) | (with_reducible refine Cont.go (by assumption) _ ?_) | (with_reducible refine Cnt.go (by assumption) ?_))
      all_goals (unfold Hold at *; rw [hv]; try simp)
  · cases hr

/-! ### The rows -/
def rowC (n : Int) (s : ByteArray) (b : Bool) (mk fd : FuncId) : List V := [.int .i64 n, .str s, .bool b, .fn mk [], .fn fd []]
@[simp] theorem rowC_eq (n : Int) (s : ByteArray) (b : Bool) (mk fd : FuncId) : rowC n s b mk fd = [.int .i64 n, .str s, .bool b, .fn mk [], .fn fd []] := rfl
def rowsV : List (List V) := [rowC 1 ⟨#[102, 102]⟩ false 112 114, rowC 2 ⟨#[102, 102, 102]⟩ false 116 117, rowC 3 ⟨#[102, 102]⟩ false 118 120, rowC 4 ⟨#[102, 116]⟩ true 121 122, rowC 5 ⟨#[102, 102]⟩ true 123 126, rowC 6 ⟨#[116]⟩ false 127 129, rowC 7 ⟨#[116, 116, 102, 102]⟩ false 130 132]
def rowZ : List V := [.int .i64 0, .str ⟨#[]⟩, .bool false, .nilf, .nilf]
def pickR (k : Int) : V := if k = 1 then .tup [.agg (rowC 1 ⟨#[102, 102]⟩ false 112 114), .bool true] else if k = 2 then .tup [.agg (rowC 2 ⟨#[102, 102, 102]⟩ false 116 117), .bool true] else if k = 3 then .tup [.agg (rowC 3 ⟨#[102, 102]⟩ false 118 120), .bool true] else if k = 4 then .tup [.agg (rowC 4 ⟨#[102, 116]⟩ true 121 122), .bool true] else if k = 5 then .tup [.agg (rowC 5 ⟨#[102, 102]⟩ true 123 126), .bool true] else if k = 6 then .tup [.agg (rowC 6 ⟨#[116]⟩ false 127 129), .bool true] else if k = 7 then .tup [.agg (rowC 7 ⟨#[116, 116, 102, 102]⟩ false 130 132), .bool true] else .tup [.agg rowZ, .bool false]
@[simp] def gRows : List V → Option V := fun args => match args with
  | [] => some (.sl rowsV .no)
  | _ => none
set_option maxHeartbeats 1000000 in
theorem ok_rows : PureOk Tryz.prog 52 gRows := by
  intro args r h
  simp only [gRows] at h
  split at h
  · cases h
    have hE := (EnvOk.nil (P := Tryz.prog) (eq := fun _ => false) (own := fun _ => false) (mem := fun _ => false) EqOk.none)
    have hr7 : List.range 7 = [0, 1, 2, 3, 4, 5, 6] := rfl
    refine ⟨⟨Tryz.f52, Tryz.func52, by decide, rfl⟩, pure_of_T Tryz.func52 rfl (by simp [Tryz.ntmps52]) fun q => ?_⟩
    repeat' (first | (with_reducible refine T.sq fun K hK => ?_) | ((first | ((with_reducible refine T.reg hE ?hd ?_); (case hd => kernel_rfl)) | ((with_reducible refine T.any hE mixed ?hd ?hok ?_); (case hd => kernel_rfl); (case hok => kernel_rfl))); simp [*]; (repeat' (split; all_goals (rename_i hc; try simp [*])))) | ((with_reducible refine T.ret ?_); refine fin_pure ?_; simp [*]; try (change Hold _)) | (with_reducible refine T.block ?_) | ((with_reducible refine T.skip ?_); simp [*]) | ((with_reducible refine T.exit ?_); simp [*]) | ((with_reducible refine T.br fun K1 K2 hK1 hK2 => ?_); simp [*]; try ((refine Br.intro (fun hc => ?_) (fun hc => ?_)) <;> (try simp at hc))) | (with_reducible refine Cont.go (by assumption) _ ?_) | (with_reducible refine Cnt.go (by assumption) ?_))
    all_goals (unfold Hold rowsV; first | rfl | (simp; done))
  · cases h
def okRi (f : FuncId) (els : List (List V)) : Prop := f = 90 ∧ els = rowsV
noncomputable instance (f : FuncId) (els : List (List V)) : Decidable (okRi f els) := Classical.propDecidable _
theorem okRi_mk : okRi 90 rowsV := ⟨rfl, rfl⟩
@[simp] def gRowIs : List V → Option V := fun args => match args with
  | [.agg [.int .i64 n, .str _, .bool _, .fn _ [], .fn _ []], .cptr [.int .i64 k] 0] => some (.bool (decide (n = k)))
  | _ => none
theorem ok_rowIs : PureOk Tryz.prog 90 gRowIs := by
  intro args r h
  simp only [gRowIs] at h
  split at h
  · rename_i n s b mk fd k
    cases h
    have hE := (EnvOk.nil (P := Tryz.prog) (eq := fun _ => false) (own := fun _ => false) (mem := fun _ => false) EqOk.none)
    refine ⟨⟨Tryz.f90, Tryz.func90, by decide, rfl⟩, pure_of_T Tryz.func90 rfl (by simp [Tryz.ntmps90]) fun q => ?_⟩
    by_cases c : n = k
    · subst c
      repeat' (first | (with_reducible refine T.sq fun K hK => ?_) | ((first | ((with_reducible refine T.reg hE ?hd ?_); (case hd => kernel_rfl)) | ((with_reducible refine T.any hE mixed ?hd ?hok ?_); (case hd => kernel_rfl); (case hok => kernel_rfl))); simp [*]; (repeat' (split; all_goals (rename_i hc; try simp [*])))) | ((with_reducible refine T.ret ?_); refine fin_pure ?_; simp [*]; try (change Hold _)) | (with_reducible refine T.block ?_) | ((with_reducible refine T.skip ?_); simp [*]) | ((with_reducible refine T.exit ?_); simp [*]) | ((with_reducible refine T.br fun K1 K2 hK1 hK2 => ?_); simp [*]; try ((refine Br.intro (fun hc => ?_) (fun hc => ?_)) <;> (try simp at hc))) | (with_reducible refine Cont.go (by assumption) _ ?_) | (with_reducible refine Cnt.go (by assumption) ?_))
      all_goals (unfold Hold; first | rfl | (simp; done))
    · repeat' (first | (with_reducible refine T.sq fun K hK => ?_) | ((first | ((with_reducible refine T.reg hE ?hd ?_); (case hd => kernel_rfl)) | ((with_reducible refine T.any hE mixed ?hd ?hok ?_); (case hd => kernel_rfl); (case hok => kernel_rfl))); simp [*]; (repeat' (split; all_goals (rename_i hc; try simp [*])))) | ((with_reducible refine T.ret ?_); refine fin_pure ?_; simp [*]; try (change Hold _)) | (with_reducible refine T.block ?_) | ((with_reducible refine T.skip ?_); simp [*]) | ((with_reducible refine T.exit ?_); simp [*]) | ((with_reducible refine T.br fun K1 K2 hK1 hK2 => ?_); simp [*]; try ((refine Br.intro (fun hc => ?_) (fun hc => ?_)) <;> (try simp at hc))) | (with_reducible refine Cont.go (by assumption) _ ?_) | (with_reducible refine Cnt.go (by assumption) ?_))
      all_goals (unfold Hold; first | rfl | (simp [c]; done))
  · cases h
@[simp] noncomputable def gPickRow : List V → Option V := fun args => match args with
  | [.sl els .no, .fn f [.cptr [.int .i64 k] 0]] => if okRi f els then some (pickR k) else none
  | _ => none
set_option maxHeartbeats 2000000 in
theorem ok_pickRow : PureOk Tryz.prog 89 gPickRow := by
  intro args r h
  simp only [gPickRow] at h
  split at h
  · rename_i els f k
    split at h
    · rename_i hok
      obtain ⟨rfl, rfl⟩ := hok
      cases h
      have hE := ((EnvOk.nil (P := Tryz.prog) (eq := fun _ => false) (own := fun _ => false) (mem := fun _ => false) EqOk.none).addf ok_rowIs)
      refine ⟨⟨Tryz.f89, Tryz.func89, by decide, rfl⟩, pure_of_T Tryz.func89 rfl (by simp [Tryz.ntmps89]) fun q => ?_⟩
      unfold rowsV
      repeat' (first | (with_reducible refine T.sq fun K hK => ?_) | ((first | ((with_reducible refine T.reg hE ?hd ?_); (case hd => kernel_rfl)) | ((with_reducible refine T.any hE mixed ?hd ?hok ?_); (case hd => kernel_rfl); (case hok => kernel_rfl))); simp [*]; (repeat' (split; all_goals (rename_i hc; try simp [*])))) | ((with_reducible refine T.ret ?_); refine fin_pure ?_; simp [*]; try (change Hold _)) | (with_reducible refine T.block ?_) | ((with_reducible refine T.skip ?_); simp [*]) | ((with_reducible refine T.exit ?_); simp [*]) | ((with_reducible refine T.br fun K1 K2 hK1 hK2 => ?_); simp [*]; try ((refine Br.intro (fun hc => ?_) (fun hc => ?_)) <;> (try simp at hc))) | (with_reducible refine Cont.go (by assumption) _ ?_) | (with_reducible refine Cnt.go (by assumption) ?_))
      refine T.loop (fun n σ => ∃ j : Nat, n = 7 - j ∧ σ.get 1 = .fn 90 [.cptr [.int .i64 k] 0] ∧ σ.get 4 = .ptr (0 :: 6 :: q) 0 ∧ (∃ c0 c1 c2 c3 c4, σ.M (0 :: 6 :: q) = some (.cells [c0, c1, c2, c3, c4])) ∧ σ.get 9 = .sl rowsV .no ∧ σ.get 10 = .int .i64 7 ∧ σ.get 11 = .int .i64 j ∧ j ≤ 7 ∧ Hold (1 ≤ k → (j : Int) < k)) 7 ⟨0, by simp, by simp [*], by simp [*], by simp [*], by simp [*, rowsV], by simp [*], by simp [*], by omega, by unfold Hold; omega⟩ ?_
      rintro n σ ⟨j, rfl, g1, g2, ⟨c0, c1, c2, c3, c4, g3⟩, g4, g5, g6, g7, g8⟩
      unfold rowsV at g4
      have w0 : IntKind.i64.wrap 0 = 0 := wrap64 (by omega) (by omega)
      have w11 : IntKind.i64.wrap 1 = 1 := wrap64 (by omega) (by omega)
      have w12 : IntKind.i64.wrap 2 = 2 := wrap64 (by omega) (by omega)
      have w13 : IntKind.i64.wrap 3 = 3 := wrap64 (by omega) (by omega)
      have w14 : IntKind.i64.wrap 4 = 4 := wrap64 (by omega) (by omega)
      have w15 : IntKind.i64.wrap 5 = 5 := wrap64 (by omega) (by omega)
      have w16 : IntKind.i64.wrap 6 = 6 := wrap64 (by omega) (by omega)
      have w17 : IntKind.i64.wrap 7 = 7 := wrap64 (by omega) (by omega)
      by_cases hj : j < 7
      · rcases (show j = 0 ∨ j = 1 ∨ j = 2 ∨ j = 3 ∨ j = 4 ∨ j = 5 ∨ j = 6 by omega) with rfl | rfl | rfl | rfl | rfl | rfl | rfl
        · by_cases c : 1 = k
          · subst c
            have hv : Hold (pickR 1 = .tup [.agg (rowC 1 ⟨#[102, 102]⟩ false 112 114), .bool true]) := rfl
            clear g8
            repeat' (first | (with_reducible refine T.sq fun K hK => ?_) | ((first | ((with_reducible refine T.reg hE ?hd ?_); (case hd => kernel_rfl)) | ((with_reducible refine T.any hE mixed ?hd ?hok ?_); (case hd => kernel_rfl); (case hok => kernel_rfl))); simp [*]; (repeat' (split; all_goals (rename_i hc; try simp [*])))) | ((with_reducible refine T.ret ?_); refine fin_pure ?_; simp [*]; try (change Hold _)) | (with_reducible refine T.block ?_) | ((with_reducible refine T.skip ?_); simp [*]) | ((with_reducible refine T.exit ?_); simp [*]) | ((with_reducible refine T.br fun K1 K2 hK1 hK2 => ?_); simp [*]; try ((refine Br.intro (fun hc => ?_) (fun hc => ?_)) <;> (try simp at hc))) | (with_reducible refine Cont.go (by assumption) _ ?_) | (with_reducible refine Cnt.go (by assumption) ?_))
            all_goals (unfold Hold at *; rw [hv]; try simp)
          · have hn : Hold (1 ≤ k → ((1 : Nat) : Int) < k) := by unfold Hold at *; omega
            clear g8
            repeat' (first | (with_reducible refine T.sq fun K hK => ?_) | ((first | ((with_reducible refine T.reg hE ?hd ?_); (case hd => kernel_rfl)) | ((with_reducible refine T.any hE mixed ?hd ?hok ?_); (case hd => kernel_rfl); (case hok => kernel_rfl))); simp [*]; (repeat' (split; all_goals (rename_i hc; try simp [*])))) | ((with_reducible refine T.ret ?_); refine fin_pure ?_; simp [*]; try (change Hold _)) | (with_reducible refine T.block ?_) | ((with_reducible refine T.skip ?_); simp [*]) | ((with_reducible refine T.exit ?_); simp [*]) | ((with_reducible refine T.br fun K1 K2 hK1 hK2 => ?_); simp [*]; try ((refine Br.intro (fun hc => ?_) (fun hc => ?_)) <;> (try simp at hc))) | (with_reducible refine Cont.go (by assumption) _ ?_) | (with_reducible refine Cnt.go (by assumption) ?_))
            exact ⟨7 - 1, by omega, 1, rfl, rfl, by omega, by omega, hn⟩
        · by_cases c : 2 = k
          · subst c
            have hv : Hold (pickR 2 = .tup [.agg (rowC 2 ⟨#[102, 102, 102]⟩ false 116 117), .bool true]) := rfl
            clear g8
            repeat' (first | (with_reducible refine T.sq fun K hK => ?_) | ((first | ((with_reducible refine T.reg hE ?hd ?_); (case hd => kernel_rfl)) | ((with_reducible refine T.any hE mixed ?hd ?hok ?_); (case hd => kernel_rfl); (case hok => kernel_rfl))); simp [*]; (repeat' (split; all_goals (rename_i hc; try simp [*])))) | ((with_reducible refine T.ret ?_); refine fin_pure ?_; simp [*]; try (change Hold _)) | (with_reducible refine T.block ?_) | ((with_reducible refine T.skip ?_); simp [*]) | ((with_reducible refine T.exit ?_); simp [*]) | ((with_reducible refine T.br fun K1 K2 hK1 hK2 => ?_); simp [*]; try ((refine Br.intro (fun hc => ?_) (fun hc => ?_)) <;> (try simp at hc))) | (with_reducible refine Cont.go (by assumption) _ ?_) | (with_reducible refine Cnt.go (by assumption) ?_))
            all_goals (unfold Hold at *; rw [hv]; try simp)
          · have hn : Hold (1 ≤ k → ((2 : Nat) : Int) < k) := by unfold Hold at *; omega
            clear g8
            repeat' (first | (with_reducible refine T.sq fun K hK => ?_) | ((first | ((with_reducible refine T.reg hE ?hd ?_); (case hd => kernel_rfl)) | ((with_reducible refine T.any hE mixed ?hd ?hok ?_); (case hd => kernel_rfl); (case hok => kernel_rfl))); simp [*]; (repeat' (split; all_goals (rename_i hc; try simp [*])))) | ((with_reducible refine T.ret ?_); refine fin_pure ?_; simp [*]; try (change Hold _)) | (with_reducible refine T.block ?_) | ((with_reducible refine T.skip ?_); simp [*]) | ((with_reducible refine T.exit ?_); simp [*]) | ((with_reducible refine T.br fun K1 K2 hK1 hK2 => ?_); simp [*]; try ((refine Br.intro (fun hc => ?_) (fun hc => ?_)) <;> (try simp at hc))) | (with_reducible refine Cont.go (by assumption) _ ?_) | (with_reducible refine Cnt.go (by assumption) ?_))
            exact ⟨7 - 2, by omega, 2, rfl, rfl, by omega, by omega, hn⟩
        · by_cases c : 3 = k
          · subst c
            have hv : Hold (pickR 3 = .tup [.agg (rowC 3 ⟨#[102, 102]⟩ false 118 120), .bool true]) := rfl
            clear g8
            repeat' (first | (with_reducible refine T.sq fun K hK => ?_) | ((first | ((with_reducible refine T.reg hE ?hd ?_); (case hd => kernel_rfl)) | ((with_reducible refine T.any hE mixed ?hd ?hok ?_); (case hd => kernel_rfl); (case hok => kernel_rfl))); simp [*]; (repeat' (split; all_goals (rename_i hc; try simp [*])))) | ((with_reducible refine T.ret ?_); refine fin_pure ?_; simp [*]; try (change Hold _)) | (with_reducible refine T.block ?_) | ((with_reducible refine T.skip ?_); simp [*]) | ((with_reducible refine T.exit ?_); simp [*]) | ((with_reducible refine T.br fun K1 K2 hK1 hK2 => ?_); simp [*]; try ((refine Br.intro (fun hc => ?_) (fun hc => ?_)) <;> (try simp at hc))) | (with_reducible refine Cont.go (by assumption) _ ?_) | (with_reducible refine Cnt.go (by assumption) ?_))
            all_goals (unfold Hold at *; rw [hv]; try simp)
          · have hn : Hold (1 ≤ k → ((3 : Nat) : Int) < k) := by unfold Hold at *; omega
            clear g8
            repeat' (first | (with_reducible refine T.sq fun K hK => ?_) | ((first | ((with_reducible refine T.reg hE ?hd ?_); (case hd => kernel_rfl)) | ((with_reducible refine T.any hE mixed ?hd ?hok ?_); (case hd => kernel_rfl); (case hok => kernel_rfl))); simp [*]; (repeat' (split; all_goals (rename_i hc; try simp [*])))) | ((with_reducible refine T.ret ?_); refine fin_pure ?_; simp [*]; try (change Hold _)) | (with_reducible refine T.block ?_) | ((with_reducible refine T.skip ?_); simp [*]) | ((with_reducible refine T.exit ?_); simp [*]) | ((with_reducible refine T.br fun K1 K2 hK1 hK2 => ?_); simp [*]; try ((refine Br.intro (fun hc => ?_) (fun hc => ?_)) <;> (try simp at hc))) | (with_reducible refine Cont.go (by assumption) _ ?_) | (with_reducible refine Cnt.go (by assumption) ?_))
            exact ⟨7 - 3, by omega, 3, rfl, rfl, by omega, by omega, hn⟩
        · by_cases c : 4 = k
          · subst c
            have hv : Hold (pickR 4 = .tup [.agg (rowC 4 ⟨#[102, 116]⟩ true 121 122), .bool true]) := rfl
            clear g8
            repeat' (first | (with_reducible refine T.sq fun K hK => ?_) | ((first | ((with_reducible refine T.reg hE ?hd ?_); (case hd => kernel_rfl)) | ((with_reducible refine T.any hE mixed ?hd ?hok ?_); (case hd => kernel_rfl); (case hok => kernel_rfl))); simp [*]; (repeat' (split; all_goals (rename_i hc; try simp [*])))) | ((with_reducible refine T.ret ?_); refine fin_pure ?_; simp [*]; try (change Hold _)) | (with_reducible refine T.block ?_) | ((with_reducible refine T.skip ?_); simp [*]) | ((with_reducible refine T.exit ?_); simp [*]) | ((with_reducible refine T.br fun K1 K2 hK1 hK2 => ?_); simp [*]; try ((refine Br.intro (fun hc => ?_) (fun hc => ?_)) <;> (try simp at hc))) | (with_reducible refine Cont.go (by assumption) _ ?_) | (with_reducible refine Cnt.go (by assumption) ?_))
            all_goals (unfold Hold at *; rw [hv]; try simp)
          · have hn : Hold (1 ≤ k → ((4 : Nat) : Int) < k) := by unfold Hold at *; omega
            clear g8
            repeat' (first | (with_reducible refine T.sq fun K hK => ?_) | ((first | ((with_reducible refine T.reg hE ?hd ?_); (case hd => kernel_rfl)) | ((with_reducible refine T.any hE mixed ?hd ?hok ?_); (case hd => kernel_rfl); (case hok => kernel_rfl))); simp [*]; (repeat' (split; all_goals (rename_i hc; try simp [*])))) | ((with_reducible refine T.ret ?_); refine fin_pure ?_; simp [*]; try (change Hold _)) | (with_reducible refine T.block ?_) | ((with_reducible refine T.skip ?_); simp [*]) | ((with_reducible refine T.exit ?_); simp [*]) | ((with_reducible refine T.br fun K1 K2 hK1 hK2 => ?_); simp [*]; try ((refine Br.intro (fun hc => ?_) (fun hc => ?_)) <;> (try simp at hc))) | (with_reducible refine Cont.go (by assumption) _ ?_) | (with_reducible refine Cnt.go (by assumption) ?_))
            exact ⟨7 - 4, by omega, 4, rfl, rfl, by omega, by omega, hn⟩
        · by_cases c : 5 = k
          · subst c
            have hv : Hold (pickR 5 = .tup [.agg (rowC 5 ⟨#[102, 102]⟩ true 123 126), .bool true]) := rfl
            clear g8
            repeat' (first | (with_reducible refine T.sq fun K hK => ?_) | ((first | ((with_reducible refine T.reg hE ?hd ?_); (case hd => kernel_rfl)) | ((with_reducible refine T.any hE mixed ?hd ?hok ?_); (case hd => kernel_rfl); (case hok => kernel_rfl))); simp [*]; (repeat' (split; all_goals (rename_i hc; try simp [*])))) | ((with_reducible refine T.ret ?_); refine fin_pure ?_; simp [*]; try (change Hold _)) | (with_reducible refine T.block ?_) | ((with_reducible refine T.skip ?_); simp [*]) | ((with_reducible refine T.exit ?_); simp [*]) | ((with_reducible refine T.br fun K1 K2 hK1 hK2 => ?_); simp [*]; try ((refine Br.intro (fun hc => ?_) (fun hc => ?_)) <;> (try simp at hc))) | (with_reducible refine Cont.go (by assumption) _ ?_) | (with_reducible refine Cnt.go (by assumption) ?_))
            all_goals (unfold Hold at *; rw [hv]; try simp)
          · have hn : Hold (1 ≤ k → ((5 : Nat) : Int) < k) := by unfold Hold at *; omega
            clear g8
            repeat' (first | (with_reducible refine T.sq fun K hK => ?_) | ((first | ((with_reducible refine T.reg hE ?hd ?_); (case hd => kernel_rfl)) | ((with_reducible refine T.any hE mixed ?hd ?hok ?_); (case hd => kernel_rfl); (case hok => kernel_rfl))); simp [*]; (repeat' (split; all_goals (rename_i hc; try simp [*])))) | ((with_reducible refine T.ret ?_); refine fin_pure ?_; simp [*]; try (change Hold _)) | (with_reducible refine T.block ?_) | ((with_reducible refine T.skip ?_); simp [*]) | ((with_reducible refine T.exit ?_); simp [*]) | ((with_reducible refine T.br fun K1 K2 hK1 hK2 => ?_); simp [*]; try ((refine Br.intro (fun hc => ?_) (fun hc => ?_)) <;> (try simp at hc))) | (with_reducible refine Cont.go (by assumption) _ ?_) | (with_reducible refine Cnt.go (by assumption) ?_))
            exact ⟨7 - 5, by omega, 5, rfl, rfl, by omega, by omega, hn⟩
        · by_cases c : 6 = k
          · subst c
            have hv : Hold (pickR 6 = .tup [.agg (rowC 6 ⟨#[116]⟩ false 127 129), .bool true]) := rfl
            clear g8
            repeat' (first | (with_reducible refine T.sq fun K hK => ?_) | ((first | ((with_reducible refine T.reg hE ?hd ?_); (case hd => kernel_rfl)) | ((with_reducible refine T.any hE mixed ?hd ?hok ?_); (case hd => kernel_rfl); (case hok => kernel_rfl))); simp [*]; (repeat' (split; all_goals (rename_i hc; try simp [*])))) | ((with_reducible refine T.ret ?_); refine fin_pure ?_; simp [*]; try (change Hold _)) | (with_reducible refine T.block ?_) | ((with_reducible refine T.skip ?_); simp [*]) | ((with_reducible refine T.exit ?_); simp [*]) | ((with_reducible refine T.br fun K1 K2 hK1 hK2 => ?_); simp [*]; try ((refine Br.intro (fun hc => ?_) (fun hc => ?_)) <;> (try simp at hc))) | (with_reducible refine Cont.go (by assumption) _ ?_) | (with_reducible refine Cnt.go (by assumption) ?_))
            all_goals (unfold Hold at *; rw [hv]; try simp)
          · have hn : Hold (1 ≤ k → ((6 : Nat) : Int) < k) := by unfold Hold at *; omega
            clear g8
            repeat' (first | (with_reducible refine T.sq fun K hK => ?_) | ((first | ((with_reducible refine T.reg hE ?hd ?_); (case hd => kernel_rfl)) | ((with_reducible refine T.any hE mixed ?hd ?hok ?_); (case hd => kernel_rfl); (case hok => kernel_rfl))); simp [*]; (repeat' (split; all_goals (rename_i hc; try simp [*])))) | ((with_reducible refine T.ret ?_); refine fin_pure ?_; simp [*]; try (change Hold _)) | (with_reducible refine T.block ?_) | ((with_reducible refine T.skip ?_); simp [*]) | ((with_reducible refine T.exit ?_); simp [*]) | ((with_reducible refine T.br fun K1 K2 hK1 hK2 => ?_); simp [*]; try ((refine Br.intro (fun hc => ?_) (fun hc => ?_)) <;> (try simp at hc))) | (with_reducible refine Cont.go (by assumption) _ ?_) | (with_reducible refine Cnt.go (by assumption) ?_))
            exact ⟨7 - 6, by omega, 6, rfl, rfl, by omega, by omega, hn⟩
        · by_cases c : 7 = k
          · subst c
            have hv : Hold (pickR 7 = .tup [.agg (rowC 7 ⟨#[116, 116, 102, 102]⟩ false 130 132), .bool true]) := rfl
            clear g8
            repeat' (first | (with_reducible refine T.sq fun K hK => ?_) | ((first | ((with_reducible refine T.reg hE ?hd ?_); (case hd => kernel_rfl)) | ((with_reducible refine T.any hE mixed ?hd ?hok ?_); (case hd => kernel_rfl); (case hok => kernel_rfl))); simp [*]; (repeat' (split; all_goals (rename_i hc; try simp [*])))) | ((with_reducible refine T.ret ?_); refine fin_pure ?_; simp [*]; try (change Hold _)) | (with_reducible refine T.block ?_) | ((with_reducible refine T.skip ?_); simp [*]) | ((with_reducible refine T.exit ?_); simp [*]) | ((with_reducible refine T.br fun K1 K2 hK1 hK2 => ?_); simp [*]; try ((refine Br.intro (fun hc => ?_) (fun hc => ?_)) <;> (try simp at hc))) | (with_reducible refine Cont.go (by assumption) _ ?_) | (with_reducible refine Cnt.go (by assumption) ?_))
            all_goals (unfold Hold at *; rw [hv]; try simp)
          · have hn : Hold (1 ≤ k → ((7 : Nat) : Int) < k) := by unfold Hold at *; omega
            clear g8
            repeat' (first | (with_reducible refine T.sq fun K hK => ?_) | ((first | ((with_reducible refine T.reg hE ?hd ?_); (case hd => kernel_rfl)) | ((with_reducible refine T.any hE mixed ?hd ?hok ?_); (case hd => kernel_rfl); (case hok => kernel_rfl))); simp [*]; (repeat' (split; all_goals (rename_i hc; try simp [*])))) | ((with_reducible refine T.ret ?_); refine fin_pure ?_; simp [*]; try (change Hold _)) | (with_reducible refine T.block ?_) | ((with_reducible refine T.skip ?_); simp [*]) | ((with_reducible refine T.exit ?_); simp [*]) | ((with_reducible refine T.br fun K1 K2 hK1 hK2 => ?_); simp [*]; try ((refine Br.intro (fun hc => ?_) (fun hc => ?_)) <;> (try simp at hc))) | (with_reducible refine Cont.go (by assumption) _ ?_) | (with_reducible refine Cnt.go (by assumption) ?_))
            exact ⟨7, by omega, rfl, by omega, by omega, hn⟩
      · have w8 : j = 7 := by omega
        subst w8
        have hv : Hold (pickR k = .tup [.agg rowZ, .bool false]) := by
          unfold Hold pickR at *
          rw [if_neg (by omega), if_neg (by omega), if_neg (by omega), if_neg (by omega), if_neg (by omega), if_neg (by omega), if_neg (by omega)]
        clear g8
        repeat' (first | (with_reducible refine T.sq fun K hK => ?_) | ((first | ((with_reducible refine T.reg hE ?hd ?_); (case hd => kernel_rfl)) | ((with_reducible refine T.any hE mixed ?hd ?hok ?_); (case hd => kernel_rfl); (case hok => kernel_rfl))); simp [*]; (repeat' (split; all_goals (rename_i hc; try simp [*])))) | ((with_reducible refine T.ret ?_); refine fin_pure ?_; simp [*]; try (change Hold _)) | (with_reducible refine T.block ?_) | ((with_reducible refine T.skip ?_); simp [*]) | ((with_reducible refine T.exit ?_); simp [*]) | ((with_reducible refine T.br fun K1 K2 hK1 hK2 => ?_); simp [*]; try ((refine Br.intro (fun hc => ?_) (fun hc => ?_)) <;> (try simp at hc))) | (with_reducible refine Cont.go (by assumption) _ ?_) | (with_reducible refine Cnt.go (by assumption) ?_))
        all_goals (unfold Hold at *; rw [hv]; try simp [rowZ])
    · cases h
  · cases h
@[simp] def gSchema : List V → Option V := f1 (kI .i64) fun k => some (pickR k)
theorem ok_schema : PureOk Tryz.prog 42 gSchema := by
  intro args r h
  obtain ⟨k, rfl, ⟨⟩⟩ := f1_inv h
  clear h
  have hE := (((EnvOk.nil (P := Tryz.prog) (eq := fun _ => false) (own := fun _ => false) (mem := fun _ => false) EqOk.none).addf ok_rows).addf ok_pickRow)
  refine ⟨⟨Tryz.f42, Tryz.func42, by decide, rfl⟩, pure_of_T Tryz.func42 rfl (by simp [Tryz.ntmps42]) fun q => ?_⟩
  have hok := okRi_mk
  refine T.sq fun K0 hK0 => ?_
  refine T.reg hE rfl ?_
  simp
  refine hK0.go _ ?_
  clear hK0
  refine T.frz 1 (by decide) ?_
  simp [frz]
  have hpv : ∃ cs b, pickR k = .tup [.agg cs, .bool b] ∧ cs.length = 5 ∧ cs.all V.one = true ∧ Hold (List.take 5 (List.map V.er cs) = cs) := by
    unfold pickR
    repeat' split
    all_goals exact ⟨_, _, rfl, rfl, rfl, rfl⟩
  obtain ⟨cs, b, hp1, hp2, hp3, hp4⟩ := hpv
  repeat' (first | (with_reducible refine T.sq fun K hK => ?_) | ((first | ((with_reducible refine T.reg hE ?hd ?_); (case hd => kernel_rfl)) | ((with_reducible refine T.any hE mixed ?hd ?hok ?_); (case hd => kernel_rfl); (case hok => kernel_rfl))); simp [*]; (repeat' (split; all_goals (rename_i hc; try simp [*])))) | ((with_reducible refine T.ret ?_); refine fin_pure ?_; simp [*]; try (change Hold _)) | (with_reducible refine T.block ?_) | ((with_reducible refine T.skip ?_); simp [*]) | ((with_reducible refine T.exit ?_); simp [*]) | ((with_reducible refine T.br fun K1 K2 hK1 hK2 => ?_); simp [*]; try ((refine Br.intro (fun hc => ?_) (fun hc => ?_)) <;> (try simp at hc))) | (with_reducible refine Cont.go (by assumption) _ ?_) | (with_reducible refine Cnt.go (by assumption) ?_))
  all_goals exact hp4
end Go.Proofs.YtibfdebhbibfpaaGreat.Ax
