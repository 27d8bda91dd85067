/- Contracts: the schemas' rows, and what they make. -/
import Derived.Test.YtibfdebhbibfpaaGreatCxU
import Derived.Test.YtibfdebhbibfpaaGreatCxO
set_option linter.unusedVariables false
set_option linter.unusedSimpArgs false
namespace Go.Proofs.YtibfdebhbibfpaaGreat.Ax
open Go Go.Proofs

def eqX (t u : Ex) : Ex := .mk 4 0 [t, u]
@[simp] def g_sImp : List V → Option V := f2 kE kE fun a b => some (enc (impX a b))
theorem ok_sImp : PureOk Tryz.prog 113 g_sImp := by
  intro args r h
  obtain ⟨a, b, rfl, ⟨⟩⟩ := f2_inv h
  clear h
  have hE := (EnvOk.nil (P := Tryz.prog) (eq := fun _ => false) (own := fun _ => false) (mem := fun _ => false) EqOk.none)
  have hr2 : List.range 2 = [0, 1] := rfl
  have hr1 : List.range 1 = [0] := rfl
  refine ⟨⟨Tryz.f113, Tryz.func113, by decide, rfl⟩, pure_of_T Tryz.func113 rfl (by simp [Tryz.ntmps113]) fun q => ?_⟩
  repeat' (first | (with_reducible refine T.sq fun K hK => ?_) | ((first | ((with_reducible refine T.reg hE ?hd ?_); (case hd => kernel_rfl)) | ((with_reducible refine T.any hE mixed ?hd ?hok ?_); (case hd => kernel_rfl); (case hok => kernel_rfl))); simp [*]; (repeat' (split; all_goals (rename_i hc; try simp [*])))) | ((with_reducible refine T.ret ?_); refine fin_pure ?_; simp [*]; try (change Hold _)) | (with_reducible refine T.block ?_) | ((with_reducible refine T.skip ?_); simp [*]) | ((with_reducible refine T.exit ?_); simp [*]) | ((with_reducible refine T.br fun K1 K2 hK1 hK2 => ?_); simp [*]; try ((refine Br.intro (fun hc => ?_) (fun hc => ?_)) <;> (try simp at hc))) | (with_reducible refine Cont.go (by assumption) _ ?_) | (with_reducible refine Cnt.go (by assumption) ?_))
  all_goals (unfold Hold; simp [impX, notX, allQ, eqX, encC_eq])
@[simp] def g_sNot : List V → Option V := f1 kE fun a => some (enc (notX a))
theorem ok_sNot : PureOk Tryz.prog 119 g_sNot := by
  intro args r h
  obtain ⟨a, rfl, ⟨⟩⟩ := f1_inv h
  clear h
  have hE := (EnvOk.nil (P := Tryz.prog) (eq := fun _ => false) (own := fun _ => false) (mem := fun _ => false) EqOk.none)
  have hr2 : List.range 2 = [0, 1] := rfl
  have hr1 : List.range 1 = [0] := rfl
  refine ⟨⟨Tryz.f119, Tryz.func119, by decide, rfl⟩, pure_of_T Tryz.func119 rfl (by simp [Tryz.ntmps119]) fun q => ?_⟩
  repeat' (first | (with_reducible refine T.sq fun K hK => ?_) | ((first | ((with_reducible refine T.reg hE ?hd ?_); (case hd => kernel_rfl)) | ((with_reducible refine T.any hE mixed ?hd ?hok ?_); (case hd => kernel_rfl); (case hok => kernel_rfl))); simp [*]; (repeat' (split; all_goals (rename_i hc; try simp [*])))) | ((with_reducible refine T.ret ?_); refine fin_pure ?_; simp [*]; try (change Hold _)) | (with_reducible refine T.block ?_) | ((with_reducible refine T.skip ?_); simp [*]) | ((with_reducible refine T.exit ?_); simp [*]) | ((with_reducible refine T.br fun K1 K2 hK1 hK2 => ?_); simp [*]; try ((refine Br.intro (fun hc => ?_) (fun hc => ?_)) <;> (try simp at hc))) | (with_reducible refine Cont.go (by assumption) _ ?_) | (with_reducible refine Cnt.go (by assumption) ?_))
  all_goals (unfold Hold; simp [impX, notX, allQ, eqX, encC_eq])
@[simp] def g_sAll : List V → Option V := f2 (kI .i64) kE fun x a => some (enc (allQ x a))
theorem ok_sAll : PureOk Tryz.prog 125 g_sAll := by
  intro args r h
  obtain ⟨x, a, rfl, ⟨⟩⟩ := f2_inv h
  clear h
  have hE := (EnvOk.nil (P := Tryz.prog) (eq := fun _ => false) (own := fun _ => false) (mem := fun _ => false) EqOk.none)
  have hr2 : List.range 2 = [0, 1] := rfl
  have hr1 : List.range 1 = [0] := rfl
  refine ⟨⟨Tryz.f125, Tryz.func125, by decide, rfl⟩, pure_of_T Tryz.func125 rfl (by simp [Tryz.ntmps125]) fun q => ?_⟩
  repeat' (first | (with_reducible refine T.sq fun K hK => ?_) | ((first | ((with_reducible refine T.reg hE ?hd ?_); (case hd => kernel_rfl)) | ((with_reducible refine T.any hE mixed ?hd ?hok ?_); (case hd => kernel_rfl); (case hok => kernel_rfl))); simp [*]; (repeat' (split; all_goals (rename_i hc; try simp [*])))) | ((with_reducible refine T.ret ?_); refine fin_pure ?_; simp [*]; try (change Hold _)) | (with_reducible refine T.block ?_) | ((with_reducible refine T.skip ?_); simp [*]) | ((with_reducible refine T.exit ?_); simp [*]) | ((with_reducible refine T.br fun K1 K2 hK1 hK2 => ?_); simp [*]; try ((refine Br.intro (fun hc => ?_) (fun hc => ?_)) <;> (try simp at hc))) | (with_reducible refine Cont.go (by assumption) _ ?_) | (with_reducible refine Cnt.go (by assumption) ?_))
  all_goals (unfold Hold; simp [impX, notX, allQ, eqX, encC_eq])
@[simp] def g_sEq : List V → Option V := f2 kE kE fun a b => some (enc (eqX a b))
theorem ok_sEq : PureOk Tryz.prog 128 g_sEq := by
  intro args r h
  obtain ⟨a, b, rfl, ⟨⟩⟩ := f2_inv h
  clear h
  have hE := (EnvOk.nil (P := Tryz.prog) (eq := fun _ => false) (own := fun _ => false) (mem := fun _ => false) EqOk.none)
  have hr2 : List.range 2 = [0, 1] := rfl
  have hr1 : List.range 1 = [0] := rfl
  refine ⟨⟨Tryz.f128, Tryz.func128, by decide, rfl⟩, pure_of_T Tryz.func128 rfl (by simp [Tryz.ntmps128]) fun q => ?_⟩
  repeat' (first | (with_reducible refine T.sq fun K hK => ?_) | ((first | ((with_reducible refine T.reg hE ?hd ?_); (case hd => kernel_rfl)) | ((with_reducible refine T.any hE mixed ?hd ?hok ?_); (case hd => kernel_rfl); (case hok => kernel_rfl))); simp [*]; (repeat' (split; all_goals (rename_i hc; try simp [*])))) | ((with_reducible refine T.ret ?_); refine fin_pure ?_; simp [*]; try (change Hold _)) | (with_reducible refine T.block ?_) | ((with_reducible refine T.skip ?_); simp [*]) | ((with_reducible refine T.exit ?_); simp [*]) | ((with_reducible refine T.br fun K1 K2 hK1 hK2 => ?_); simp [*]; try ((refine Br.intro (fun hc => ?_) (fun hc => ?_)) <;> (try simp at hc))) | (with_reducible refine Cont.go (by assumption) _ ?_) | (with_reducible refine Cnt.go (by assumption) ?_))
  all_goals (unfold Hold; simp [impX, notX, allQ, eqX, encC_eq])
@[simp] def g_r7Eq : List V → Option V := f2 kE kE fun a b => some (enc (eqX a b))
theorem ok_r7Eq : PureOk Tryz.prog 106 g_r7Eq := by
  intro args r h
  obtain ⟨a, b, rfl, ⟨⟩⟩ := f2_inv h
  clear h
  have hE := (EnvOk.nil (P := Tryz.prog) (eq := fun _ => false) (own := fun _ => false) (mem := fun _ => false) EqOk.none)
  have hr2 : List.range 2 = [0, 1] := rfl
  have hr1 : List.range 1 = [0] := rfl
  refine ⟨⟨Tryz.f106, Tryz.func106, by decide, rfl⟩, pure_of_T Tryz.func106 rfl (by simp [Tryz.ntmps106]) fun q => ?_⟩
  repeat' (first | (with_reducible refine T.sq fun K hK => ?_) | ((first | ((with_reducible refine T.reg hE ?hd ?_); (case hd => kernel_rfl)) | ((with_reducible refine T.any hE mixed ?hd ?hok ?_); (case hd => kernel_rfl); (case hok => kernel_rfl))); simp [*]; (repeat' (split; all_goals (rename_i hc; try simp [*])))) | ((with_reducible refine T.ret ?_); refine fin_pure ?_; simp [*]; try (change Hold _)) | (with_reducible refine T.block ?_) | ((with_reducible refine T.skip ?_); simp [*]) | ((with_reducible refine T.exit ?_); simp [*]) | ((with_reducible refine T.br fun K1 K2 hK1 hK2 => ?_); simp [*]; try ((refine Br.intro (fun hc => ?_) (fun hc => ?_)) <;> (try simp at hc))) | (with_reducible refine Cont.go (by assumption) _ ?_) | (with_reducible refine Cnt.go (by assumption) ?_))
  all_goals (unfold Hold; simp [impX, notX, allQ, eqX, encC_eq])

/-! ### What an instance is -/
def psX (l : List Ex) (x : Int) : Ex := psF (sgF x (l.getD 1 ex0)) (l.getD 0 ex0)
def instE (k : Int) (l : List Ex) (x : Int) : Ex :=
  if k = 1 then impX (l.getD 0 ex0) (impX (l.getD 1 ex0) (l.getD 0 ex0))
  else if k = 2 then impX (impX (l.getD 0 ex0) (impX (l.getD 1 ex0) (l.getD 2 ex0))) (impX (impX (l.getD 0 ex0) (l.getD 1 ex0)) (impX (l.getD 0 ex0) (l.getD 2 ex0)))
  else if k = 3 then impX (impX (notX (l.getD 0 ex0)) (notX (l.getD 1 ex0))) (impX (l.getD 1 ex0) (l.getD 0 ex0))
  else if k = 4 then impX (allQ x (l.getD 0 ex0)) (psX l x)
  else if k = 5 then impX (allQ x (impX (l.getD 0 ex0) (l.getD 1 ex0))) (impX (l.getD 0 ex0) (allQ x (l.getD 1 ex0)))
  else if k = 6 then eqX (l.getD 0 ex0) (l.getD 0 ex0)
  else impX (eqX (l.getD 0 ex0) (l.getD 1 ex0)) (impX (l.getD 2 ex0) (l.getD 3 ex0))
def sideB (k : Int) (l : List Ex) (x : Int) : Bool :=
  if k = 4 then ffB (l.getD 1 ex0) x (l.getD 0 ex0)
  else if k = 5 then !hasB (frE (l.getD 0 ex0)) x
  else if k = 7 then swE (l.getD 0 ex0) (l.getD 1 ex0) (vaE (l.getD 0 ex0) ||| vaE (l.getD 1 ex0)) (l.getD 2 ex0) (l.getD 3 ex0) true
  else true
def srtS (k : Int) : ByteArray := if k = 1 ∨ k = 3 ∨ k = 5 then ⟨#[102, 102]⟩ else if k = 2 then ⟨#[102, 102, 102]⟩ else if k = 4 then ⟨#[102, 116]⟩ else if k = 6 then ⟨#[116]⟩ else if k = 7 then ⟨#[116, 116, 102, 102]⟩ else ⟨#[]⟩
def bndK (k : Int) : Bool := decide (k = 4) || decide (k = 5)
def prtB (k : Int) (l : List Ex) (x : Int) : Bool := decide (l.length = (srtS k).size) && decide (0 ≤ x) && decide (x ≤ 63) && (bndK k || decide (x = 0))
def mkErr (k : Int) (l : List Ex) (x : Int) : Int := if 1 ≤ k ∧ k ≤ 7 then (if prtB k l x = true then (if sortE l (srtS k) ≠ 0 then sortE l (srtS k) else if sideB k l x = true then rightE (instE k l x) else 72) else 71) else 70
def mkX (k : Int) (l : List Ex) (x : Int) : Ex := if mkErr k l x = 0 then instE k l x else ex0
theorem mkX_bad {k : Int} {l : List Ex} {x n : Int} (h : mkErr k l x = n) (hn : n ≠ 0) : mkX k l x = ex0 := by unfold mkX; rw [h, if_neg hn]
theorem mkX_good {k : Int} {l : List Ex} {x : Int} (h : mkErr k l x = 0) : mkX k l x = instE k l x := if_pos h
def kPa : Kd (List Ex × Int) := ⟨fun p => .agg [.sl (encL p.1) .no, .int .i64 p.2], fun v => match v with | .agg [.sl els .no, .int .i64 x] => (decL els).map (·, x) | _ => none, fun v a h => by
  split at h
  · obtain ⟨l, hl, rfl⟩ := Option.map_eq_some_iff.1 h
    rw [decL_inv _ _ hl]
  · cases h⟩
@[simp] theorem kPa_enc (p : List Ex × Int) : kPa.enc p = .agg [.sl (encL p.1) .no, .int .i64 p.2] := rfl
@[simp] theorem kPa_dec (els : List (List V)) (x : Int) : kPa.dec (.agg [.sl els .no, .int .i64 x]) = (decL els).map (·, x) := rfl
@[simp] def gMake : List V → Option V := f2 (kI .i64) kPa fun k p => some (.tup [enc (mkX k p.1 p.2), .int .i64 (mkErr k p.1 p.2)])
/-- What the sorts say. -/
theorem sortE_ok {l : List Ex} {s : ByteArray} (h : sortE l s = 0) : (∀ e ∈ l, rightE e = 0) ∧ sortsOk l s.data.toList = true := by
  unfold sortE at h
  split at h
  · rename_i c; exact absurd h c
  · rename_i c
    split at h
    · rename_i c2; exact ⟨firstBad_all l (by omega), c2⟩
    · cases h
theorem cnt_imp (a b : Ex) : cntE (impX a b) = cntE a + cntE b + 1 := by simp [impX, cntE, cntL]
theorem cnt_all (x : Int) (a : Ex) : cntE (allQ x a) = cntE a + 1 := by simp [allQ, cntE, cntL]
theorem dep_imp (a b : Ex) : depE (impX a b) = max (depE a) (depE b) + 1 := by simp [impX, depE, depL]
/-- The error of schema 4. -/
theorem err_four {a t : Ex} {x : Int} (ha : rightE a = 0) (ht : rightE t = 0) (hT : isT t = true) :
    rightE (impX (allQ x a) (psF (sgF x t) a)) = if cntE (psF (sgF x t) a) > 1000 then 20 else if rightE (psF (sgF x t) a) = 0 then rightE (impX (allQ x a) (psF (sgF x t) a)) else if 2 + cntE a + cntE (psF (sgF x t) a) > 1000 then 20 else 21 := by
  have he := psF_err (right_zero ha).2.2 (termF_sg (x := x) (right_zero ht).2.2 hT)
  generalize psF (sgF x t) a = P at *
  by_cases c1 : cntE P > 1000
  · rw [if_pos c1, rightE_eq, nodesN_eq, if_pos (by rw [cnt_imp]; omega)]
  · rw [if_neg c1]
    by_cases c2 : rightE P = 0
    · rw [if_pos c2]
    · rw [if_neg c2]
      have h21 : depE P > 100 := by
        rw [rightE_eq, nodesN_eq, if_neg c1] at c2 he
        by_cases d : depE P > 100
        · exact d
        · rw [if_neg d] at he c2
          split at he <;> simp_all
      rw [rightE_eq, nodesN_eq, cnt_imp, cnt_all]
      by_cases c3 : 2 + cntE a + cntE P > 1000
      · rw [if_pos (by omega), if_pos c3]
      · rw [if_neg (by omega), if_neg c3, if_pos (by rw [dep_imp]; omega)]


/-! ### By the program: what is made -/
theorem sm_imp {a b : Ex} (ha : smE a = true) (hb : smE b = true) : smE (impX a b) = true := by simp [impX, smE, smL, ha, hb]
theorem sm_not {a : Ex} (ha : smE a = true) : smE (notX a) = true := by simp [notX, smE, smL, ha]
theorem sm_all {a : Ex} (x : Int) (ha : smE a = true) : smE (allQ x a) = true := by simp [allQ, smE, smL, ha]
theorem sm_eq {a b : Ex} (ha : smE a = true) (hb : smE b = true) : smE (eqX a b) = true := by simp [eqX, smE, smL, ha, hb]
mutual
def gwE (x : Int) (n : Nat) : Ex → Nat
  | .mk k i l => if k = 1 ∧ i = x then n else if (k = 7 ∨ k = 10) ∧ i = x then cntL l + 1 else gwL x n l + 1
def gwL (x : Int) (n : Nat) : List Ex → Nat
  | [] => 0
  | e :: l => gwE x n e + gwL x n l
end

theorem gwE_eq (x : Int) (n : Nat) (e : Ex) : gwE x n e = if e.k = 1 ∧ e.i = x then n else if (e.k = 7 ∨ e.k = 10) ∧ e.i = x then cntE e else gwL x n e.kids + 1 := by
  cases e; rw [gwE, cntE_eq]; rfl
mutual
theorem gw_ps {x : Int} {t : Ex} : ∀ e : Ex, allX e = true → gwE x (cntE t) e = cntE (psF (sgF x t) e)
  | .mk k i l, ha => by
    rw [gwE]
    by_cases c1 : k = 1 ∧ i = x
    · obtain ⟨rfl, rfl⟩ := c1
      have hz : psF (sgF i t) (.mk 1 i l) = t := by rw [psF_eq]; simp [sgF]
      rw [if_pos ⟨rfl, rfl⟩, hz]
    rw [if_neg c1]
    by_cases c2 : (k = 7 ∨ k = 10) ∧ i = x
    · rw [if_pos c2, psF_not ha (by rw [has_node (by omega), has_bin (bin_in ha)]; simp [c2]), cntE_eq]; rfl
    rw [if_neg c2]
    have hz : psF (sgF x t) (.mk k i l) = .mk k i (psL (sgF x t) l) := by
      rw [psF_eq]
      show (if k = 1 then (sgF x t i).getD (.mk k i l) else .mk k i (l.map (psF (quF k i (sgF x t))))) = _
      by_cases k1 : k = 1
      · have hl : l = [] := kids_none ha k1
        have : ¬ i = x := fun e => c1 ⟨k1, e⟩
        rw [if_pos k1]; unfold sgF; rw [if_neg this, hl, psL]; rfl
      · rw [if_neg k1, quF_sg c2, psL_map]
    rw [hz, gw_psL l (allX_kids ha), cntE_eq (.mk k i _)]; rfl
theorem gw_psL {x : Int} {t : Ex} : ∀ l : List Ex, (∀ e ∈ l, allX e = true) → gwL x (cntE t) l = cntL (psL (sgF x t) l)
  | [], _ => by simp only [gwL, psL, cntL]
  | e :: l, h => by simp only [gwL, psL, cntL]; rw [gw_ps e (h e (by simp)), gw_psL l fun y hy => h y (by simp [hy])]
end
mutual
theorem gw_le (x : Int) (n : Nat) : ∀ e : Ex, gwE x n e ≤ cntE e * (n + 1)
  | .mk k i l => by
    rw [gwE, cntE]
    have := gw_leL x n l
    have h1 : (cntL l + 1) * (n + 1) = cntL l * (n + 1) + (n + 1) := by rw [Nat.add_mul]; omega
    have h2 : cntL l ≤ cntL l * (n + 1) := Nat.le_mul_of_pos_right _ (by omega)
    split
    · omega
    · split <;> omega
theorem gw_leL (x : Int) (n : Nat) : ∀ l : List Ex, gwL x n l ≤ cntL l * (n + 1)
  | [] => by simp [gwL]
  | e :: l => by
    simp only [gwL, cntL]
    have := gw_le x n e; have := gw_leL x n l
    rw [Nat.add_mul]; omega
end
theorem gwL_take (x : Int) (n : Nat) : ∀ (l : List Ex) (j : Nat) (h : j < l.length), gwL x n (l.take (j + 1)) = gwL x n (l.take j) + gwE x n l[j]
  | e :: l, 0, h => by simp [gwL]
  | e :: l, j + 1, h => by simp only [List.take_succ_cons, gwL, List.getElem_cons_succ]; rw [gwL_take x n l j (by simpa using h)]; omega
def okGr (e : Ex) (n : Int) : Prop := allX e = true ∧ cntE e ≤ 1000 ∧ 0 ≤ n ∧ n ≤ 1000
noncomputable instance (e : Ex) (n : Int) : Decidable (okGr e n) := Classical.propDecidable _
@[simp] noncomputable def gGrown : List V → Option V := f3 kE (kI .i64) (kI .i64) fun e x n => if okGr e n then some (.int .i64 (gwE x n.toNat e : Nat)) else none
set_option maxHeartbeats 1000000 in
theorem ok_grown : PureOk Tryz.prog 170 gGrown := by
  refine rec3 fun e ih x n r hr => ?_
  split at hr
  · rename_i hm
    obtain ⟨ha, hc, hn0, hn1⟩ := hm
    cases hr
    obtain ⟨n, rfl⟩ := Int.eq_ofNat_of_zero_le hn0
    rw [Int.toNat_natCast]
    have hE := (((EnvOk.nil (P := Tryz.prog) (eq := fun _ => false) (own := fun _ => false) (mem := fun _ => false) EqOk.none).addf ok_Size).addf ih)
    refine ⟨⟨Tryz.f170, Tryz.func170, by decide, rfl⟩, pure_of_T Tryz.func170 rfl (by simp [Tryz.ntmps170]) fun q => ?_⟩
    have hge := gwE_eq x n e
    by_cases c1 : e.k = 1 ∧ e.i = x
    · rw [if_pos c1] at hge
      obtain ⟨k1, i1⟩ := c1
      have hg : Hold (gwE x n e = n) := hge
      clear hge
      repeat' (first | (with_reducible refine T.sq fun K hK => ?_) | ((first | ((with_reducible refine T.reg hE ?hd ?_); (case hd => kernel_rfl)) | ((with_reducible refine T.any hE mixed ?hd ?hok ?_); (case hd => kernel_rfl); (case hok => kernel_rfl))); simp [*]; (repeat' (split; all_goals (rename_i hc; try simp [*])))) | ((with_reducible refine T.ret ?_); refine fin_pure ?_; simp [*]; try (change Hold _)) | (with_reducible refine T.block ?_) | ((with_reducible refine T.skip ?_); simp [*]) | ((with_reducible refine T.exit ?_); simp [*]) | ((with_reducible refine T.br fun K1 K2 hK1 hK2 => ?_); simp [*]; try ((refine Br.intro (fun hc => ?_) (fun hc => ?_)) <;> (try simp at hc))) | (with_reducible refine Cont.go (by assumption) _ ?_) | (with_reducible refine Cnt.go (by assumption) ?_))
      all_goals (unfold Hold at *; rw [hg])
    rw [if_neg c1] at hge
    by_cases c2 : (e.k = 7 ∨ e.k = 10) ∧ e.i = x
    · rw [if_pos c2] at hge
      obtain ⟨k2, i2⟩ := c2
      have e1 : Ex.mk e.k x e.kids = e := by rw [← i2, Ex.eta]
      have hmin : min (nodesN e) 1001 = cntE e := by rw [nodesN_eq]; omega
      have hg : Hold (gwE x n e = cntE e) := hge
      clear hge c1
      rcases k2 with k2 | k2
      · have e2 : Ex.mk 7 x e.kids = e := by rw [← k2, e1]
        repeat' (first | (with_reducible refine T.sq fun K hK => ?_) | ((first | ((with_reducible refine T.reg hE ?hd ?_); (case hd => kernel_rfl)) | ((with_reducible refine T.any hE mixed ?hd ?hok ?_); (case hd => kernel_rfl); (case hok => kernel_rfl))); simp [*]; (repeat' (split; all_goals (rename_i hc; try simp [*])))) | ((with_reducible refine T.ret ?_); refine fin_pure ?_; simp [*]; try (change Hold _)) | (with_reducible refine T.block ?_) | ((with_reducible refine T.skip ?_); simp [*]) | ((with_reducible refine T.exit ?_); simp [*]) | ((with_reducible refine T.br fun K1 K2 hK1 hK2 => ?_); simp [*]; try ((refine Br.intro (fun hc => ?_) (fun hc => ?_)) <;> (try simp at hc))) | (with_reducible refine Cont.go (by assumption) _ ?_) | (with_reducible refine Cnt.go (by assumption) ?_))
        all_goals (unfold Hold at *; rw [hg])
      · have e2 : Ex.mk 10 x e.kids = e := by rw [← k2, e1]
        repeat' (first | (with_reducible refine T.sq fun K hK => ?_) | ((first | ((with_reducible refine T.reg hE ?hd ?_); (case hd => kernel_rfl)) | ((with_reducible refine T.any hE mixed ?hd ?hok ?_); (case hd => kernel_rfl); (case hok => kernel_rfl))); simp [*]; (repeat' (split; all_goals (rename_i hc; try simp [*])))) | ((with_reducible refine T.ret ?_); refine fin_pure ?_; simp [*]; try (change Hold _)) | (with_reducible refine T.block ?_) | ((with_reducible refine T.skip ?_); simp [*]) | ((with_reducible refine T.exit ?_); simp [*]) | ((with_reducible refine T.br fun K1 K2 hK1 hK2 => ?_); simp [*]; try ((refine Br.intro (fun hc => ?_) (fun hc => ?_)) <;> (try simp at hc))) | (with_reducible refine Cont.go (by assumption) _ ?_) | (with_reducible refine Cnt.go (by assumption) ?_))
        all_goals (unfold Hold at *; rw [hg])
    rw [if_neg c2] at hge
    have hg : Hold (gwE x n e = gwL x n e.kids + 1) := hge
    have hk4 := kids_four ha
    clear hge
    refine T.sq fun K0 hK0 => ?_
    refine T.reg hE rfl ?_
    simp
    refine hK0.go _ ?_
    clear hK0
    refine T.sq fun K1 hK1 => ?_
    obtain ⟨h1⟩ := hK1
    suffices j1 : ∀ σ : St, (σ.get 1 = .int .i64 x ∧ σ.get 2 = .int .i64 n ∧ σ.get 3 = .ptr (0 :: 5 :: q) 0 ∧ σ.M (0 :: 5 :: q) = some (.cells (encC e))) → K1 σ by
      clear h1
      by_cases k1 : e.k = 1
      · have i1 : ¬ e.i = x := fun h => c1 ⟨k1, h⟩
        repeat' (first | (with_reducible refine T.sq fun K hK => ?_) | ((first | ((with_reducible refine T.reg hE ?hd ?_); (case hd => kernel_rfl)) | ((with_reducible refine T.any hE mixed ?hd ?hok ?_); (case hd => kernel_rfl); (case hok => kernel_rfl))); simp [*]; (repeat' (split; all_goals (rename_i hc; try simp [*])))) | ((with_reducible refine T.ret ?_); refine fin_pure ?_; simp [*]; try (change Hold _)) | (with_reducible refine T.block ?_) | ((with_reducible refine T.skip ?_); simp [*]) | ((with_reducible refine T.exit ?_); simp [*]) | ((with_reducible refine T.br fun K1 K2 hK1 hK2 => ?_); simp [*]; try ((refine Br.intro (fun hc => ?_) (fun hc => ?_)) <;> (try simp at hc))) | (with_reducible refine Cont.go (by assumption) _ ?_) | (with_reducible refine Cnt.go (by assumption) ?_))
        all_goals (refine j1 _ ⟨?_, ?_, ?_, ?_⟩ <;> simp [*, encC_eq])
      · repeat' (first | (with_reducible refine T.sq fun K hK => ?_) | ((first | ((with_reducible refine T.reg hE ?hd ?_); (case hd => kernel_rfl)) | ((with_reducible refine T.any hE mixed ?hd ?hok ?_); (case hd => kernel_rfl); (case hok => kernel_rfl))); simp [*]; (repeat' (split; all_goals (rename_i hc; try simp [*])))) | ((with_reducible refine T.ret ?_); refine fin_pure ?_; simp [*]; try (change Hold _)) | (with_reducible refine T.block ?_) | ((with_reducible refine T.skip ?_); simp [*]) | ((with_reducible refine T.exit ?_); simp [*]) | ((with_reducible refine T.br fun K1 K2 hK1 hK2 => ?_); simp [*]; try ((refine Br.intro (fun hc => ?_) (fun hc => ?_)) <;> (try simp at hc))) | (with_reducible refine Cont.go (by assumption) _ ?_) | (with_reducible refine Cnt.go (by assumption) ?_))
        all_goals (refine j1 _ ⟨?_, ?_, ?_, ?_⟩ <;> simp [*, encC_eq])
    rintro σ ⟨b1, b2, b3, m3⟩
    refine h1 σ ?_
    clear h1
    rw [encC_eq] at m3
    refine T.sq fun K2 hK2 => ?_
    obtain ⟨h2⟩ := hK2
    suffices j2 : ∀ σ : St, (σ.get 1 = .int .i64 x ∧ σ.get 2 = .int .i64 n ∧ σ.get 3 = .ptr (0 :: 5 :: q) 0 ∧ σ.M (0 :: 5 :: q) = some (.cells (encC e))) → K2 σ by
      clear h2
      by_cases k1 : e.k = 7
      · have i1 : ¬ e.i = x := fun h => c2 ⟨.inl k1, h⟩
        repeat' (first | (with_reducible refine T.sq fun K hK => ?_) | ((first | ((with_reducible refine T.reg hE ?hd ?_); (case hd => kernel_rfl)) | ((with_reducible refine T.any hE mixed ?hd ?hok ?_); (case hd => kernel_rfl); (case hok => kernel_rfl))); simp [*]; (repeat' (split; all_goals (rename_i hc; try simp [*])))) | ((with_reducible refine T.ret ?_); refine fin_pure ?_; simp [*]; try (change Hold _)) | (with_reducible refine T.block ?_) | ((with_reducible refine T.skip ?_); simp [*]) | ((with_reducible refine T.exit ?_); simp [*]) | ((with_reducible refine T.br fun K1 K2 hK1 hK2 => ?_); simp [*]; try ((refine Br.intro (fun hc => ?_) (fun hc => ?_)) <;> (try simp at hc))) | (with_reducible refine Cont.go (by assumption) _ ?_) | (with_reducible refine Cnt.go (by assumption) ?_))
        all_goals (refine j2 _ ⟨?_, ?_, ?_, ?_⟩ <;> simp [*, encC_eq])
      by_cases k2 : e.k = 10
      · have i1 : ¬ e.i = x := fun h => c2 ⟨.inr k2, h⟩
        repeat' (first | (with_reducible refine T.sq fun K hK => ?_) | ((first | ((with_reducible refine T.reg hE ?hd ?_); (case hd => kernel_rfl)) | ((with_reducible refine T.any hE mixed ?hd ?hok ?_); (case hd => kernel_rfl); (case hok => kernel_rfl))); simp [*]; (repeat' (split; all_goals (rename_i hc; try simp [*])))) | ((with_reducible refine T.ret ?_); refine fin_pure ?_; simp [*]; try (change Hold _)) | (with_reducible refine T.block ?_) | ((with_reducible refine T.skip ?_); simp [*]) | ((with_reducible refine T.exit ?_); simp [*]) | ((with_reducible refine T.br fun K1 K2 hK1 hK2 => ?_); simp [*]; try ((refine Br.intro (fun hc => ?_) (fun hc => ?_)) <;> (try simp at hc))) | (with_reducible refine Cont.go (by assumption) _ ?_) | (with_reducible refine Cnt.go (by assumption) ?_))
        all_goals (refine j2 _ ⟨?_, ?_, ?_, ?_⟩ <;> simp [*, encC_eq])
      · repeat' (first | (with_reducible refine T.sq fun K hK => ?_) | ((first | ((with_reducible refine T.reg hE ?hd ?_); (case hd => kernel_rfl)) | ((with_reducible refine T.any hE mixed ?hd ?hok ?_); (case hd => kernel_rfl); (case hok => kernel_rfl))); simp [*]; (repeat' (split; all_goals (rename_i hc; try simp [*])))) | ((with_reducible refine T.ret ?_); refine fin_pure ?_; simp [*]; try (change Hold _)) | (with_reducible refine T.block ?_) | ((with_reducible refine T.skip ?_); simp [*]) | ((with_reducible refine T.exit ?_); simp [*]) | ((with_reducible refine T.br fun K1 K2 hK1 hK2 => ?_); simp [*]; try ((refine Br.intro (fun hc => ?_) (fun hc => ?_)) <;> (try simp at hc))) | (with_reducible refine Cont.go (by assumption) _ ?_) | (with_reducible refine Cnt.go (by assumption) ?_))
        all_goals (refine j2 _ ⟨?_, ?_, ?_, ?_⟩ <;> simp [*, encC_eq])
    clear b1 b2 b3 m3
    rintro σ ⟨b1, b2, b3, m3⟩
    refine h2 σ ?_
    clear h2
    rw [encC_eq] at m3
    repeat' (first | (with_reducible refine T.sq fun K hK => ?_) | ((first | ((with_reducible refine T.reg hE ?hd ?_); (case hd => kernel_rfl)) | ((with_reducible refine T.any hE mixed ?hd ?hok ?_); (case hd => kernel_rfl); (case hok => kernel_rfl))); simp [*]; (repeat' (split; all_goals (rename_i hc; try simp [*])))) | ((with_reducible refine T.ret ?_); refine fin_pure ?_; simp [*]; try (change Hold _)) | (with_reducible refine T.block ?_) | ((with_reducible refine T.skip ?_); simp [*]) | ((with_reducible refine T.exit ?_); simp [*]) | ((with_reducible refine T.br fun K1 K2 hK1 hK2 => ?_); simp [*]; try ((refine Br.intro (fun hc => ?_) (fun hc => ?_)) <;> (try simp at hc))) | (with_reducible refine Cont.go (by assumption) _ ?_) | (with_reducible refine Cnt.go (by assumption) ?_))
    refine T.loop (fun z σ => ∃ (j g : Nat), z = e.kids.length - j ∧ σ.get 1 = .int .i64 x ∧ σ.get 2 = .int .i64 n ∧ σ.get 7 = .int .i64 (g : Nat) ∧ σ.get 37 = .sl (encL e.kids) .no ∧ σ.get 38 = .int .i64 e.kids.length ∧ σ.get 39 = .int .i64 j ∧ j ≤ e.kids.length ∧ Hold (g = gwL x n (e.kids.take j) + 1)) e.kids.length ⟨0, 1, by simp, by simp [*], by simp [*], by simp [*], by simp [*], by simp [*], by simp [*], by omega, by simp [Hold, gwL]⟩ ?_
    clear b1 b2 b3 m3
    rintro z σ ⟨j, g, rfl, b1, b2, b3, g1, g2, g3, g4, g5⟩
    by_cases hj : j < e.kids.length
    · have hw : IntKind.i64.wrap ((j : Int) + 1) = (j : Int) + 1 := wrap64 (by omega) (by omega)
      have hs2 := ex_kid_lt e j hj
      have hck := cntE_kid (e := e) j hj
      have hok : okGr e.kids[j] (n : Int) := ⟨allX_kid ha j hj, by omega, hn0, hn1⟩
      have ht := gwL_take x n e.kids j hj
      have hle := gw_leL x n (e.kids.take (j + 1))
      have hcl := cntL_le e.kids (j + 1)
      have hce : cntE e = cntL e.kids + 1 := by rw [cntE_eq]
      have hml : cntL (e.kids.take (j + 1)) * (n + 1) ≤ 1000 * 1001 := Nat.mul_le_mul (by omega) (by omega)
      have hn2 : Hold (g + gwE x n e.kids[j] = gwL x n (e.kids.take (j + 1)) + 1) := by unfold Hold at *; omega
      have hw2 : IntKind.i64.wrap ((g : Int) + (gwE x n e.kids[j] : Nat)) = ((g + gwE x n e.kids[j] : Nat) : Int) := by
        unfold Hold at g5
        rw [wrap64 (by omega) (by omega)]; omega
      clear ht hle hml g5
      generalize hG : g + gwE x n e.kids[j] = G at *
      repeat' (first | (with_reducible refine T.sq fun K hK => ?_) | ((first | ((with_reducible refine T.reg hE ?hd ?_); (case hd => kernel_rfl)) | ((with_reducible refine T.any hE mixed ?hd ?hok ?_); (case hd => kernel_rfl); (case hok => kernel_rfl))); simp [*]; (repeat' (split; all_goals (rename_i hc; try simp [*])))) | ((with_reducible refine T.ret ?_); refine fin_pure ?_; simp [*]; try (change Hold _)) | (with_reducible refine T.block ?_) | ((with_reducible refine T.skip ?_); simp [*]) | ((with_reducible refine T.exit ?_); simp [*]) | ((with_reducible refine T.br fun K1 K2 hK1 hK2 => ?_); simp [*]; try ((refine Br.intro (fun hc => ?_) (fun hc => ?_)) <;> (try simp at hc))) | (with_reducible refine Cont.go (by assumption) _ ?_) | (with_reducible refine Cnt.go (by assumption) ?_))
      exact ⟨_, by omega, j + 1, rfl, G, rfl, by omega, by omega, hn2⟩
    · have w8 : j = e.kids.length := by omega
      rw [w8, List.take_length] at g5
      have hf : Hold (gwE x n e = g) := by unfold Hold at *; omega
      clear g5 hg
      repeat' (first | (with_reducible refine T.sq fun K hK => ?_) | ((first | ((with_reducible refine T.reg hE ?hd ?_); (case hd => kernel_rfl)) | ((with_reducible refine T.any hE mixed ?hd ?hok ?_); (case hd => kernel_rfl); (case hok => kernel_rfl))); simp [*]; (repeat' (split; all_goals (rename_i hc; try simp [*])))) | ((with_reducible refine T.ret ?_); refine fin_pure ?_; simp [*]; try (change Hold _)) | (with_reducible refine T.block ?_) | ((with_reducible refine T.skip ?_); simp [*]) | ((with_reducible refine T.exit ?_); simp [*]) | ((with_reducible refine T.br fun K1 K2 hK1 hK2 => ?_); simp [*]; try ((refine Br.intro (fun hc => ?_) (fun hc => ?_)) <;> (try simp at hc))) | (with_reducible refine Cont.go (by assumption) _ ?_) | (with_reducible refine Cnt.go (by assumption) ?_))
      all_goals (unfold Hold at *; rw [hf])
  · cases hr

end Go.Proofs.YtibfdebhbibfpaaGreat.Ax
