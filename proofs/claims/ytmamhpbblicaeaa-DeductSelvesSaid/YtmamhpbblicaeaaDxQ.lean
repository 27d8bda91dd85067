/- Lines that are made: the reference's; DeductSelves. -/
import Derived.Test.YtmamhpbblicaeaaDxP
import Derived.Test.YtmamhpbblicaeaaBxH
import Derived.Test.YtmamhpbblicaeaaBxD
set_option linter.unusedVariables false
set_option linter.unusedSimpArgs false
namespace Go.Proofs.Ytmamhpbblicaeaa.Ax
open Go Go.Proofs

structure Md where
  l : List Ln
  bad : Int
  n : Int
  tk : Option Path
def encMd (m : Md) : List V := [rowV m.l m.tk, .int .i64 m.bad, .int .i64 m.n]
def decMd : V → Option Md
  | .agg [r, .int .i64 b, .int .i64 n] => (decRow r).map fun x => ⟨x.1, b, n, x.2⟩
  | _ => none
theorem decMd_inv {v : V} {m : Md} (h : decMd v = some m) : v = .agg (encMd m) := by
  unfold decMd at h
  split at h
  · obtain ⟨⟨l, t⟩, hl, rfl⟩ := Option.map_eq_some_iff.1 h
    rw [decRow_inv hl]; rfl
  · cases h
def pm (m : Md) : List Ln × Int := (m.l, m.bad)
def moreF (t : Path) (x : Ln) (m : Md) : Md := if m.bad ≠ 0 then m else if 4000 ≤ m.l.length then ⟨[], 2, 1, none⟩ else if rightE x.says ≠ 0 then ⟨[], rightE x.says, 1, none⟩ else ⟨m.l ++ [x], 0, (m.l.length : Int) + 1, some t⟩
def moreK (t : Path) (x : Ln) (m : Md) (K : Toks) : Toks := if okL x (pm m) then upd (rowK K m.tk) t true else K
def okMd (K : Toks) (m : Md) : Prop := rowOk K m.l m.tk = true ∧ m.l.length ≤ 4000
noncomputable instance (K : Toks) (m : Md) : Decidable (okMd K m) := Classical.propDecidable _
theorem moreF_ok {t : Path} {x : Ln} {m : Md} (h : okL x (pm m)) : moreF t x m = ⟨m.l ++ [x], 0, (m.l.length : Int) + 1, some t⟩ := by
  obtain ⟨h1, h2, h3⟩ := h
  unfold moreF
  simp only [pm] at h1 h2
  rw [if_neg (by omega), if_neg (by omega), if_neg (by omega)]
theorem more_no {x : Ln} {m : Md} (h : ¬ okL x (pm m)) (t : Path) : moreF t x m = m ∨ ∃ b, moreF t x m = ⟨[], b, 1, none⟩ := by
  unfold moreF
  split
  · exact .inl rfl
  · split
    · exact .inr ⟨_, rfl⟩
    · split
      · exact .inr ⟨_, rfl⟩
      · exact absurd ⟨by simp only [pm]; omega, by simp only [pm]; omega, by omega⟩ h
theorem okMd_more {t : Path} {x : Ln} {m : Md} {K : Toks} (h : okMd K m) : okMd (moreK t x m K) (moreF t x m) := by
  by_cases c : okL x (pm m)
  · rw [moreF_ok c]
    unfold moreK; rw [if_pos c]
    have := c.2.1
    simp only [pm] at this
    exact ⟨by simp [rowOk, upd], by simp; omega⟩
  · unfold moreK; rw [if_neg c]
    rcases more_no c t with e | ⟨b, e⟩
    · rw [e]; exact h
    · rw [e]; exact ⟨rfl, by simp⟩
@[simp] theorem decMd_row {K : Toks} {m : Md} (h : okMd K m) : decMd (.agg (encMd m)) = some m := by
  simp [decMd, encMd, decRow_row h.1]
/-- What lays a line down. -/
noncomputable def mMore (tp : Path → Path) (f : Md → List V → Option Ln) : Path → List V → Mem → Toks → Option (V × Mem × Toks) := fun q args M K => match args with
  | mv :: rest => match decMd mv with
    | some m => match f m rest with
      | some x => if okMd K m then some (.agg (encMd (moreF (tp q) x m)), M, moreK (tp q) x m K) else none
      | none => none
    | none => none
  | _ => none
@[simp] theorem mMore_ap (tp : Path → Path) (f : Md → List V → Option Ln) (q : Path) (mv : V) (rest : List V) (M : Mem) (K : Toks) : mMore tp f q (mv :: rest) M K = match decMd mv with
    | some m => match f m rest with
      | some x => if okMd K m then some (.agg (encMd (moreF (tp q) x m)), M, moreK (tp q) x m K) else none
      | none => none
    | none => none := rfl
theorem mMore_inv {tp : Path → Path} {f : Md → List V → Option Ln} {q : Path} {args : List V} {M M' : Mem} {K K' : Toks} {z : V} (h : mMore tp f q args M K = some (z, M', K')) :
    ∃ rest x m, args = .agg (encMd m) :: rest ∧ f m rest = some x ∧ okMd K m ∧ z = .agg (encMd (moreF (tp q) x m)) ∧ M' = M ∧ K' = moreK (tp q) x m K := by
  unfold mMore at h
  split at h
  · rename_i mv rest
    split at h
    · rename_i m hm
      obtain rfl := decMd_inv hm
      split at h
      · rename_i x hx
        split at h
        · rename_i hok
          simp only [Option.some.injEq, Prod.mk.injEq] at h
          exact ⟨rest, x, m, rfl, hx, hok, h.1.symm, h.2.1.symm, h.2.2.symm⟩
        · cases h
      · cases h
    · cases h
  · cases h
def fMore (_ : Md) : List V → Option Ln
  | [e, .int .i64 y, .int .i64 a, .int .i64 b] => (dec e).map fun e => ⟨e, y, a, b⟩
  | _ => none
@[simp] theorem fMore_ap (m : Md) (e : V) (y a b : Int) : fMore m [e, .int .i64 y, .int .i64 a, .int .i64 b] = (dec e).map fun e => ⟨e, y, a, b⟩ := rfl
def tMore (q : Path) : Path := 0 :: 37 :: q
set_option maxHeartbeats 2000000 in
theorem ok_more : MemOk Try.prog 44 (mMore tMore fMore) := by
  intro q args M K0 z M' K' h
  obtain ⟨rest, x, m, rfl, hx, hok, rfl, rfl, rfl⟩ := mMore_inv h
  clear h
  obtain ⟨hok, hlen⟩ := hok
  unfold fMore at hx
  split at hx
  · rename_i ev y a b
    obtain ⟨e, he, rfl⟩ := Option.map_eq_some_iff.1 hx
    obtain rfl := dec_inv he
    clear hx he
    refine ⟨⟨Try.f44, Try.func44, by decide, rfl⟩, fun id _ h => h, ?_⟩
    unfold tMore
    have hE := (((EnvOk.nil (P := Try.prog) (eq := fun _ => false) (own := fun _ => false) (mem := fun _ => false) EqOk.none).addf ok_rRight).addf ok_Copy)
    refine ctr_of_T Try.func44 rfl (by simp [Try.ntmps44]) fun hMq hKq => ?_
    have hr0 : List.range 1 = [0] := rfl
    obtain ⟨l, bad, n, tk⟩ := m
    have hqi : ∀ t c d, K0 t = true → ¬ t = c :: d :: q := fun t c d ht e => by
      have := hKq t (by rw [e]; exact own_suf q c d)
      rw [this] at ht; cases ht
    by_cases c1 : bad = 0
    · subst c1
      by_cases c2 : 4000 ≤ l.length
      · have c2i : (4000 : Int) ≤ l.length := by omega
        have hF : moreF (0 :: 37 :: q) ⟨e, y, a, b⟩ ⟨l, 0, n, tk⟩ = ⟨[], 2, 1, none⟩ := by unfold moreF; simp [c2]
        have hnk : ¬ okL ⟨e, y, a, b⟩ (pm ⟨l, 0, n, tk⟩) := fun h => by have := h.2.1; simp [pm] at this; omega
        have hK : moreK (0 :: 37 :: q) ⟨e, y, a, b⟩ ⟨l, 0, n, tk⟩ K0 = K0 := by unfold moreK; rw [if_neg hnk]
        rw [hF, hK]
        clear hF hK hnk
        cases tk with
        | none => cases l with
          | nil => simp at c2
          | cons => cases hok
        | some t =>
          simp only [encMd, rowV] at *
          repeat' (first | (with_reducible refine T.sq fun K hK => ?_) | ((first | ((with_reducible refine T.reg hE ?hd ?_); (case hd => kernel_rfl)) | ((with_reducible refine T.any hE mixed ?hd ?hok ?_); (case hd => kernel_rfl); (case hok => kernel_rfl))); simp [*]; (repeat' (split; all_goals (rename_i hc; try simp [*])))) | ((with_reducible refine T.ret ?_); (refine fin_memT (by simp [*]) ?_ ?_)) | (with_reducible refine T.block ?_) | ((with_reducible refine T.skip ?_); simp [*]) | ((with_reducible refine T.exit ?_); simp [*]) | ((with_reducible refine T.br fun K1 K2 hK1 hK2 => ?_); simp [*]; try ((refine Br.intro (fun hc => ?_) (fun hc => ?_)) <;> (try simp at hc))) | (with_reducible refine Cont.go (by assumption) _ ?_) | (with_reducible refine Cnt.go (by assumption) ?_))
          · intro id hid; simp [not_own hMq hid]
          · intro u; simp
      · have c2i : ¬ (4000 : Int) ≤ l.length := by omega
        by_cases c3 : rightE e = 0
        · have hlo : okL ⟨e, y, a, b⟩ (pm ⟨l, 0, n, tk⟩) := ⟨rfl, by simpa [pm] using c2, c3⟩
          have hK : moreK (0 :: 37 :: q) ⟨e, y, a, b⟩ ⟨l, 0, n, tk⟩ K0 = upd (rowK K0 tk) (0 :: 37 :: q) true := by unfold moreK; rw [if_pos hlo]
          rw [moreF_ok hlo, hK]
          clear hlo hK
          have hsn := encLn_snoc l ⟨e, y, a, b⟩
          have hsm : smE e = true := small_all (right_zero c3).2.2
          have hby : (l.length + 1) * 64 ≤ 140737488355328 := by omega
          have hwl : IntKind.i64.wrap ((l.length : Int) + 1) = (l.length : Int) + 1 := wrap64 (by omega) (by omega)
          cases tk with
          | none =>
            cases l with
            | cons => cases hok
            | nil =>
              simp only [encMd, rowV] at *
              clear hlen
              repeat' (first | (with_reducible refine T.sq fun K hK => ?_) | ((first | ((with_reducible refine T.reg hE ?hd ?_); (case hd => kernel_rfl)) | ((with_reducible refine T.any hE mixed ?hd ?hok ?_); (case hd => kernel_rfl); (case hok => kernel_rfl))); simp [*]; (repeat' (split; all_goals (rename_i hc; try simp [*])))) | ((with_reducible refine T.ret ?_); (refine fin_memT (by simp [*]) ?_ ?_)) | (with_reducible refine T.block ?_) | ((with_reducible refine T.skip ?_); simp [*]) | ((with_reducible refine T.exit ?_); simp [*]) | ((with_reducible refine T.br fun K1 K2 hK1 hK2 => ?_); simp [*]; try ((refine Br.intro (fun hc => ?_) (fun hc => ?_)) <;> (try simp at hc))) | (with_reducible refine Cont.go (by assumption) _ ?_) | (with_reducible refine Cnt.go (by assumption) ?_))
              · intro id hid; simp [not_own hMq hid]
              · intro u; simp [rowK]
          | some t =>
            simp only [encMd, rowV] at *
            have hok' : K0 t = true := hok
            repeat' (first | (with_reducible refine T.sq fun K hK => ?_) | ((first | ((with_reducible refine T.reg hE ?hd ?_); (case hd => kernel_rfl)) | ((with_reducible refine T.any hE mixed ?hd ?hok ?_); (case hd => kernel_rfl); (case hok => kernel_rfl))); simp [*]; (repeat' (split; all_goals (rename_i hc; try simp [*])))) | ((with_reducible refine T.ret ?_); (refine fin_memT (by simp [*]) ?_ ?_)) | (with_reducible refine T.block ?_) | ((with_reducible refine T.skip ?_); simp [*]) | ((with_reducible refine T.exit ?_); simp [*]) | ((with_reducible refine T.br fun K1 K2 hK1 hK2 => ?_); simp [*]; try ((refine Br.intro (fun hc => ?_) (fun hc => ?_)) <;> (try simp at hc))) | (with_reducible refine Cont.go (by assumption) _ ?_) | (with_reducible refine Cnt.go (by assumption) ?_))
            · intro id hid; simp [not_own hMq hid]
            · intro u; simp [rowK]
        · have hF : moreF (0 :: 37 :: q) ⟨e, y, a, b⟩ ⟨l, 0, n, tk⟩ = ⟨[], rightE e, 1, none⟩ := by unfold moreF; simp [c2, c3]
          have hnk : ¬ okL ⟨e, y, a, b⟩ (pm ⟨l, 0, n, tk⟩) := fun h => c3 h.2.2
          have hK : moreK (0 :: 37 :: q) ⟨e, y, a, b⟩ ⟨l, 0, n, tk⟩ K0 = K0 := by unfold moreK; rw [if_neg hnk]
          rw [hF, hK]
          clear hF hK hnk
          cases tk with
          | none =>
            cases l with
            | cons => cases hok
            | nil =>
              simp only [encMd, rowV] at *
              repeat' (first | (with_reducible refine T.sq fun K hK => ?_) | ((first | ((with_reducible refine T.reg hE ?hd ?_); (case hd => kernel_rfl)) | ((with_reducible refine T.any hE mixed ?hd ?hok ?_); (case hd => kernel_rfl); (case hok => kernel_rfl))); simp [*]; (repeat' (split; all_goals (rename_i hc; try simp [*])))) | ((with_reducible refine T.ret ?_); (refine fin_memT (by simp [*]) ?_ ?_)) | (with_reducible refine T.block ?_) | ((with_reducible refine T.skip ?_); simp [*]) | ((with_reducible refine T.exit ?_); simp [*]) | ((with_reducible refine T.br fun K1 K2 hK1 hK2 => ?_); simp [*]; try ((refine Br.intro (fun hc => ?_) (fun hc => ?_)) <;> (try simp at hc))) | (with_reducible refine Cont.go (by assumption) _ ?_) | (with_reducible refine Cnt.go (by assumption) ?_))
              · intro id hid; simp [not_own hMq hid]
              · intro u; simp
          | some t =>
            simp only [encMd, rowV] at *
            repeat' (first | (with_reducible refine T.sq fun K hK => ?_) | ((first | ((with_reducible refine T.reg hE ?hd ?_); (case hd => kernel_rfl)) | ((with_reducible refine T.any hE mixed ?hd ?hok ?_); (case hd => kernel_rfl); (case hok => kernel_rfl))); simp [*]; (repeat' (split; all_goals (rename_i hc; try simp [*])))) | ((with_reducible refine T.ret ?_); (refine fin_memT (by simp [*]) ?_ ?_)) | (with_reducible refine T.block ?_) | ((with_reducible refine T.skip ?_); simp [*]) | ((with_reducible refine T.exit ?_); simp [*]) | ((with_reducible refine T.br fun K1 K2 hK1 hK2 => ?_); simp [*]; try ((refine Br.intro (fun hc => ?_) (fun hc => ?_)) <;> (try simp at hc))) | (with_reducible refine Cont.go (by assumption) _ ?_) | (with_reducible refine Cnt.go (by assumption) ?_))
            · intro id hid; simp [not_own hMq hid]
            · intro u; simp
    · have hF : moreF (0 :: 37 :: q) ⟨e, y, a, b⟩ ⟨l, bad, n, tk⟩ = ⟨l, bad, n, tk⟩ := by unfold moreF; simp [c1]
      have hnk : ¬ okL ⟨e, y, a, b⟩ (pm ⟨l, bad, n, tk⟩) := fun h => c1 h.1
      have hK : moreK (0 :: 37 :: q) ⟨e, y, a, b⟩ ⟨l, bad, n, tk⟩ K0 = K0 := by unfold moreK; rw [if_neg hnk]
      rw [hF, hK]
      clear hF hK hnk
      cases tk with
      | none =>
        simp only [encMd, rowV] at *
        repeat' (first | (with_reducible refine T.sq fun K hK => ?_) | ((first | ((with_reducible refine T.reg hE ?hd ?_); (case hd => kernel_rfl)) | ((with_reducible refine T.any hE mixed ?hd ?hok ?_); (case hd => kernel_rfl); (case hok => kernel_rfl))); simp [*]; (repeat' (split; all_goals (rename_i hc; try simp [*])))) | ((with_reducible refine T.ret ?_); (refine fin_memT (by simp [*]) ?_ ?_)) | (with_reducible refine T.block ?_) | ((with_reducible refine T.skip ?_); simp [*]) | ((with_reducible refine T.exit ?_); simp [*]) | ((with_reducible refine T.br fun K1 K2 hK1 hK2 => ?_); simp [*]; try ((refine Br.intro (fun hc => ?_) (fun hc => ?_)) <;> (try simp at hc))) | (with_reducible refine Cont.go (by assumption) _ ?_) | (with_reducible refine Cnt.go (by assumption) ?_))
        · intro id hid; simp [not_own hMq hid]
        · intro u; simp
      | some t =>
        simp only [encMd, rowV] at *
        repeat' (first | (with_reducible refine T.sq fun K hK => ?_) | ((first | ((with_reducible refine T.reg hE ?hd ?_); (case hd => kernel_rfl)) | ((with_reducible refine T.any hE mixed ?hd ?hok ?_); (case hd => kernel_rfl); (case hok => kernel_rfl))); simp [*]; (repeat' (split; all_goals (rename_i hc; try simp [*])))) | ((with_reducible refine T.ret ?_); (refine fin_memT (by simp [*]) ?_ ?_)) | (with_reducible refine T.block ?_) | ((with_reducible refine T.skip ?_); simp [*]) | ((with_reducible refine T.exit ?_); simp [*]) | ((with_reducible refine T.br fun K1 K2 hK1 hK2 => ?_); simp [*]; try ((refine Br.intro (fun hc => ?_) (fun hc => ?_)) <;> (try simp at hc))) | (with_reducible refine Cont.go (by assumption) _ ?_) | (with_reducible refine Cnt.go (by assumption) ?_))
        · intro id hid; simp [not_own hMq hid]
        · intro u; simp
  · cases hx

def fROne (_ : Md) : List V → Option Ln
  | [a, b] => (dec a).bind fun a => (dec b).map fun b => oneX a b
  | _ => none
def fRTwo (_ : Md) : List V → Option Ln
  | [a, b, c] => (dec a).bind fun a => (dec b).bind fun b => (dec c).map fun c => twoX a b c
  | _ => none
@[simp] theorem fROne_ap (m : Md) (a b : V) : fROne m [a, b] = (dec a).bind fun a => (dec b).map fun b => oneX a b := rfl
@[simp] theorem fRTwo_ap (m : Md) (a b c : V) : fRTwo m [a, b, c] = (dec a).bind fun a => (dec b).bind fun b => (dec c).map fun c => twoX a b c := rfl
def tROne (q : Path) : Path := tMore (0 :: 15 :: q)
def tRTwo (q : Path) : Path := tMore (0 :: 29 :: q)
def tRDet (q : Path) : Path := tMore (0 :: 26 :: q)
/-- Struct values that are handed on as they are. -/
@[simp] theorem encMd_len (m : Md) : (encMd m).length = 3 := rfl
@[simp] theorem encMd_drop (m : Md) : (encMd m).drop 3 = [] := rfl
@[simp] theorem encMd_take (m : Md) : (encMd m).take 3 = encMd m := rfl
@[simp] theorem encMd_one (m : Md) : (encMd m).all V.one = true := by obtain ⟨l, b, n, tk⟩ := m; cases tk <;> simp [encMd, rowV]
@[simp] theorem encMd_one' (m : Md) : (∀ x ∈ encMd m, V.one x = true) = True := by obtain ⟨l, b, n, tk⟩ := m; cases tk <;> simp [encMd, rowV]
@[simp] theorem encMd_zero (m : Md) : (encMd m)[0]?.getD .junk = rowV m.l m.tk := rfl
@[simp] theorem encMd_bad (m : Md) : (encMd m)[1]?.getD .junk = .int .i64 m.bad := rfl
@[simp] theorem encMd_n (m : Md) : (encMd m)[2]?.getD .junk = .int .i64 m.n := rfl
theorem ok_rOne : MemOk Try.prog 25 (mMore tROne fROne) := by
  intro q args M K0 z M' K' h
  obtain ⟨rest, x, m, rfl, hx, hok, rfl, rfl, rfl⟩ := mMore_inv h
  clear h
  unfold fROne at hx
  split at hx
  · rename_i av bv
    obtain ⟨a, ha, hx⟩ := Option.bind_eq_some_iff.1 hx
    obtain ⟨b, hb, rfl⟩ := Option.map_eq_some_iff.1 hx
    obtain rfl := dec_inv ha
    obtain rfl := dec_inv hb
    clear hx ha hb
    refine ⟨⟨Try.f25, Try.func25, by decide, rfl⟩, fun id _ h => h, ?_⟩
    have hE := ((((EnvOk.nil (P := Try.prog) (eq := fun _ => false) (own := fun _ => false) (mem := fun f => f == 44) EqOk.none).addf ok_rImp).addm ok_more).withTok (fun f => f == 44))
    refine ctr_of_T Try.func25 rfl (by simp [Try.ntmps25]) fun hMq hKq => ?_
    have hds := decMd_row hok
    have ht : tMore (0 :: 15 :: q) = tROne q := rfl
    have hone : (⟨impX a (impX b a), 1, 1, 0⟩ : Ln) = oneX a b := rfl
    repeat' (first | (with_reducible refine T.sq fun K hK => ?_) | ((first | ((with_reducible refine T.reg hE ?hd ?_); (case hd => kernel_rfl)) | ((with_reducible refine T.any hE mixed ?hd ?hok ?_); (case hd => kernel_rfl); (case hok => kernel_rfl))); simp [*]; (repeat' (split; all_goals (rename_i hc; try simp [*])))) | ((with_reducible refine T.ret ?_); (refine fin_memT (by simp [*]) ?_ ?_)) | (with_reducible refine T.block ?_) | ((with_reducible refine T.skip ?_); simp [*]) | ((with_reducible refine T.exit ?_); simp [*]) | ((with_reducible refine T.br fun K1 K2 hK1 hK2 => ?_); simp [*]; try ((refine Br.intro (fun hc => ?_) (fun hc => ?_)) <;> (try simp at hc))) | (with_reducible refine Cont.go (by assumption) _ ?_) | (with_reducible refine Cnt.go (by assumption) ?_))
    · intro id hid; simp [not_own hMq hid]
    · intro u; simp
  · cases hx
theorem ok_rTwo : MemOk Try.prog 26 (mMore tRTwo fRTwo) := by
  intro q args M K0 z M' K' h
  obtain ⟨rest, x, m, rfl, hx, hok, rfl, rfl, rfl⟩ := mMore_inv h
  clear h
  unfold fRTwo at hx
  split at hx
  · rename_i av bv cv
    obtain ⟨a, ha, hx⟩ := Option.bind_eq_some_iff.1 hx
    obtain ⟨b, hb, hx⟩ := Option.bind_eq_some_iff.1 hx
    obtain ⟨c, hc, rfl⟩ := Option.map_eq_some_iff.1 hx
    obtain rfl := dec_inv ha
    obtain rfl := dec_inv hb
    obtain rfl := dec_inv hc
    clear hx ha hb hc
    refine ⟨⟨Try.f26, Try.func26, by decide, rfl⟩, fun id _ h => h, ?_⟩
    have hE := ((((EnvOk.nil (P := Try.prog) (eq := fun _ => false) (own := fun _ => false) (mem := fun f => f == 44) EqOk.none).addf ok_rImp).addm ok_more).withTok (fun f => f == 44))
    refine ctr_of_T Try.func26 rfl (by simp [Try.ntmps26]) fun hMq hKq => ?_
    have hds := decMd_row hok
    have ht : tMore (0 :: 29 :: q) = tRTwo q := rfl
    have htwo : (⟨impX (impX a (impX b c)) (impX (impX a b) (impX a c)), 1, 2, 0⟩ : Ln) = twoX a b c := rfl
    repeat' (first | (with_reducible refine T.sq fun K hK => ?_) | ((first | ((with_reducible refine T.reg hE ?hd ?_); (case hd => kernel_rfl)) | ((with_reducible refine T.any hE mixed ?hd ?hok ?_); (case hd => kernel_rfl); (case hok => kernel_rfl))); simp [*]; (repeat' (split; all_goals (rename_i hc; try simp [*])))) | ((with_reducible refine T.ret ?_); (refine fin_memT (by simp [*]) ?_ ?_)) | (with_reducible refine T.block ?_) | ((with_reducible refine T.skip ?_); simp [*]) | ((with_reducible refine T.exit ?_); simp [*]) | ((with_reducible refine T.br fun K1 K2 hK1 hK2 => ?_); simp [*]; try ((refine Br.intro (fun hc => ?_) (fun hc => ?_)) <;> (try simp at hc))) | (with_reducible refine Cont.go (by assumption) _ ?_) | (with_reducible refine Cnt.go (by assumption) ?_))
    · intro id hid; simp [not_own hMq hid]
    · intro u; simp
  · cases hx
/-- Detachment: condition and line. -/
def okDetP (p : List Ln × Int) (j : Int) : Prop := p.2 = 0 → 1 ≤ j ∧ j ≤ p.1.length ∧ 2 ≤ (saysP p j).kids.length
noncomputable instance (p : List Ln × Int) (j : Int) : Decidable (okDetP p j) := Classical.propDecidable _
noncomputable def fRDet (m : Md) : List V → Option Ln
  | [.int .i64 i, .int .i64 j] => if okDetP (pm m) j then some (detP (pm m) i j) else none
  | _ => none
@[simp] theorem fRDet_ap (m : Md) (i j : Int) : fRDet m [.int .i64 i, .int .i64 j] = if okDetP (pm m) j then some (detP (pm m) i j) else none := rfl
theorem more_bad {t : Path} {x : Ln} {m : Md} {K : Toks} (h : m.bad ≠ 0) : moreF t x m = m ∧ moreK t x m K = K := by
  have hn : ¬ okL x (pm m) := fun c => h c.1
  exact ⟨by unfold moreF; rw [if_pos h], by unfold moreK; rw [if_neg hn]⟩
set_option maxHeartbeats 1000000 in
theorem ok_rDetach1 : MemOk Try.prog 27 (mMore tRDet fRDet) := by
  intro q args M K0 z M' K' h
  obtain ⟨rest, x, m, rfl, hx, hok, rfl, rfl, rfl⟩ := mMore_inv h
  clear h
  unfold fRDet at hx
  split at hx
  · rename_i i j
    split at hx
    · rename_i hd
      cases hx
      refine ⟨⟨Try.f27, Try.func27, by decide, rfl⟩, fun id _ h => h, ?_⟩
      have hE := (((EnvOk.nil (P := Try.prog) (eq := fun _ => false) (own := fun _ => false) (mem := fun f => f == 44) EqOk.none).addm ok_more).withTok (fun f => f == 44))
      refine ctr_of_T Try.func27 rfl (by simp [Try.ntmps27]) fun hMq hKq => ?_
      by_cases c : m.bad = 0
      · obtain ⟨h1, h2, h3⟩ := hd c
        obtain ⟨l, bad, n, tk⟩ := m
        simp only at c
        subst c
        obtain ⟨k, rfl⟩ : ∃ k : Nat, j = k + 1 := ⟨(j - 1).toNat, by omega⟩
        have hk : k < l.length := by simp only [pm] at h2; omega
        have hl := hok.2
        simp only at hl
        have hsx : saysP (pm ⟨l, 0, n, tk⟩) (k + 1) = l[k].says := by
          unfold saysP pm
          have e1 : ((k : Int) + 1 - 1).toNat = k := by omega
          rw [if_neg (by simp only; omega), e1]
          simp [hk]
        have hdx : detP (pm ⟨l, 0, n, tk⟩) i (k + 1) = ⟨l[k].says.kids.getD 1 ex0, 2, i, k + 1⟩ := by unfold detP; rw [hsx]
        rw [hsx] at h3
        have h1i : (1 : Int) < l[k].says.kids.length := by omega
        have h1n : 1 < l[k].says.kids.length := by omega
        have hkd : l[k].says.kids.getD 1 ex0 = l[k].says.kids[1] := by simp [List.getD, List.getElem?_eq_getElem h1n]
        rw [hkd] at hdx
        rw [hdx]
        clear hdx hkd hsx h3 hd h2 h1
        have hds := decMd_row hok
        have ht : tMore (0 :: 26 :: q) = tRDet q := rfl
        have hw : IntKind.i64.wrap (k : Int) = k := wrap64 (by omega) (by omega)
        cases tk with
        | none =>
          cases l with
          | nil => simp at hk
          | cons => cases hok.1
        | some t =>
          have e0 : encMd ⟨l, 0, n, some t⟩ = [.sl (rLn.encL l) (.own t 6), .int .i64 0, .int .i64 n] := rfl
          obtain ⟨m2, hm2⟩ : ∃ m2, moreF (tRDet q) ⟨l[k].says.kids[1], 2, i, k + 1⟩ ⟨l, 0, n, some t⟩ = m2 := ⟨_, rfl⟩
          rw [hm2]
          simp only [e0] at hds ⊢
          repeat' (first | (with_reducible refine T.sq fun K hK => ?_) | ((first | ((with_reducible refine T.reg hE ?hd ?_); (case hd => kernel_rfl)) | ((with_reducible refine T.any hE mixed ?hd ?hok ?_); (case hd => kernel_rfl); (case hok => kernel_rfl))); simp [*]; (repeat' (split; all_goals (rename_i hc; try simp [*])))) | ((with_reducible refine T.ret ?_); (refine fin_memT (by simp [*]) ?_ ?_)) | (with_reducible refine T.block ?_) | ((with_reducible refine T.skip ?_); simp [*]) | ((with_reducible refine T.exit ?_); simp [*]) | ((with_reducible refine T.br fun K1 K2 hK1 hK2 => ?_); simp [*]; try ((refine Br.intro (fun hc => ?_) (fun hc => ?_)) <;> (try simp at hc))) | (with_reducible refine Cont.go (by assumption) _ ?_) | (with_reducible refine Cnt.go (by assumption) ?_))
          · intro id hid; simp [not_own hMq hid]
          · intro u; simp
      · obtain ⟨e1, e2⟩ := more_bad (t := tRDet q) (x := detP (pm m) i j) (K := K0) c
        rw [e1, e2]
        clear hd e1 e2
        obtain ⟨l, bad, n, tk⟩ := m
        cases tk with
        | none =>
          simp only [encMd, rowV] at *
          repeat' (first | (with_reducible refine T.sq fun K hK => ?_) | ((first | ((with_reducible refine T.reg hE ?hd ?_); (case hd => kernel_rfl)) | ((with_reducible refine T.any hE mixed ?hd ?hok ?_); (case hd => kernel_rfl); (case hok => kernel_rfl))); simp [*]; (repeat' (split; all_goals (rename_i hc; try simp [*])))) | ((with_reducible refine T.ret ?_); (refine fin_memT (by simp [*]) ?_ ?_)) | (with_reducible refine T.block ?_) | ((with_reducible refine T.skip ?_); simp [*]) | ((with_reducible refine T.exit ?_); simp [*]) | ((with_reducible refine T.br fun K1 K2 hK1 hK2 => ?_); simp [*]; try ((refine Br.intro (fun hc => ?_) (fun hc => ?_)) <;> (try simp at hc))) | (with_reducible refine Cont.go (by assumption) _ ?_) | (with_reducible refine Cnt.go (by assumption) ?_))
          · intro id hid; simp [not_own hMq hid]
          · intro u; simp
        | some t =>
          simp only [encMd, rowV] at *
          repeat' (first | (with_reducible refine T.sq fun K hK => ?_) | ((first | ((with_reducible refine T.reg hE ?hd ?_); (case hd => kernel_rfl)) | ((with_reducible refine T.any hE mixed ?hd ?hok ?_); (case hd => kernel_rfl); (case hok => kernel_rfl))); simp [*]; (repeat' (split; all_goals (rename_i hc; try simp [*])))) | ((with_reducible refine T.ret ?_); (refine fin_memT (by simp [*]) ?_ ?_)) | (with_reducible refine T.block ?_) | ((with_reducible refine T.skip ?_); simp [*]) | ((with_reducible refine T.exit ?_); simp [*]) | ((with_reducible refine T.br fun K1 K2 hK1 hK2 => ?_); simp [*]; try ((refine Br.intro (fun hc => ?_) (fun hc => ?_)) <;> (try simp at hc))) | (with_reducible refine Cont.go (by assumption) _ ?_) | (with_reducible refine Cnt.go (by assumption) ?_))
          · intro id hid; simp [not_own hMq hid]
          · intro u; simp
    · cases hx
  · cases hx

/-! ### a implies a -/
theorem more_zero {t : Path} {x : Ln} {m : Md} (h : (moreF t x m).bad = 0) : okL x (pm m) := by
  by_cases c : okL x (pm m)
  · exact c
  · exfalso
    unfold moreF at h
    split at h
    · omega
    · split at h
      · simp at h
      · split at h
        · rename_i hc; exact hc h
        · exact c ⟨by simp only [pm]; omega, by simp only [pm]; omega, by omega⟩
theorem more_last {t : Path} {x : Ln} {m : Md} (h : (moreF t x m).bad = 0) : 1 ≤ (moreF t x m).n ∧ (moreF t x m).n ≤ (moreF t x m).l.length ∧ saysP (pm (moreF t x m)) (moreF t x m).n = x.says := by
  have c := more_zero h
  rw [moreF_ok c]
  refine ⟨by simp only; omega, by simp, ?_⟩
  unfold saysP pm
  have : ((m.l.length : Int) + 1 - 1).toNat = m.l.length := by omega
  simp [this]
theorem more_prev {t t' : Path} {x x' : Ln} {m : Md} (h : (moreF t' x' (moreF t x m)).bad = 0) :
    1 ≤ (moreF t x m).n ∧ (moreF t x m).n ≤ (moreF t' x' (moreF t x m)).l.length ∧ saysP (pm (moreF t' x' (moreF t x m))) (moreF t x m).n = x.says := by
  have c' := more_zero h
  have h1 : (moreF t x m).bad = 0 := c'.1
  have c := more_zero h1
  rw [moreF_ok c', moreF_ok c]
  refine ⟨by simp only; omega, by simp only [List.length_append, List.length_cons, List.length_nil]; omega, ?_⟩
  unfold saysP pm
  have : ((m.l.length : Int) + 1 - 1).toNat = m.l.length := by omega
  simp only [this]
  rw [if_neg (by simp only [List.length_append, List.length_cons, List.length_nil]; omega)]
  simp
structure Sm where
  m : Md
  K : Toks
def stpQ (t : Path) (x : Ln) (y : Sm) : Sm := ⟨moreF t x y.m, moreK t x y.m y.K⟩
def okSm (y : Sm) : Prop := okMd y.K y.m
theorem okSm_stp {t : Path} {x : Ln} {y : Sm} (h : okSm y) : okSm (stpQ t x y) := okMd_more h
def rself1 (q : Path) (a : Ex) (y : Sm) : Sm := stpQ (tROne (0 :: 16 :: q)) (oneX a (impX a a)) y
def rself2 (q : Path) (a : Ex) (y : Sm) : Sm := stpQ (tRTwo (0 :: 23 :: q)) (twoX a (impX a a) a) (rself1 q a y)
def rselfD (q : Path) (a : Ex) (y : Sm) : Ln := detP (pm (rself2 q a y).m) (rself1 q a y).m.n (rself2 q a y).m.n
def rself3 (q : Path) (a : Ex) (y : Sm) : Sm := stpQ (tRDet (0 :: 28 :: q)) (rselfD q a y) (rself2 q a y)
def rself4 (q : Path) (a : Ex) (y : Sm) : Sm := stpQ (tROne (0 :: 34 :: q)) (oneX a a) (rself3 q a y)
def rselfE (q : Path) (a : Ex) (y : Sm) : Ln := detP (pm (rself4 q a y).m) (rself4 q a y).m.n (rself3 q a y).m.n
def rself5 (q : Path) (a : Ex) (y : Sm) : Sm := stpQ (tRDet (0 :: 39 :: q)) (rselfE q a y) (rself4 q a y)
theorem rself_det (q : Path) (a : Ex) (y : Sm) : okDetP (pm (rself2 q a y).m) (rself2 q a y).m.n := fun h => by
  obtain ⟨h1, h2, h3⟩ := more_last (t := tRTwo (0 :: 23 :: q)) (x := twoX a (impX a a) a) (m := (rself1 q a y).m) h
  refine ⟨h1, h2, ?_⟩
  show 2 ≤ (saysP (pm (moreF _ _ _)) (moreF _ _ _).n).kids.length
  rw [h3]; simp [twoX, impX]
theorem rselfD_says {q : Path} {a : Ex} {y : Sm} (h : (rself2 q a y).m.bad = 0) : (rselfD q a y).says = impX (impX a (impX a a)) (impX a a) := by
  obtain ⟨h1, h2, h3⟩ := more_last (t := tRTwo (0 :: 23 :: q)) (x := twoX a (impX a a) a) (m := (rself1 q a y).m) h
  show (saysP (pm (rself2 q a y).m) (rself2 q a y).m.n).kids.getD 1 ex0 = _
  have : saysP (pm (rself2 q a y).m) (rself2 q a y).m.n = (twoX a (impX a a) a).says := h3
  rw [this]; rfl
theorem rself_det2 (q : Path) (a : Ex) (y : Sm) : okDetP (pm (rself4 q a y).m) (rself3 q a y).m.n := fun h => by
  obtain ⟨h1, h2, h3⟩ := more_prev (t := tRDet (0 :: 28 :: q)) (t' := tROne (0 :: 34 :: q)) (x := rselfD q a y) (x' := oneX a a) (m := (rself2 q a y).m) h
  refine ⟨h1, h2, ?_⟩
  have h4 : (rself3 q a y).m.bad = 0 := (more_zero (m := (rself3 q a y).m) h).1
  have h5 : (rself2 q a y).m.bad = 0 := (more_zero (m := (rself2 q a y).m) h4).1
  have : saysP (pm (rself4 q a y).m) (rself3 q a y).m.n = (rselfD q a y).says := h3
  rw [this, rselfD_says h5]
  simp [impX]
/-- The same lines, as far as there are any. -/
def Rl (m : Md) (p : List Ln × Int) : Prop := m.bad = p.2 ∧ (p.2 = 0 → m.l = p.1)
theorem rl_more {t : Path} {x x' : Ln} {m : Md} {p : List Ln × Int} (h : Rl m p) (hx : p.2 = 0 → x = x') : Rl (moreF t x m) (addL x' p) ∧ ((addL x' p).2 = 0 → (moreF t x m).n = numL x' p) := by
  obtain ⟨l, b⟩ := p
  obtain ⟨h1, h2⟩ := h
  simp only at h1 h2 hx
  by_cases c : b = 0
  · subst c
    obtain rfl := hx rfl
    have h2 := h2 rfl
    unfold moreF addL numL okL Rl
    rw [h1, h2]
    simp only [ne_eq, not_true_eq_false, if_false, true_and]
    by_cases c2 : 4000 ≤ l.length
    · simp [c2]
    · by_cases c3 : rightE x.says = 0
      · have : l.length < 4000 := by omega
        simp [c2, c3, this]
      · simp [c2, c3]
  · have hm : m.bad ≠ 0 := by omega
    have e1 : moreF t x m = m := by unfold moreF; rw [if_pos hm]
    have e2 : addL x' (l, b) = (l, b) := by unfold addL; rw [if_pos c]
    rw [e1, e2]
    exact ⟨⟨h1, h2⟩, fun e => absurd e c⟩
theorem rl_det {m : Md} {p : List Ln × Int} (h : Rl m p) (hp : p.2 = 0) : pm m = p := by
  obtain ⟨l, b⟩ := p
  obtain ⟨h1, h2⟩ := h
  unfold pm; rw [h1, h2 hp]
theorem add_zero {x : Ln} {p : List Ln × Int} (h : (addL x p).2 = 0) : p.2 = 0 := by
  unfold addL at h
  split at h
  · exact h
  · rename_i hc; simpa using hc
theorem rl_self (q : Path) (a : Ex) {y : Sm} {p : List Ln × Int} (h : Rl y.m p) : Rl (rself5 q a y).m (selfP a p).1 ∧ ((selfP a p).1.2 = 0 → (rself5 q a y).m.n = (selfP a p).2) := by
  obtain ⟨r1, n1⟩ := rl_more (t := tROne (0 :: 16 :: q)) h (fun _ => rfl : _ → oneX a (impX a a) = _)
  obtain ⟨r2, n2⟩ := rl_more (t := tRTwo (0 :: 23 :: q)) r1 (fun _ => rfl : _ → twoX a (impX a a) a = _)
  have x3 : (addL (twoX a (impX a a) a) (addL (oneX a (impX a a)) p)).2 = 0 → rselfD q a y = detP (addL (twoX a (impX a a) a) (addL (oneX a (impX a a)) p)) (numL (oneX a (impX a a)) p) (numL (twoX a (impX a a) a) (addL (oneX a (impX a a)) p)) := fun e => by
    have e1 := add_zero e
    unfold rselfD
    have d := rl_det r2 e
    have f1 : (rself1 q a y).m.n = _ := n1 e1
    have f2 : (rself2 q a y).m.n = _ := n2 e
    rw [f1, f2]
    congr 1
  obtain ⟨r3, n3⟩ := rl_more (t := tRDet (0 :: 28 :: q)) r2 x3
  obtain ⟨r4, n4⟩ := rl_more (t := tROne (0 :: 34 :: q)) r3 (fun _ => rfl : _ → oneX a a = _)
  refine rl_more (t := tRDet (0 :: 39 :: q)) r4 fun e => ?_
  have e1 := add_zero e
  unfold rselfE
  have d := rl_det r4 e
  have f1 : (rself3 q a y).m.n = _ := n3 e1
  have f2 : (rself4 q a y).m.n = _ := n4 e
  rw [f1, f2]
  congr 1
noncomputable def mRSelf : Path → List V → Mem → Toks → Option (V × Mem × Toks) := fun q args M K => match args with
  | [mv, ev] => match decMd mv, dec ev with
    | some m, some a => if okMd K m then some (.agg (encMd (rself5 q a ⟨m, K⟩).m), M, (rself5 q a ⟨m, K⟩).K) else none
    | _, _ => none
  | _ => none
@[simp] theorem mRSelf_ap (q : Path) (mv ev : V) (M : Mem) (K : Toks) : mRSelf q [mv, ev] M K = match decMd mv, dec ev with
    | some m, some a => if okMd K m then some (.agg (encMd (rself5 q a ⟨m, K⟩).m), M, (rself5 q a ⟨m, K⟩).K) else none
    | _, _ => none := rfl
set_option maxHeartbeats 2000000 in
theorem ok_rSelf0 : MemOk Try.prog 12 mRSelf := by
  intro q args M K0 z M' K' h
  unfold mRSelf at h
  split at h
  · rename_i mv ev
    split at h
    · rename_i m a hm he
      obtain rfl := dec_inv he
      obtain rfl := decMd_inv hm
      split at h
      · rename_i hok
        simp only [Option.some.injEq, Prod.mk.injEq] at h
        obtain ⟨rfl, rfl, rfl⟩ := h
        refine ⟨⟨Try.f12, Try.func12, by decide, rfl⟩, fun id _ h => h, ?_⟩
        have hE := ((((((EnvOk.nil (P := Try.prog) (eq := fun _ => false) (own := fun _ => false) (mem := fun f => f == 25 || f == 26 || f == 27) EqOk.none).addf ok_rImp).addm ok_rOne).addm ok_rTwo).addm ok_rDetach1).withTok (fun f => f == 25 || f == 26 || f == 27))
        refine ctr_of_T Try.func12 rfl (by simp [Try.ntmps12]) fun hMq hKq => ?_
        have o0 : okSm ⟨m, K0⟩ := hok
        have o1 : okSm (rself1 q a ⟨m, K0⟩) := okSm_stp o0
        have o2 : okSm (rself2 q a ⟨m, K0⟩) := okSm_stp o1
        have o3 : okSm (rself3 q a ⟨m, K0⟩) := okSm_stp o2
        have o4 : okSm (rself4 q a ⟨m, K0⟩) := okSm_stp o3
        have e1s : moreF (tROne (0 :: 16 :: q)) (oneX a (impX a a)) m = (rself1 q a ⟨m, K0⟩).m := rfl
        have e1k : moreK (tROne (0 :: 16 :: q)) (oneX a (impX a a)) m K0 = (rself1 q a ⟨m, K0⟩).K := rfl
        have e2s : moreF (tRTwo (0 :: 23 :: q)) (twoX a (impX a a) a) (rself1 q a ⟨m, K0⟩).m = (rself2 q a ⟨m, K0⟩).m := rfl
        have e2k : moreK (tRTwo (0 :: 23 :: q)) (twoX a (impX a a) a) (rself1 q a ⟨m, K0⟩).m (rself1 q a ⟨m, K0⟩).K = (rself2 q a ⟨m, K0⟩).K := rfl
        have ed : detP (pm (rself2 q a ⟨m, K0⟩).m) (rself1 q a ⟨m, K0⟩).m.n (rself2 q a ⟨m, K0⟩).m.n = rselfD q a ⟨m, K0⟩ := rfl
        have e3s : moreF (tRDet (0 :: 28 :: q)) (rselfD q a ⟨m, K0⟩) (rself2 q a ⟨m, K0⟩).m = (rself3 q a ⟨m, K0⟩).m := rfl
        have e3k : moreK (tRDet (0 :: 28 :: q)) (rselfD q a ⟨m, K0⟩) (rself2 q a ⟨m, K0⟩).m (rself2 q a ⟨m, K0⟩).K = (rself3 q a ⟨m, K0⟩).K := rfl
        have e4s : moreF (tROne (0 :: 34 :: q)) (oneX a a) (rself3 q a ⟨m, K0⟩).m = (rself4 q a ⟨m, K0⟩).m := rfl
        have e4k : moreK (tROne (0 :: 34 :: q)) (oneX a a) (rself3 q a ⟨m, K0⟩).m (rself3 q a ⟨m, K0⟩).K = (rself4 q a ⟨m, K0⟩).K := rfl
        have ee : detP (pm (rself4 q a ⟨m, K0⟩).m) (rself4 q a ⟨m, K0⟩).m.n (rself3 q a ⟨m, K0⟩).m.n = rselfE q a ⟨m, K0⟩ := rfl
        have e5s : moreF (tRDet (0 :: 39 :: q)) (rselfE q a ⟨m, K0⟩) (rself4 q a ⟨m, K0⟩).m = (rself5 q a ⟨m, K0⟩).m := rfl
        have e5k : moreK (tRDet (0 :: 39 :: q)) (rselfE q a ⟨m, K0⟩) (rself4 q a ⟨m, K0⟩).m (rself4 q a ⟨m, K0⟩).K = (rself5 q a ⟨m, K0⟩).K := rfl
        have d1 := rself_det q a ⟨m, K0⟩
        have d2 := rself_det2 q a ⟨m, K0⟩
        unfold okSm at o1 o2 o3 o4
        have r0 := decMd_row hok
        have r1 := decMd_row o1
        have r2 := decMd_row o2
        have r3 := decMd_row o3
        have r4 := decMd_row o4
        clear o0
        generalize rself5 q a ⟨m, K0⟩ = y5 at *
        generalize rself4 q a ⟨m, K0⟩ = y4 at *
        generalize rself3 q a ⟨m, K0⟩ = y3 at *
        generalize rself2 q a ⟨m, K0⟩ = y2 at *
        generalize rself1 q a ⟨m, K0⟩ = y1 at *
        generalize rselfD q a ⟨m, K0⟩ = xD at *
        generalize rselfE q a ⟨m, K0⟩ = xE at *
        repeat' (first | (with_reducible refine T.sq fun K hK => ?_) | ((first | ((with_reducible refine T.reg hE ?hd ?_); (case hd => kernel_rfl)) | ((with_reducible refine T.any hE mixed ?hd ?hok ?_); (case hd => kernel_rfl); (case hok => kernel_rfl))); simp [*]; (repeat' (split; all_goals (rename_i hc; try simp [*])))) | ((with_reducible refine T.ret ?_); (refine fin_memT (by simp [*]) ?_ ?_)) | (with_reducible refine T.block ?_) | ((with_reducible refine T.skip ?_); simp [*]) | ((with_reducible refine T.exit ?_); simp [*]) | ((with_reducible refine T.br fun K1 K2 hK1 hK2 => ?_); simp [*]; try ((refine Br.intro (fun hc => ?_) (fun hc => ?_)) <;> (try simp at hc))) | (with_reducible refine Cont.go (by assumption) _ ?_) | (with_reducible refine Cnt.go (by assumption) ?_))
        · intro id hid; simp [not_own hMq hid]
        · intro u; simp
      · cases h
    · cases h
  · cases h

noncomputable def mAns : Path → List V → Mem → Toks → Option (V × Mem × Toks) := fun q args M K => match args with
  | [mv] => match decMd mv with
    | some m => if okMd K m then some (ansV (pm m), M, K) else none
    | none => none
  | _ => none
@[simp] theorem mAns_ap (q : Path) (mv : V) (M : Mem) (K : Toks) : mAns q [mv] M K = match decMd mv with
    | some m => if okMd K m then some (ansV (pm m), M, K) else none
    | none => none := rfl
theorem ok_rAnswer : MemOk Try.prog 11 mAns := by
  intro q args M K0 z M' K' h
  unfold mAns at h
  split at h
  · rename_i mv
    split at h
    · rename_i m hm
      obtain rfl := decMd_inv hm
      split at h
      · rename_i hok
        simp only [Option.some.injEq, Prod.mk.injEq] at h
        obtain ⟨rfl, rfl, rfl⟩ := h
        refine ⟨⟨Try.f11, Try.func11, by decide, rfl⟩, fun id _ h => h, ?_⟩
        have hE := (EnvOk.nil (P := Try.prog) (eq := fun _ => false) (own := fun _ => false) (mem := fun _ => false) EqOk.none)
        refine ctr_of_T Try.func11 rfl (by simp [Try.ntmps11]) fun hMq hKq => ?_
        obtain ⟨l, bad, n, tk⟩ := m
        by_cases c : bad = 0
        · have ha := ansV_ok (p := pm ⟨l, bad, n, tk⟩) c
          rw [ha]
          clear ha
          simp only [pm]
          subst c
          cases tk with
          | none =>
            cases l with
            | cons => cases hok.1
            | nil =>
              simp only [encMd, rowV] at *
              repeat' (first | (with_reducible refine T.sq fun K hK => ?_) | ((first | ((with_reducible refine T.reg hE ?hd ?_); (case hd => kernel_rfl)) | ((with_reducible refine T.any hE mixed ?hd ?hok ?_); (case hd => kernel_rfl); (case hok => kernel_rfl))); simp [*]; (repeat' (split; all_goals (rename_i hc; try simp [*])))) | ((with_reducible refine T.ret ?_); (refine fin_mem (by simp [*]) ?_ ?_)) | (with_reducible refine T.block ?_) | ((with_reducible refine T.skip ?_); simp [*]) | ((with_reducible refine T.exit ?_); simp [*]) | ((with_reducible refine T.br fun K1 K2 hK1 hK2 => ?_); simp [*]; try ((refine Br.intro (fun hc => ?_) (fun hc => ?_)) <;> (try simp at hc))) | (with_reducible refine Cont.go (by assumption) _ ?_) | (with_reducible refine Cnt.go (by assumption) ?_))
              · intro id hid; simp [not_own hMq hid]
              · intro u; simp
          | some t =>
            simp only [encMd, rowV] at *
            repeat' (first | (with_reducible refine T.sq fun K hK => ?_) | ((first | ((with_reducible refine T.reg hE ?hd ?_); (case hd => kernel_rfl)) | ((with_reducible refine T.any hE mixed ?hd ?hok ?_); (case hd => kernel_rfl); (case hok => kernel_rfl))); simp [*]; (repeat' (split; all_goals (rename_i hc; try simp [*])))) | ((with_reducible refine T.ret ?_); (refine fin_mem (by simp [*]) ?_ ?_)) | (with_reducible refine T.block ?_) | ((with_reducible refine T.skip ?_); simp [*]) | ((with_reducible refine T.exit ?_); simp [*]) | ((with_reducible refine T.br fun K1 K2 hK1 hK2 => ?_); simp [*]; try ((refine Br.intro (fun hc => ?_) (fun hc => ?_)) <;> (try simp at hc))) | (with_reducible refine Cont.go (by assumption) _ ?_) | (with_reducible refine Cnt.go (by assumption) ?_))
            · intro id hid; simp [not_own hMq hid]
            · intro u; simp
        · have ha := ansV_bad (p := pm ⟨l, bad, n, tk⟩) c
          rw [ha]
          clear ha
          simp only [pm]
          cases tk with
          | none =>
            simp only [encMd, rowV] at *
            repeat' (first | (with_reducible refine T.sq fun K hK => ?_) | ((first | ((with_reducible refine T.reg hE ?hd ?_); (case hd => kernel_rfl)) | ((with_reducible refine T.any hE mixed ?hd ?hok ?_); (case hd => kernel_rfl); (case hok => kernel_rfl))); simp [*]; (repeat' (split; all_goals (rename_i hc; try simp [*])))) | ((with_reducible refine T.ret ?_); (refine fin_mem (by simp [*]) ?_ ?_)) | (with_reducible refine T.block ?_) | ((with_reducible refine T.skip ?_); simp [*]) | ((with_reducible refine T.exit ?_); simp [*]) | ((with_reducible refine T.br fun K1 K2 hK1 hK2 => ?_); simp [*]; try ((refine Br.intro (fun hc => ?_) (fun hc => ?_)) <;> (try simp at hc))) | (with_reducible refine Cont.go (by assumption) _ ?_) | (with_reducible refine Cnt.go (by assumption) ?_))
            · intro id hid; simp [not_own hMq hid]
            · intro u; simp
          | some t =>
            simp only [encMd, rowV] at *
            repeat' (first | (with_reducible refine T.sq fun K hK => ?_) | ((first | ((with_reducible refine T.reg hE ?hd ?_); (case hd => kernel_rfl)) | ((with_reducible refine T.any hE mixed ?hd ?hok ?_); (case hd => kernel_rfl); (case hok => kernel_rfl))); simp [*]; (repeat' (split; all_goals (rename_i hc; try simp [*])))) | ((with_reducible refine T.ret ?_); (refine fin_mem (by simp [*]) ?_ ?_)) | (with_reducible refine T.block ?_) | ((with_reducible refine T.skip ?_); simp [*]) | ((with_reducible refine T.exit ?_); simp [*]) | ((with_reducible refine T.br fun K1 K2 hK1 hK2 => ?_); simp [*]; try ((refine Br.intro (fun hc => ?_) (fun hc => ?_)) <;> (try simp at hc))) | (with_reducible refine Cont.go (by assumption) _ ?_) | (with_reducible refine Cnt.go (by assumption) ?_))
            · intro id hid; simp [not_own hMq hid]
            · intro u; simp
      · cases h
    · cases h
  · cases h
theorem ok_rSaid : PureOk Try.prog 10 gDPlain := by
  intro args r h
  obtain ⟨e, rfl, ⟨⟩⟩ := f1_inv h
  clear h
  have hE := ((((EnvOk.nil (P := Try.prog) (eq := fun _ => false) (own := fun _ => false) (mem := fun _ => false) EqOk.none).addf ok_rWantF).addf ok_rUnfolded).addf ok_rLike)
  refine ⟨⟨Try.f10, Try.func10, by decide, rfl⟩, pure_of_T Try.func10 rfl (by simp [Try.ntmps10]) fun q => ?_⟩
  have hp := plE_wantF e
  by_cases v : wantF e = 0
  · have va : allX e = true := by
      unfold wantF at v
      split at v
      · omega
      · rename_i h; exact (right_zero (by simpa using h)).2.2
    by_cases w : ordE (unfE e) e = 0
    · have hp2 : plE e = 0 := by rw [hp, if_neg (by omega), if_pos w]
      clear hp
      repeat' (first | (with_reducible refine T.sq fun K hK => ?_) | ((first | ((with_reducible refine T.reg hE ?hd ?_); (case hd => kernel_rfl)) | ((with_reducible refine T.any hE mixed ?hd ?hok ?_); (case hd => kernel_rfl); (case hok => kernel_rfl))); simp [*]; (repeat' (split; all_goals (rename_i hc; try simp [*])))) | ((with_reducible refine T.ret ?_); refine fin_pure ?_; simp [*]; try (change Hold _)) | (with_reducible refine T.block ?_) | ((with_reducible refine T.skip ?_); simp [*]) | ((with_reducible refine T.exit ?_); simp [*]) | ((with_reducible refine T.br fun K1 K2 hK1 hK2 => ?_); simp [*]; try ((refine Br.intro (fun hc => ?_) (fun hc => ?_)) <;> (try simp at hc))) | (with_reducible refine Cont.go (by assumption) _ ?_) | (with_reducible refine Cnt.go (by assumption) ?_))
    · have hp2 : plE e = 11 := by rw [hp, if_neg (by omega), if_neg w]
      clear hp
      repeat' (first | (with_reducible refine T.sq fun K hK => ?_) | ((first | ((with_reducible refine T.reg hE ?hd ?_); (case hd => kernel_rfl)) | ((with_reducible refine T.any hE mixed ?hd ?hok ?_); (case hd => kernel_rfl); (case hok => kernel_rfl))); simp [*]; (repeat' (split; all_goals (rename_i hc; try simp [*])))) | ((with_reducible refine T.ret ?_); refine fin_pure ?_; simp [*]; try (change Hold _)) | (with_reducible refine T.block ?_) | ((with_reducible refine T.skip ?_); simp [*]) | ((with_reducible refine T.exit ?_); simp [*]) | ((with_reducible refine T.br fun K1 K2 hK1 hK2 => ?_); simp [*]; try ((refine Br.intro (fun hc => ?_) (fun hc => ?_)) <;> (try simp at hc))) | (with_reducible refine Cont.go (by assumption) _ ?_) | (with_reducible refine Cnt.go (by assumption) ?_))
  · have hp2 : plE e = wantF e := by rw [hp, if_pos v]
    clear hp
    repeat' (first | (with_reducible refine T.sq fun K hK => ?_) | ((first | ((with_reducible refine T.reg hE ?hd ?_); (case hd => kernel_rfl)) | ((with_reducible refine T.any hE mixed ?hd ?hok ?_); (case hd => kernel_rfl); (case hok => kernel_rfl))); simp [*]; (repeat' (split; all_goals (rename_i hc; try simp [*])))) | ((with_reducible refine T.ret ?_); refine fin_pure ?_; simp [*]; try (change Hold _)) | (with_reducible refine T.block ?_) | ((with_reducible refine T.skip ?_); simp [*]) | ((with_reducible refine T.exit ?_); simp [*]) | ((with_reducible refine T.br fun K1 K2 hK1 hK2 => ?_); simp [*]; try ((refine Br.intro (fun hc => ?_) (fun hc => ?_)) <;> (try simp at hc))) | (with_reducible refine Cont.go (by assumption) _ ?_) | (with_reducible refine Cnt.go (by assumption) ?_))
def md0 : Md := ⟨[], 0, 0, none⟩
theorem ansV_rl {m : Md} {p : List Ln × Int} (h : Rl m p) : ansV (pm m) = ansV p := by
  by_cases c : p.2 = 0
  · rw [rl_det h c]
  · have : (pm m).2 = p.2 := h.1
    rw [ansV_bad c, ansV_bad (by omega), this]
set_option maxHeartbeats 1000000 in
theorem ok_rSelf : PureOk Try.prog 5 gSelf := by
  intro args r h
  obtain ⟨e, rfl, ⟨⟩⟩ := f1_inv h
  clear h
  have hE := (((((EnvOk.nil (P := Try.prog) (eq := fun _ => false) (own := fun _ => false) (mem := fun f => f == 12 || f == 11) EqOk.none).addf ok_rSaid).addm ok_rSelf0).addm ok_rAnswer).withTok (fun f => f == 12 || f == 11))
  refine ⟨⟨Try.f5, Try.func5, by decide, rfl⟩, pure_of_T Try.func5 rfl (by simp [Try.ntmps5]) fun q => ?_⟩
  by_cases v : plE e = 0
  · have hv : selfV e = ansV (selfP e ([], 0)).1 := by unfold selfV; rw [if_neg (by omega)]
    have hd : decMd (.agg [.nils, .int .i64 0, .int .i64 0]) = some md0 := rfl
    have h0 : okMd noK md0 := ⟨rfl, by simp [md0]⟩
    have o5 : okSm (rself5 (0 :: 14 :: q) e ⟨md0, noK⟩) := okSm_stp (okSm_stp (okSm_stp (okSm_stp (okSm_stp h0))))
    have o5' : okMd (rself5 (0 :: 14 :: q) e ⟨md0, noK⟩).K (rself5 (0 :: 14 :: q) e ⟨md0, noK⟩).m := o5
    have hpk := ansV_rl (rl_self (0 :: 14 :: q) e (y := ⟨md0, noK⟩) (p := ([], 0)) ⟨rfl, fun _ => rfl⟩).1
    have r5 := decMd_row o5'
    have ha : ansV (selfP e ([], 0)).1 = .tup [.sl (rLn.encL (if (selfP e ([], 0)).1.2 ≠ 0 then [] else (selfP e ([], 0)).1.1)) .no, .int .i64 (selfP e ([], 0)).1.2] := rfl
    rw [ha] at hv hpk
    clear o5 ha
    generalize (selfP e ([], 0)).1 = p at *
    generalize rLn.encL (if p.2 ≠ 0 then [] else p.1) = els at *
    repeat' (first | (with_reducible refine T.sq fun K hK => ?_) | ((first | ((with_reducible refine T.reg hE ?hd ?_); (case hd => kernel_rfl)) | ((with_reducible refine T.any hE mixed ?hd ?hok ?_); (case hd => kernel_rfl); (case hok => kernel_rfl))); simp [*]; (repeat' (split; all_goals (rename_i hc; try simp [*])))) | ((with_reducible refine T.ret ?_); refine fin_pure ?_; simp [*]; try (change Hold _)) | (with_reducible refine T.block ?_) | ((with_reducible refine T.skip ?_); simp [*]) | ((with_reducible refine T.exit ?_); simp [*]) | ((with_reducible refine T.br fun K1 K2 hK1 hK2 => ?_); simp [*]; try ((refine Br.intro (fun hc => ?_) (fun hc => ?_)) <;> (try simp at hc))) | (with_reducible refine Cont.go (by assumption) _ ?_) | (with_reducible refine Cnt.go (by assumption) ?_))
  · have hv : selfV e = .tup [.sl [] .no, .int .i64 (plE e)] := by unfold selfV; rw [if_pos v, ansV_bad v]
    repeat' (first | (with_reducible refine T.sq fun K hK => ?_) | ((first | ((with_reducible refine T.reg hE ?hd ?_); (case hd => kernel_rfl)) | ((with_reducible refine T.any hE mixed ?hd ?hok ?_); (case hd => kernel_rfl); (case hok => kernel_rfl))); simp [*]; (repeat' (split; all_goals (rename_i hc; try simp [*])))) | ((with_reducible refine T.ret ?_); refine fin_pure ?_; simp [*]; try (change Hold _)) | (with_reducible refine T.block ?_) | ((with_reducible refine T.skip ?_); simp [*]) | ((with_reducible refine T.exit ?_); simp [*]) | ((with_reducible refine T.br fun K1 K2 hK1 hK2 => ?_); simp [*]; try ((refine Br.intro (fun hc => ?_) (fun hc => ?_)) <;> (try simp at hc))) | (with_reducible refine Cont.go (by assumption) _ ?_) | (with_reducible refine Cnt.go (by assumption) ?_))

/-! ### The same lines -/
def sameLn (x y : Ln) : Bool := decide (x.by_ = y.by_) && (decide (x.a = y.a) && (decide (x.b = y.b) && decide (ordE x.says y.says = 0)))
theorem sameLn_self (x : Ln) : sameLn x x = true := by simp [sameLn, ordE_self]
def likeL (l m : List Ln) : Bool := decide (l.length = m.length) && all2 sameLn l m
theorem likeL_self (l : List Ln) : likeL l l = true := by
  unfold likeL
  simp only [decide_true, Bool.true_and]
  induction l with
  | nil => rfl
  | cons x l ih => simp [all2, sameLn_self, ih]
@[simp] def gLikeL : List V → Option V := f2 (kRs rLn) (kRs rLn) fun l m => some (.bool (likeL l m))
set_option maxHeartbeats 2000000 in
theorem ok_rLikeL : PureOk Try.prog 6 gLikeL := by
  intro args r h
  obtain ⟨l, m, rfl, ⟨⟩⟩ := f2_inv h
  clear h
  have hE := ((EnvOk.nil (P := Try.prog) (eq := fun _ => false) (own := fun _ => false) (mem := fun _ => false) EqOk.none).addf ok_rLike)
  refine ⟨⟨Try.f6, Try.func6, by decide, rfl⟩, pure_of_T Try.func6 rfl (by simp [Try.ntmps6]) fun q => ?_⟩
  by_cases hl : l.length = m.length
  · have hli : (l.length : Int) = m.length := by omega
    have hL : Hold (likeL l m = all2 sameLn l m) := by unfold Hold likeL; simp [hl]
    repeat' (first | (with_reducible refine T.sq fun K hK => ?_) | ((first | ((with_reducible refine T.reg hE ?hd ?_); (case hd => kernel_rfl)) | ((with_reducible refine T.any hE mixed ?hd ?hok ?_); (case hd => kernel_rfl); (case hok => kernel_rfl))); simp [*]; (repeat' (split; all_goals (rename_i hc; try simp [*])))) | ((with_reducible refine T.ret ?_); refine fin_pure ?_; simp [*]; try (change Hold _)) | (with_reducible refine T.block ?_) | ((with_reducible refine T.skip ?_); simp [*]) | ((with_reducible refine T.exit ?_); simp [*]) | ((with_reducible refine T.br fun K1 K2 hK1 hK2 => ?_); simp [*]; try ((refine Br.intro (fun hc => ?_) (fun hc => ?_)) <;> (try simp at hc))) | (with_reducible refine Cont.go (by assumption) _ ?_) | (with_reducible refine Cnt.go (by assumption) ?_))
    refine T.len (t := 0) (els := rLn.encL l) (tk := .no) (by simp) fun hle => ?_
    simp only [Rw.encL_length] at hle
    refine T.loop (fun n σ => ∃ j : Nat, n = l.length - j ∧ σ.get 0 = .sl (rLn.encL l) .no ∧ σ.get 1 = .sl (rLn.encL m) .no ∧ σ.get 12 = .int .i64 l.length ∧ σ.get 13 = .int .i64 j ∧ j ≤ l.length ∧ Hold (all2 sameLn (l.take j) (m.take j) = true)) l.length ⟨0, by simp, by simp [all2, Hold, hl]⟩ ?_
    rintro n σ ⟨j, rfl, g0, g1, g2, g3, g4, g5⟩
    by_cases hj : j < l.length
    · have hj2 : j < m.length := by omega
      have hw : IntKind.i64.wrap ((j : Int) + 1) = (j : Int) + 1 := wrap_succ hle hj
      have ha := all2_take sameLn l m j hj hj2
      by_cases s1 : l[j].by_ = m[j].by_
      · by_cases s2 : l[j].a = m[j].a
        · by_cases s3 : l[j].b = m[j].b
          · by_cases s4 : ordE l[j].says m[j].says = 0
            · have hs : sameLn l[j] m[j] = true := by simp [sameLn, s1, s2, s3, s4]
              have hn : Hold (all2 sameLn (l.take (j + 1)) (m.take (j + 1)) = true) := by unfold Hold at *; rw [ha, g5, hs]; rfl
              clear ha g5 hs
              repeat' (first | (with_reducible refine T.sq fun K hK => ?_) | ((first | ((with_reducible refine T.reg hE ?hd ?_); (case hd => kernel_rfl)) | ((with_reducible refine T.any hE mixed ?hd ?hok ?_); (case hd => kernel_rfl); (case hok => kernel_rfl))); simp [*]; (repeat' (split; all_goals (rename_i hc; try simp [*])))) | ((with_reducible refine T.ret ?_); refine fin_pure ?_; simp [*]; try (change Hold _)) | (with_reducible refine T.block ?_) | ((with_reducible refine T.skip ?_); simp [*]) | ((with_reducible refine T.exit ?_); simp [*]) | ((with_reducible refine T.br fun K1 K2 hK1 hK2 => ?_); simp [*]; try ((refine Br.intro (fun hc => ?_) (fun hc => ?_)) <;> (try simp at hc))) | (with_reducible refine Cont.go (by assumption) _ ?_) | (with_reducible refine Cnt.go (by assumption) ?_))
              exact ⟨l.length - (j + 1), by omega, j + 1, by omega, by omega, by omega, hn⟩
            · have hs : sameLn l[j] m[j] = false := by simp [sameLn, s1, s2, s3, s4]
              have hf : Hold (likeL l m = false) := by unfold Hold at *; rw [hL]; exact all2_false sameLn l m j hj hj2 hs
              clear ha hs g5 hL
              repeat' (first | (with_reducible refine T.sq fun K hK => ?_) | ((first | ((with_reducible refine T.reg hE ?hd ?_); (case hd => kernel_rfl)) | ((with_reducible refine T.any hE mixed ?hd ?hok ?_); (case hd => kernel_rfl); (case hok => kernel_rfl))); simp [*]; (repeat' (split; all_goals (rename_i hc; try simp [*])))) | ((with_reducible refine T.ret ?_); refine fin_pure ?_; simp [*]; try (change Hold _)) | (with_reducible refine T.block ?_) | ((with_reducible refine T.skip ?_); simp [*]) | ((with_reducible refine T.exit ?_); simp [*]) | ((with_reducible refine T.br fun K1 K2 hK1 hK2 => ?_); simp [*]; try ((refine Br.intro (fun hc => ?_) (fun hc => ?_)) <;> (try simp at hc))) | (with_reducible refine Cont.go (by assumption) _ ?_) | (with_reducible refine Cnt.go (by assumption) ?_))
              all_goals (unfold Hold at *; rw [hf])
          · have hs : sameLn l[j] m[j] = false := by simp [sameLn, s3]
            have hf : Hold (likeL l m = false) := by unfold Hold at *; rw [hL]; exact all2_false sameLn l m j hj hj2 hs
            clear ha hs g5 hL
            repeat' (first | (with_reducible refine T.sq fun K hK => ?_) | ((first | ((with_reducible refine T.reg hE ?hd ?_); (case hd => kernel_rfl)) | ((with_reducible refine T.any hE mixed ?hd ?hok ?_); (case hd => kernel_rfl); (case hok => kernel_rfl))); simp [*]; (repeat' (split; all_goals (rename_i hc; try simp [*])))) | ((with_reducible refine T.ret ?_); refine fin_pure ?_; simp [*]; try (change Hold _)) | (with_reducible refine T.block ?_) | ((with_reducible refine T.skip ?_); simp [*]) | ((with_reducible refine T.exit ?_); simp [*]) | ((with_reducible refine T.br fun K1 K2 hK1 hK2 => ?_); simp [*]; try ((refine Br.intro (fun hc => ?_) (fun hc => ?_)) <;> (try simp at hc))) | (with_reducible refine Cont.go (by assumption) _ ?_) | (with_reducible refine Cnt.go (by assumption) ?_))
            all_goals (unfold Hold at *; rw [hf])
        · have hs : sameLn l[j] m[j] = false := by simp [sameLn, s2]
          have hf : Hold (likeL l m = false) := by unfold Hold at *; rw [hL]; exact all2_false sameLn l m j hj hj2 hs
          clear ha hs g5 hL
          repeat' (first | (with_reducible refine T.sq fun K hK => ?_) | ((first | ((with_reducible refine T.reg hE ?hd ?_); (case hd => kernel_rfl)) | ((with_reducible refine T.any hE mixed ?hd ?hok ?_); (case hd => kernel_rfl); (case hok => kernel_rfl))); simp [*]; (repeat' (split; all_goals (rename_i hc; try simp [*])))) | ((with_reducible refine T.ret ?_); refine fin_pure ?_; simp [*]; try (change Hold _)) | (with_reducible refine T.block ?_) | ((with_reducible refine T.skip ?_); simp [*]) | ((with_reducible refine T.exit ?_); simp [*]) | ((with_reducible refine T.br fun K1 K2 hK1 hK2 => ?_); simp [*]; try ((refine Br.intro (fun hc => ?_) (fun hc => ?_)) <;> (try simp at hc))) | (with_reducible refine Cont.go (by assumption) _ ?_) | (with_reducible refine Cnt.go (by assumption) ?_))
          all_goals (unfold Hold at *; rw [hf])
      · have hs : sameLn l[j] m[j] = false := by simp [sameLn, s1]
        have hf : Hold (likeL l m = false) := by unfold Hold at *; rw [hL]; exact all2_false sameLn l m j hj hj2 hs
        clear ha hs g5 hL
        repeat' (first | (with_reducible refine T.sq fun K hK => ?_) | ((first | ((with_reducible refine T.reg hE ?hd ?_); (case hd => kernel_rfl)) | ((with_reducible refine T.any hE mixed ?hd ?hok ?_); (case hd => kernel_rfl); (case hok => kernel_rfl))); simp [*]; (repeat' (split; all_goals (rename_i hc; try simp [*])))) | ((with_reducible refine T.ret ?_); refine fin_pure ?_; simp [*]; try (change Hold _)) | (with_reducible refine T.block ?_) | ((with_reducible refine T.skip ?_); simp [*]) | ((with_reducible refine T.exit ?_); simp [*]) | ((with_reducible refine T.br fun K1 K2 hK1 hK2 => ?_); simp [*]; try ((refine Br.intro (fun hc => ?_) (fun hc => ?_)) <;> (try simp at hc))) | (with_reducible refine Cont.go (by assumption) _ ?_) | (with_reducible refine Cnt.go (by assumption) ?_))
        all_goals (unfold Hold at *; rw [hf])
    · have w8 : j = l.length := by omega
      have hy : Hold (likeL l m = true) := by
        unfold Hold at *
        rw [w8, List.take_length] at g5
        rw [hL]; rw [hl, List.take_length] at g5; exact g5
      clear g5 hL
      repeat' (first | (with_reducible refine T.sq fun K hK => ?_) | ((first | ((with_reducible refine T.reg hE ?hd ?_); (case hd => kernel_rfl)) | ((with_reducible refine T.any hE mixed ?hd ?hok ?_); (case hd => kernel_rfl); (case hok => kernel_rfl))); simp [*]; (repeat' (split; all_goals (rename_i hc; try simp [*])))) | ((with_reducible refine T.ret ?_); refine fin_pure ?_; simp [*]; try (change Hold _)) | (with_reducible refine T.block ?_) | ((with_reducible refine T.skip ?_); simp [*]) | ((with_reducible refine T.exit ?_); simp [*]) | ((with_reducible refine T.br fun K1 K2 hK1 hK2 => ?_); simp [*]; try ((refine Br.intro (fun hc => ?_) (fun hc => ?_)) <;> (try simp at hc))) | (with_reducible refine Cont.go (by assumption) _ ?_) | (with_reducible refine Cnt.go (by assumption) ?_))
      all_goals (unfold Hold at *; rw [hy])
  · have hli : ¬ (l.length : Int) = m.length := by omega
    have hf : Hold (likeL l m = false) := by unfold Hold likeL; simp [hl]
    repeat' (first | (with_reducible refine T.sq fun K hK => ?_) | ((first | ((with_reducible refine T.reg hE ?hd ?_); (case hd => kernel_rfl)) | ((with_reducible refine T.any hE mixed ?hd ?hok ?_); (case hd => kernel_rfl); (case hok => kernel_rfl))); simp [*]; (repeat' (split; all_goals (rename_i hc; try simp [*])))) | ((with_reducible refine T.ret ?_); refine fin_pure ?_; simp [*]; try (change Hold _)) | (with_reducible refine T.block ?_) | ((with_reducible refine T.skip ?_); simp [*]) | ((with_reducible refine T.exit ?_); simp [*]) | ((with_reducible refine T.br fun K1 K2 hK1 hK2 => ?_); simp [*]; try ((refine Br.intro (fun hc => ?_) (fun hc => ?_)) <;> (try simp at hc))) | (with_reducible refine Cont.go (by assumption) _ ?_) | (with_reducible refine Cnt.go (by assumption) ?_))
    all_goals (unfold Hold at *; rw [hf])
theorem ok_DeductSelves : PureOk Try.prog 3 (f1 kE fun _ => some (.bool true)) := by
  intro args r h
  obtain ⟨e, rfl, ⟨⟩⟩ := f1_inv h
  clear h
  have hE := ((((EnvOk.nil (P := Try.prog) (eq := fun _ => false) (own := fun _ => false) (mem := fun _ => false) EqOk.none).addf ok_Self).addf ok_rSelf).addf ok_rLikeL)
  refine ⟨⟨Try.f3, Try.func3, by decide, rfl⟩, pure_of_T Try.func3 rfl (by simp [Try.ntmps3]) fun q => ?_⟩
  have hs : ∃ l b, selfV e = .tup [.sl (rLn.encL l) .no, .int .i64 b] := by
    unfold selfV
    split
    · exact ⟨_, _, rfl⟩
    · exact ⟨_, _, rfl⟩
  obtain ⟨l, b, hs⟩ := hs
  have hll := likeL_self l
  repeat' (first | (with_reducible refine T.sq fun K hK => ?_) | ((first | ((with_reducible refine T.reg hE ?hd ?_); (case hd => kernel_rfl)) | ((with_reducible refine T.any hE mixed ?hd ?hok ?_); (case hd => kernel_rfl); (case hok => kernel_rfl))); simp [*]; (repeat' (split; all_goals (rename_i hc; try simp [*])))) | ((with_reducible refine T.ret ?_); refine fin_pure ?_; simp [*]; try (change Hold _)) | (with_reducible refine T.block ?_) | ((with_reducible refine T.skip ?_); simp [*]) | ((with_reducible refine T.exit ?_); simp [*]) | ((with_reducible refine T.br fun K1 K2 hK1 hK2 => ?_); simp [*]; try ((refine Br.intro (fun hc => ?_) (fun hc => ?_)) <;> (try simp at hc))) | (with_reducible refine Cont.go (by assumption) _ ?_) | (with_reducible refine Cnt.go (by assumption) ?_))
end Go.Proofs.Ytmamhpbblicaeaa.Ax
