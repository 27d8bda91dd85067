/- Lines of derivations; those that a maker has made: the program's. -/
import Derived.Test.YtmamhpbblicaeaaBxZ
import Derived.Test.YtmamhpbblicaeaaBxQ
import Derived.Test.YtmamhpbblicaeaaAxU
import Derived.Test.YtmamhpbblicaeaaAxY
import Derived.Test.YtmamhpbblicaeaaBxF
import Derived.Test.YtmamhpbblicaeaaCxJ
set_option linter.unusedVariables false
set_option linter.unusedSimpArgs false
namespace Go.Proofs.Ytmamhpbblicaeaa.Ax
open Go Go.Proofs

structure Ln where
  says : Ex
  by_ : Int
  a : Int
  b : Int
def encLn (x : Ln) : List V := [.int .i64 x.says.k, .int .i64 x.says.i, .sl (encL x.says.kids) .no, .int .i64 x.by_, .int .i64 x.a, .int .i64 x.b]
def decLn : List V → Option Ln
  | [.int .i64 k, .int .i64 i, .sl els .no, .int .i64 y, .int .i64 a, .int .i64 b] => (decL els).map fun l => ⟨.mk k i l, y, a, b⟩
  | _ => none
theorem decLn_inv (v : List V) (x : Ln) (h : decLn v = some x) : v = encLn x := by
  unfold decLn at h
  split at h
  · obtain ⟨l, hl, rfl⟩ := Option.map_eq_some_iff.1 h
    rw [decL_inv _ _ hl]; rfl
  · cases h
def rLn : Rw Ln := ⟨encLn, decLn, decLn_inv, fun a => by simp [encLn, decLn]⟩
@[simp] theorem rLn_enc (x : Ln) : rLn.enc x = [.int .i64 x.says.k, .int .i64 x.says.i, .sl (encL x.says.kids) .no, .int .i64 x.by_, .int .i64 x.a, .int .i64 x.b] := rfl
@[simp] theorem rLn_dec (k i y a b : Int) (els : List (List V)) : rLn.dec [.int .i64 k, .int .i64 i, .sl els .no, .int .i64 y, .int .i64 a, .int .i64 b] = (decL els).map fun l => ⟨.mk k i l, y, a, b⟩ := rfl
@[simp] theorem lenL_ln (l : List Ln) : lenL 6 (rLn.encL l) = True := rLn.lenL_encL (fun a => by simp) l
@[simp] theorem fitL_ln (l : List Ln) : fitL 6 (rLn.encL l) = true := rLn.fitL_encL (fun a => by simp [V.one]) l
theorem encLn_snoc (l : List Ln) (x : Ln) : rLn.encL l ++ [[.int .i64 x.says.k, .int .i64 x.says.i, .sl (encL x.says.kids) .no, .int .i64 x.by_, .int .i64 x.a, .int .i64 x.b]] = rLn.encL (l ++ [x]) := by
  rw [rLn.encL_append]; simp
/-- A row of lines that grows; where it is owned. -/
def rowV (l : List Ln) : Option Path → V
  | none => .nils
  | some t => .sl (rLn.encL l) (.own t 6)
@[simp] theorem rowV_one (l : List Ln) (t : Option Path) : V.one (rowV l t) = true := by cases t <;> rfl
@[simp] theorem rowV_junk (l : List Ln) (t : Option Path) : V.isJunk (rowV l t) = false := by cases t <;> rfl
@[simp] theorem rowV_cells (l : List Ln) (t : Option Path) : V.cells (rowV l t) = [rowV l t] := by cases t <;> rfl
def rowOk (K : Toks) (l : List Ln) : Option Path → Bool
  | none => l.isEmpty
  | some t => K t
def rowK (K : Toks) : Option Path → Toks
  | none => K
  | some t => upd K t false
def decRow : V → Option (List Ln × Option Path)
  | .nils => some ([], none)
  | .sl els (.own t 6) => (rLn.decL els).map fun l => (l, some t)
  | _ => none
theorem decRow_inv {v : V} {l : List Ln} {t : Option Path} (h : decRow v = some (l, t)) : v = rowV l t := by
  unfold decRow at h
  split at h
  · cases h; rfl
  · obtain ⟨l', hl, e⟩ := Option.map_eq_some_iff.1 h
    cases e
    rw [rLn.decL_inv _ _ hl]; rfl
  · cases h
theorem decRow_row {K : Toks} {l : List Ln} {t : Option Path} (h : rowOk K l t = true) : decRow (rowV l t) = some (l, t) := by
  cases t with
  | none => cases l with
    | nil => rfl
    | cons x l => cases h
  | some t => simp [rowV, decRow]

/-! ### A maker -/
structure Mkr where
  l : List Ln
  bad : Int
  tk : Option Path
def encMkr (s : Mkr) : List V := [rowV s.l s.tk, .int .i64 s.bad]
def decMkr : List V → Option Mkr
  | [r, .int .i64 b] => (decRow r).map fun x => ⟨x.1, b, x.2⟩
  | _ => none
theorem decMkr_inv {cs : List V} {s : Mkr} (h : decMkr cs = some s) : cs = encMkr s := by
  unfold decMkr at h
  split at h
  · obtain ⟨⟨l, t⟩, hl, rfl⟩ := Option.map_eq_some_iff.1 h
    rw [decRow_inv hl]; rfl
  · cases h
theorem decMkr_enc {K : Toks} {s : Mkr} (h : rowOk K s.l s.tk = true) : decMkr (encMkr s) = some s := by
  simp [decMkr, encMkr, decRow_row h]
/-- One line more; t: what it is owned by then. -/
def lineF (t : Path) (x : Ln) (s : Mkr) : Mkr := if s.bad ≠ 0 then s else if 4000 ≤ s.l.length then ⟨s.l, 2, s.tk⟩ else if rightE x.says ≠ 0 then ⟨s.l, rightE x.says, s.tk⟩ else ⟨s.l ++ [x], 0, some t⟩
def lineOk (x : Ln) (s : Mkr) : Prop := s.bad = 0 ∧ s.l.length < 4000 ∧ rightE x.says = 0
instance (x : Ln) (s : Mkr) : Decidable (lineOk x s) := by unfold lineOk; infer_instance
def lineN (x : Ln) (s : Mkr) : Int := if lineOk x s then (s.l.length : Int) + 1 else 1
def lineK (t : Path) (x : Ln) (s : Mkr) (K : Toks) : Toks := if lineOk x s then upd (rowK K s.tk) t true else K
theorem lineF_ok {t : Path} {x : Ln} {s : Mkr} (h : lineOk x s) : lineF t x s = ⟨s.l ++ [x], 0, some t⟩ := by
  obtain ⟨h1, h2, h3⟩ := h
  unfold lineF
  rw [if_neg (by omega), if_neg (by omega), if_neg (by omega)]
theorem lineF_row {t : Path} {x : Ln} {s : Mkr} {K : Toks} (h : rowOk K s.l s.tk = true) : rowOk (lineK t x s K) (lineF t x s).l (lineF t x s).tk = true := by
  by_cases c : lineOk x s
  · rw [lineF_ok c]; unfold lineK; rw [if_pos c]; simp [rowOk, upd]
  · unfold lineK; rw [if_neg c]
    unfold lineF
    split
    · exact h
    · split
      · exact h
      · split
        · exact h
        · exact absurd ⟨by omega, by omega, by omega⟩ c
@[simp] def gDImp : List V → Option V := f2 kE kE fun a b => some (enc (impX a b))
theorem ok_dImp : PureOk Try.prog 18 gDImp := by
  intro args r h
  obtain ⟨a, b, rfl, ⟨⟩⟩ := f2_inv h
  clear h
  have hE := (EnvOk.nil (P := Try.prog) (eq := fun _ => false) (own := fun _ => false) (mem := fun _ => false) EqOk.none)
  have hr2 : List.range 2 = [0, 1] := rfl
  refine ⟨⟨Try.f18, Try.func18, by decide, rfl⟩, pure_of_T Try.func18 rfl (by simp [Try.ntmps18]) fun q => ?_⟩
  repeat' (first | (with_reducible refine T.sq fun K hK => ?_) | ((first | ((with_reducible refine T.reg hE ?hd ?_); (case hd => kernel_rfl)) | ((with_reducible refine T.any hE mixed ?hd ?hok ?_); (case hd => kernel_rfl); (case hok => kernel_rfl))); simp [*]; (repeat' (split; all_goals (rename_i hc; try simp [*])))) | ((with_reducible refine T.ret ?_); refine fin_pure ?_; simp [*]; try (change Hold _)) | (with_reducible refine T.block ?_) | ((with_reducible refine T.skip ?_); simp [*]) | ((with_reducible refine T.exit ?_); simp [*]) | ((with_reducible refine T.br fun K1 K2 hK1 hK2 => ?_); simp [*]; try ((refine Br.intro (fun hc => ?_) (fun hc => ?_)) <;> (try simp at hc))) | (with_reducible refine Cont.go (by assumption) _ ?_) | (with_reducible refine Cnt.go (by assumption) ?_))
  all_goals (unfold Hold; simp [impX, encC_eq, *])
def okMkr (K : Toks) (s : Mkr) : Prop := rowOk K s.l s.tk = true ∧ s.l.length ≤ 4000
noncomputable instance (K : Toks) (s : Mkr) : Decidable (okMkr K s) := Classical.propDecidable _
/-- What lays a line down. -/
noncomputable def mAdd (tp : Path → Path) (f : List V → Option Ln) : Path → List V → Mem → Toks → Option (V × Mem × Toks) := fun q args M K => match args with
  | .ptr i 0 :: rest => match M i, f rest with
    | some (.cells cs), some x => match decMkr cs with
      | some s => if okMkr K s then some (.int .i64 (lineN x s), upd M i (some (.cells (encMkr (lineF (tp q) x s)))), lineK (tp q) x s K) else none
      | none => none
    | _, _ => none
  | _ => none
@[simp] theorem mAdd_ap (tp : Path → Path) (f : List V → Option Ln) (q i : Path) (rest : List V) (M : Mem) (K : Toks) : mAdd tp f q (.ptr i 0 :: rest) M K = match M i, f rest with
    | some (.cells cs), some x => match decMkr cs with
      | some s => if okMkr K s then some (.int .i64 (lineN x s), upd M i (some (.cells (encMkr (lineF (tp q) x s)))), lineK (tp q) x s K) else none
      | none => none
    | _, _ => none := rfl
theorem mAdd_inv {tp : Path → Path} {f : List V → Option Ln} {q : Path} {args : List V} {M M' : Mem} {K K' : Toks} {z : V} (h : mAdd tp f q args M K = some (z, M', K')) :
    ∃ i rest x s, args = .ptr i 0 :: rest ∧ f rest = some x ∧ M i = some (.cells (encMkr s)) ∧ okMkr K s ∧ z = .int .i64 (lineN x s) ∧ M' = upd M i (some (.cells (encMkr (lineF (tp q) x s)))) ∧ K' = lineK (tp q) x s K := by
  unfold mAdd at h
  split at h
  · rename_i i rest
    split at h
    · rename_i cs x hM hx
      split at h
      · rename_i s hs
        obtain rfl := decMkr_inv hs
        split at h
        · rename_i hok
          simp only [Option.some.injEq, Prod.mk.injEq] at h
          exact ⟨i, rest, x, s, rfl, hx, hM, hok, h.1.symm, h.2.1.symm, h.2.2.symm⟩
        · cases h
      · cases h
    · cases h
  · cases h
def fLine : List V → Option Ln
  | [.agg c] => decLn c
  | _ => none
@[simp] theorem fLine_ap (c : List V) : fLine [.agg c] = decLn c := rfl
@[simp] theorem decLn_lit (k i y a b : Int) (l : List Ex) : decLn [.int .i64 k, .int .i64 i, .sl (encL l) .no, .int .i64 y, .int .i64 a, .int .i64 b] = some ⟨.mk k i l, y, a, b⟩ := by simp [decLn]
def tLine (q : Path) : Path := 0 :: 46 :: q
theorem partV_ok {e : Ex} (h : rightE e = 0) : partV e [] = .tup [enc e, .int .i64 0] := by
  unfold partV; rw [if_pos h]; simp [atX]
theorem partV_no {e : Ex} (h : rightE e ≠ 0) : partV e [] = .tup [enc ex0, .int .i64 (rightE e)] := by
  unfold partV; rw [if_neg h]
theorem add_fresh {q i : Path} {M : Mem} {cs : List V} {b : Option Box} (hM : M i = some (.cells cs)) : ∀ id, ¬ q <:+ id → M id = none → upd M i b id = none := fun id _ hn => by
  have : id ≠ i := fun e => by subst e; rw [hn] at hM; cases hM
  rw [upd_ne _ _ this]; exact hn
set_option maxHeartbeats 2000000 in
theorem ok_line : MemOk Try.prog 38 (mAdd tLine fLine) := by
  intro q args M K0 z M' K' h
  obtain ⟨i, rest, x, s, rfl, hx, hM, hok, rfl, rfl, rfl⟩ := mAdd_inv h
  clear h
  obtain ⟨hok, hlen⟩ := hok
  unfold fLine at hx
  split at hx
  · rename_i c
    obtain rfl := decLn_inv _ _ hx
    refine ⟨⟨Try.f38, Try.func38, by decide, rfl⟩, add_fresh hM, ?_⟩
    unfold tLine
    have hE := ((EnvOk.nil (P := Try.prog) (eq := fun _ => false) (own := fun _ => false) (mem := fun _ => false) EqOk.none).addf ok_At)
    refine ctr_of_T Try.func38 rfl (by simp [Try.ntmps38]) fun hMq hKq => ?_
    have hq := not_own hMq (id := i) (by rw [hM]; simp)
    have hq2 : ∀ c d, ¬ c :: d :: q = i := fun c d e => hq c d e.symm
    have hd0 : decI .i64 [] = some [] := rfl
    have hr0 : List.range 1 = [0] := rfl
    obtain ⟨l, bad, tk⟩ := s
    obtain ⟨e, y, a, b⟩ := x
    have hqi : ∀ t c d, K0 t = true → ¬ t = c :: d :: q := fun t c d ht e => by
      have := hKq t (by rw [e]; exact own_suf q c d)
      rw [this] at ht; cases ht
    by_cases c1 : bad = 0
    · subst c1
      by_cases c2 : 4000 ≤ l.length
      · have c2i : (4000 : Int) ≤ l.length := by omega
        have hF : lineF (0 :: 46 :: q) ⟨e, y, a, b⟩ ⟨l, 0, tk⟩ = ⟨l, 2, tk⟩ := by unfold lineF; simp [c2]
        have hnk : ¬ lineOk ⟨e, y, a, b⟩ ⟨l, 0, tk⟩ := fun h => by have := h.2.1; simp at this; omega
        have hN : lineN ⟨e, y, a, b⟩ ⟨l, 0, tk⟩ = 1 := by unfold lineN; rw [if_neg hnk]
        have hK : lineK (0 :: 46 :: q) ⟨e, y, a, b⟩ ⟨l, 0, tk⟩ K0 = K0 := by unfold lineK; rw [if_neg hnk]
        rw [hF, hN, hK]
        clear hF hN hK hnk
        cases tk with
        | none => cases l with
          | nil => simp at c2
          | cons => cases hok
        | some t =>
          simp only [encMkr, rowV, encLn] at *
          repeat' (first | (with_reducible refine T.sq fun K hK => ?_) | ((first | ((with_reducible refine T.reg hE ?hd ?_); (case hd => kernel_rfl)) | ((with_reducible refine T.any hE mixed ?hd ?hok ?_); (case hd => kernel_rfl); (case hok => kernel_rfl))); simp [*]; (repeat' (split; all_goals (rename_i hc; try simp [*])))) | ((with_reducible refine T.ret ?_); (refine fin_mem (by simp [*]) ?_ ?_)) | (with_reducible refine T.block ?_) | ((with_reducible refine T.skip ?_); simp [*]) | ((with_reducible refine T.exit ?_); simp [*]) | ((with_reducible refine T.br fun K1 K2 hK1 hK2 => ?_); simp [*]; try ((refine Br.intro (fun hc => ?_) (fun hc => ?_)) <;> (try simp at hc))) | (with_reducible refine Cont.go (by assumption) _ ?_) | (with_reducible refine Cnt.go (by assumption) ?_))
          · intro id hid
            by_cases e1 : id = i
            · subst e1; simp [hq]
            · have hm : M id ≠ none := by rwa [upd_ne _ _ e1] at hid
              simp [e1, not_own hMq hm]
          · intro u hu; simpa using hu
      · have c2i : ¬ (4000 : Int) ≤ l.length := by omega
        by_cases c3 : rightE e = 0
        · have hlo : lineOk ⟨e, y, a, b⟩ ⟨l, 0, tk⟩ := ⟨rfl, by simpa using c2, c3⟩
          have hN : lineN ⟨e, y, a, b⟩ ⟨l, 0, tk⟩ = l.length + 1 := by unfold lineN; rw [if_pos hlo]
          have hK : lineK (0 :: 46 :: q) ⟨e, y, a, b⟩ ⟨l, 0, tk⟩ K0 = upd (rowK K0 tk) (0 :: 46 :: q) true := by unfold lineK; rw [if_pos hlo]
          rw [lineF_ok hlo, hN, hK]
          clear hlo hN hK
          have hp := partV_ok c3
          have hsn := encLn_snoc l ⟨e, y, a, b⟩
          have hby : (l.length + 1) * 64 ≤ 140737488355328 := by omega
          have hwl : IntKind.i64.wrap ((l.length : Int) + 1) = (l.length : Int) + 1 := wrap64 (by omega) (by omega)
          cases tk with
          | none =>
            cases l with
            | cons => cases hok
            | nil =>
              simp only [encMkr, rowV, encLn] at *
              clear hlen
              repeat' (first | (with_reducible refine T.sq fun K hK => ?_) | ((first | ((with_reducible refine T.reg hE ?hd ?_); (case hd => kernel_rfl)) | ((with_reducible refine T.any hE mixed ?hd ?hok ?_); (case hd => kernel_rfl); (case hok => kernel_rfl))); simp [*]; (repeat' (split; all_goals (rename_i hc; try simp [*])))) | ((with_reducible refine T.ret ?_); (refine fin_mem (by simp [*]) ?_ ?_)) | (with_reducible refine T.block ?_) | ((with_reducible refine T.skip ?_); simp [*]) | ((with_reducible refine T.exit ?_); simp [*]) | ((with_reducible refine T.br fun K1 K2 hK1 hK2 => ?_); simp [*]; try ((refine Br.intro (fun hc => ?_) (fun hc => ?_)) <;> (try simp at hc))) | (with_reducible refine Cont.go (by assumption) _ ?_) | (with_reducible refine Cnt.go (by assumption) ?_))
              · intro id hid
                by_cases e1 : id = i
                · subst e1; simp [hq]
                · have hm : M id ≠ none := by rwa [upd_ne _ _ e1] at hid
                  simp [e1, not_own hMq hm]
              · intro u hu; simpa [rowK] using hu
          | some t =>
            simp only [encMkr, rowV, encLn] at *
            have hok' : K0 t = true := hok
            repeat' (first | (with_reducible refine T.sq fun K hK => ?_) | ((first | ((with_reducible refine T.reg hE ?hd ?_); (case hd => kernel_rfl)) | ((with_reducible refine T.any hE mixed ?hd ?hok ?_); (case hd => kernel_rfl); (case hok => kernel_rfl))); simp [*]; (repeat' (split; all_goals (rename_i hc; try simp [*])))) | ((with_reducible refine T.ret ?_); (refine fin_mem (by simp [*]) ?_ ?_)) | (with_reducible refine T.block ?_) | ((with_reducible refine T.skip ?_); simp [*]) | ((with_reducible refine T.exit ?_); simp [*]) | ((with_reducible refine T.br fun K1 K2 hK1 hK2 => ?_); simp [*]; try ((refine Br.intro (fun hc => ?_) (fun hc => ?_)) <;> (try simp at hc))) | (with_reducible refine Cont.go (by assumption) _ ?_) | (with_reducible refine Cnt.go (by assumption) ?_))
            · intro id hid
              by_cases e1 : id = i
              · subst e1; simp [hq, Rw.encL_append]
              · have hm : M id ≠ none := by rwa [upd_ne _ _ e1] at hid
                simp [e1, not_own hMq hm]
            · intro u hu; simpa [rowK] using hu
        · have hF : lineF (0 :: 46 :: q) ⟨e, y, a, b⟩ ⟨l, 0, tk⟩ = ⟨l, rightE e, tk⟩ := by unfold lineF; simp [c2, c3]
          have hnk : ¬ lineOk ⟨e, y, a, b⟩ ⟨l, 0, tk⟩ := fun h => c3 h.2.2
          have hN : lineN ⟨e, y, a, b⟩ ⟨l, 0, tk⟩ = 1 := by unfold lineN; rw [if_neg hnk]
          have hK : lineK (0 :: 46 :: q) ⟨e, y, a, b⟩ ⟨l, 0, tk⟩ K0 = K0 := by unfold lineK; rw [if_neg hnk]
          rw [hF, hN, hK]
          clear hF hN hK hnk
          have hp := partV_no c3
          have hln : elsOf (rowV l tk) = some (rLn.encL l) := by
            cases tk with
            | none => cases l with
              | nil => rfl
              | cons => cases hok
            | some t => rfl
          cases tk with
          | none => 
            cases l with
            | cons => cases hok
            | nil =>
              simp only [encMkr, rowV, encLn] at *
              repeat' (first | (with_reducible refine T.sq fun K hK => ?_) | ((first | ((with_reducible refine T.reg hE ?hd ?_); (case hd => kernel_rfl)) | ((with_reducible refine T.any hE mixed ?hd ?hok ?_); (case hd => kernel_rfl); (case hok => kernel_rfl))); simp [*]; (repeat' (split; all_goals (rename_i hc; try simp [*])))) | ((with_reducible refine T.ret ?_); (refine fin_mem (by simp [*]) ?_ ?_)) | (with_reducible refine T.block ?_) | ((with_reducible refine T.skip ?_); simp [*]) | ((with_reducible refine T.exit ?_); simp [*]) | ((with_reducible refine T.br fun K1 K2 hK1 hK2 => ?_); simp [*]; try ((refine Br.intro (fun hc => ?_) (fun hc => ?_)) <;> (try simp at hc))) | (with_reducible refine Cont.go (by assumption) _ ?_) | (with_reducible refine Cnt.go (by assumption) ?_))
              · intro id hid
                by_cases e1 : id = i
                · subst e1; simp [hq]
                · have hm : M id ≠ none := by rwa [upd_ne _ _ e1] at hid
                  simp [e1, not_own hMq hm]
              · intro u hu; simpa using hu
          | some t =>
            simp only [encMkr, rowV, encLn] at *
            repeat' (first | (with_reducible refine T.sq fun K hK => ?_) | ((first | ((with_reducible refine T.reg hE ?hd ?_); (case hd => kernel_rfl)) | ((with_reducible refine T.any hE mixed ?hd ?hok ?_); (case hd => kernel_rfl); (case hok => kernel_rfl))); simp [*]; (repeat' (split; all_goals (rename_i hc; try simp [*])))) | ((with_reducible refine T.ret ?_); (refine fin_mem (by simp [*]) ?_ ?_)) | (with_reducible refine T.block ?_) | ((with_reducible refine T.skip ?_); simp [*]) | ((with_reducible refine T.exit ?_); simp [*]) | ((with_reducible refine T.br fun K1 K2 hK1 hK2 => ?_); simp [*]; try ((refine Br.intro (fun hc => ?_) (fun hc => ?_)) <;> (try simp at hc))) | (with_reducible refine Cont.go (by assumption) _ ?_) | (with_reducible refine Cnt.go (by assumption) ?_))
            · intro id hid
              by_cases e1 : id = i
              · subst e1; simp [hq]
              · have hm : M id ≠ none := by rwa [upd_ne _ _ e1] at hid
                simp [e1, not_own hMq hm]
            · intro u hu; simpa using hu
    · have hF : lineF (0 :: 46 :: q) ⟨e, y, a, b⟩ ⟨l, bad, tk⟩ = ⟨l, bad, tk⟩ := by unfold lineF; simp [c1]
      have hnk : ¬ lineOk ⟨e, y, a, b⟩ ⟨l, bad, tk⟩ := fun h => c1 h.1
      have hN : lineN ⟨e, y, a, b⟩ ⟨l, bad, tk⟩ = 1 := by unfold lineN; rw [if_neg hnk]
      have hK : lineK (0 :: 46 :: q) ⟨e, y, a, b⟩ ⟨l, bad, tk⟩ K0 = K0 := by unfold lineK; rw [if_neg hnk]
      rw [hF, hN, hK]
      clear hF hN hK hnk
      simp only [encMkr, encLn] at *
      repeat' (first | (with_reducible refine T.sq fun K hK => ?_) | ((first | ((with_reducible refine T.reg hE ?hd ?_); (case hd => kernel_rfl)) | ((with_reducible refine T.any hE mixed ?hd ?hok ?_); (case hd => kernel_rfl); (case hok => kernel_rfl))); simp [*]; (repeat' (split; all_goals (rename_i hc; try simp [*])))) | ((with_reducible refine T.ret ?_); (refine fin_mem (by simp [*]) ?_ ?_)) | (with_reducible refine T.block ?_) | ((with_reducible refine T.skip ?_); simp [*]) | ((with_reducible refine T.exit ?_); simp [*]) | ((with_reducible refine T.br fun K1 K2 hK1 hK2 => ?_); simp [*]; try ((refine Br.intro (fun hc => ?_) (fun hc => ?_)) <;> (try simp at hc))) | (with_reducible refine Cont.go (by assumption) _ ?_) | (with_reducible refine Cnt.go (by assumption) ?_))
      · intro id hid
        by_cases e1 : id = i
        · subst e1; simp [hq, hM]
        · have hm : M id ≠ none := by rwa [upd_ne _ _ e1] at hid
          simp [e1, not_own hMq hm]
      · intro u hu; simpa using hu
  · cases hx

@[simp] theorem decMkr_row {K : Toks} {s : Mkr} (h : okMkr K s) : decMkr (encMkr s) = some s := decMkr_enc h.1
theorem okMkr_line {t : Path} {x : Ln} {s : Mkr} {K : Toks} (h : okMkr K s) : okMkr (lineK t x s K) (lineF t x s) := by
  refine ⟨lineF_row h.1, ?_⟩
  by_cases c : lineOk x s
  · rw [lineF_ok c]; have := c.2.1; simp; omega
  · unfold lineF
    split
    · exact h.2
    · split
      · exact h.2
      · split
        · exact h.2
        · exact absurd ⟨by omega, by omega, by omega⟩ c
def fAxiom : List V → Option Ln
  | [.int .i64 k, e] => (dec e).map fun e => ⟨e, 1, k, 0⟩
  | _ => none
def tAxiom (q : Path) : Path := tLine (0 :: 13 :: q)
theorem ok_axiom : MemOk Try.prog 37 (mAdd tAxiom fAxiom) := by
  intro q args M K0 z M' K' h
  obtain ⟨i, rest, x, s, rfl, hx, hM, hok, rfl, rfl, rfl⟩ := mAdd_inv h
  clear h
  unfold fAxiom at hx
  split at hx
  · rename_i k ev
    obtain ⟨e, he, rfl⟩ := Option.map_eq_some_iff.1 hx
    obtain rfl := dec_inv he
    clear hx he
    refine ⟨⟨Try.f37, Try.func37, by decide, rfl⟩, add_fresh hM, ?_⟩
    have hE := ((EnvOk.nil (P := Try.prog) (eq := fun _ => false) (own := fun _ => false) (mem := fun f => f == 38) EqOk.none).addm ok_line)
    refine ctr_of_T Try.func37 rfl (by simp [Try.ntmps37]) fun hMq hKq => ?_
    have hq := not_own hMq (id := i) (by rw [hM]; simp)
    have hds := decMkr_row hok
    have ht : tLine (0 :: 13 :: q) = tAxiom q := rfl
    repeat' (first | (with_reducible refine T.sq fun K hK => ?_) | ((first | ((with_reducible refine T.reg hE ?hd ?_); (case hd => kernel_rfl)) | ((with_reducible refine T.any hE mixed ?hd ?hok ?_); (case hd => kernel_rfl); (case hok => kernel_rfl))); simp [*]; (repeat' (split; all_goals (rename_i hc; try simp [*])))) | ((with_reducible refine T.ret ?_); (refine fin_mem (by simp [*]) ?_ ?_)) | (with_reducible refine T.block ?_) | ((with_reducible refine T.skip ?_); simp [*]) | ((with_reducible refine T.exit ?_); simp [*]) | ((with_reducible refine T.br fun K1 K2 hK1 hK2 => ?_); simp [*]; try ((refine Br.intro (fun hc => ?_) (fun hc => ?_)) <;> (try simp at hc))) | (with_reducible refine Cont.go (by assumption) _ ?_) | (with_reducible refine Cnt.go (by assumption) ?_))
    · intro id hid
      by_cases e1 : id = i
      · subst e1; simp [hq]
      · have hm : M id ≠ none := by rwa [upd_ne _ _ e1] at hid
        simp [e1, not_own hMq hm]
    · intro u hu; simpa using hu
  · cases hx
def oneX (a b : Ex) : Ln := ⟨impX a (impX b a), 1, 1, 0⟩
def twoX (a b c : Ex) : Ln := ⟨impX (impX a (impX b c)) (impX (impX a b) (impX a c)), 1, 2, 0⟩
def fOne : List V → Option Ln
  | [a, b] => (dec a).bind fun a => (dec b).map fun b => oneX a b
  | _ => none
def fTwo : List V → Option Ln
  | [a, b, c] => (dec a).bind fun a => (dec b).bind fun b => (dec c).map fun c => twoX a b c
  | _ => none
def tOne (q : Path) : Path := tAxiom (0 :: 15 :: q)
def tTwo (q : Path) : Path := tAxiom (0 :: 25 :: q)
@[simp] theorem fAxiom_ap (k : Int) (e : V) : fAxiom [.int .i64 k, e] = (dec e).map fun e => ⟨e, 1, k, 0⟩ := rfl
@[simp] theorem fOne_ap (a b : V) : fOne [a, b] = (dec a).bind fun a => (dec b).map fun b => oneX a b := rfl
@[simp] theorem fTwo_ap (a b c : V) : fTwo [a, b, c] = (dec a).bind fun a => (dec b).bind fun b => (dec c).map fun c => twoX a b c := rfl
theorem ok_one : MemOk Try.prog 19 (mAdd tOne fOne) := by
  intro q args M K0 z M' K' h
  obtain ⟨i, rest, x, s, rfl, hx, hM, hok, rfl, rfl, rfl⟩ := mAdd_inv h
  clear h
  unfold fOne at hx
  split at hx
  · rename_i av bv
    obtain ⟨a, ha, hx⟩ := Option.bind_eq_some_iff.1 hx
    obtain ⟨b, hb, rfl⟩ := Option.map_eq_some_iff.1 hx
    obtain rfl := dec_inv ha
    obtain rfl := dec_inv hb
    clear hx ha hb
    refine ⟨⟨Try.f19, Try.func19, by decide, rfl⟩, add_fresh hM, ?_⟩
    have hE := (((EnvOk.nil (P := Try.prog) (eq := fun _ => false) (own := fun _ => false) (mem := fun f => f == 37) EqOk.none).addf ok_dImp).addm ok_axiom)
    refine ctr_of_T Try.func19 rfl (by simp [Try.ntmps19]) fun hMq hKq => ?_
    have hq := not_own hMq (id := i) (by rw [hM]; simp)
    have hds := decMkr_row hok
    have ht : tAxiom (0 :: 15 :: q) = tOne q := rfl
    have hone : (⟨impX a (impX b a), 1, 1, 0⟩ : Ln) = oneX a b := rfl
    repeat' (first | (with_reducible refine T.sq fun K hK => ?_) | ((first | ((with_reducible refine T.reg hE ?hd ?_); (case hd => kernel_rfl)) | ((with_reducible refine T.any hE mixed ?hd ?hok ?_); (case hd => kernel_rfl); (case hok => kernel_rfl))); simp [*]; (repeat' (split; all_goals (rename_i hc; try simp [*])))) | ((with_reducible refine T.ret ?_); (refine fin_mem (by simp [*]) ?_ ?_)) | (with_reducible refine T.block ?_) | ((with_reducible refine T.skip ?_); simp [*]) | ((with_reducible refine T.exit ?_); simp [*]) | ((with_reducible refine T.br fun K1 K2 hK1 hK2 => ?_); simp [*]; try ((refine Br.intro (fun hc => ?_) (fun hc => ?_)) <;> (try simp at hc))) | (with_reducible refine Cont.go (by assumption) _ ?_) | (with_reducible refine Cnt.go (by assumption) ?_))
    · intro id hid
      by_cases e1 : id = i
      · subst e1; simp [hq]
      · have hm : M id ≠ none := by rwa [upd_ne _ _ e1] at hid
        simp [e1, not_own hMq hm]
    · intro u hu; simpa using hu
  · cases hx
theorem ok_two : MemOk Try.prog 20 (mAdd tTwo fTwo) := by
  intro q args M K0 z M' K' h
  obtain ⟨i, rest, x, s, rfl, hx, hM, hok, rfl, rfl, rfl⟩ := mAdd_inv h
  clear h
  unfold fTwo at hx
  split at hx
  · rename_i av bv cv
    obtain ⟨a, ha, hx⟩ := Option.bind_eq_some_iff.1 hx
    obtain ⟨b, hb, hx⟩ := Option.bind_eq_some_iff.1 hx
    obtain ⟨c, hc, rfl⟩ := Option.map_eq_some_iff.1 hx
    obtain rfl := dec_inv ha
    obtain rfl := dec_inv hb
    obtain rfl := dec_inv hc
    clear hx ha hb hc
    refine ⟨⟨Try.f20, Try.func20, by decide, rfl⟩, add_fresh hM, ?_⟩
    have hE := (((EnvOk.nil (P := Try.prog) (eq := fun _ => false) (own := fun _ => false) (mem := fun f => f == 37) EqOk.none).addf ok_dImp).addm ok_axiom)
    refine ctr_of_T Try.func20 rfl (by simp [Try.ntmps20]) fun hMq hKq => ?_
    have hq := not_own hMq (id := i) (by rw [hM]; simp)
    have hds := decMkr_row hok
    have ht : tAxiom (0 :: 25 :: q) = tTwo q := rfl
    have htwo : (⟨impX (impX a (impX b c)) (impX (impX a b) (impX a c)), 1, 2, 0⟩ : Ln) = twoX a b c := rfl
    repeat' (first | (with_reducible refine T.sq fun K hK => ?_) | ((first | ((with_reducible refine T.reg hE ?hd ?_); (case hd => kernel_rfl)) | ((with_reducible refine T.any hE mixed ?hd ?hok ?_); (case hd => kernel_rfl); (case hok => kernel_rfl))); simp [*]; (repeat' (split; all_goals (rename_i hc; try simp [*])))) | ((with_reducible refine T.ret ?_); (refine fin_mem (by simp [*]) ?_ ?_)) | (with_reducible refine T.block ?_) | ((with_reducible refine T.skip ?_); simp [*]) | ((with_reducible refine T.exit ?_); simp [*]) | ((with_reducible refine T.br fun K1 K2 hK1 hK2 => ?_); simp [*]; try ((refine Br.intro (fun hc => ?_) (fun hc => ?_)) <;> (try simp at hc))) | (with_reducible refine Cont.go (by assumption) _ ?_) | (with_reducible refine Cnt.go (by assumption) ?_))
    · intro id hid
      by_cases e1 : id = i
      · subst e1; simp [hq]
      · have hm : M id ≠ none := by rwa [upd_ne _ _ e1] at hid
        simp [e1, not_own hMq hm]
    · intro u hu; simpa using hu
  · cases hx

/-! ### What a line says; detachment -/
def saysX (s : Mkr) (n : Int) : Ex := if (s.l.length : Int) < n then ex0 else ((s.l[(n - 1).toNat]?).map Ln.says).getD ex0
noncomputable def mSays : Path → List V → Mem → Toks → Option (V × Mem × Toks) := fun q args M K => match args with
  | [.ptr i 0, .int .i64 n] => match M i with
    | some (.cells cs) => match decMkr cs with
      | some s => if okMkr K s ∧ 1 ≤ n then some (enc (saysX s n), M, K) else none
      | none => none
    | _ => none
  | _ => none
@[simp] theorem mSays_ap (q i : Path) (n : Int) (M : Mem) (K : Toks) : mSays q [.ptr i 0, .int .i64 n] M K = match M i with
    | some (.cells cs) => match decMkr cs with
      | some s => if okMkr K s ∧ 1 ≤ n then some (enc (saysX s n), M, K) else none
      | none => none
    | _ => none := rfl
set_option maxHeartbeats 1000000 in
theorem ok_says : MemOk Try.prog 39 mSays := by
  intro q args M K0 z M' K' h
  unfold mSays at h
  split at h
  · rename_i i n
    split at h
    · rename_i cs hM
      split at h
      · rename_i s hs
        obtain rfl := decMkr_inv hs
        split at h
        · rename_i hok
          obtain ⟨hok, hn⟩ := hok
          simp only [Option.some.injEq, Prod.mk.injEq] at h
          obtain ⟨rfl, rfl, rfl⟩ := h
          refine ⟨⟨Try.f39, Try.func39, by decide, rfl⟩, fun id _ h => h, ?_⟩
          have hE := (EnvOk.nil (P := Try.prog) (eq := fun _ => false) (own := fun _ => false) (mem := fun _ => false) EqOk.none)
          refine ctr_of_T Try.func39 rfl (by simp [Try.ntmps39]) fun hMq hKq => ?_
          have hq := not_own hMq (id := i) (by rw [hM]; simp)
          obtain ⟨l, bad, tk⟩ := s
          obtain ⟨hr, hl⟩ := hok
          unfold encMkr at hM
          simp only at hM hl
          have hw : n ≤ 4000 → IntKind.i64.wrap (n - 1) = n - 1 := fun h => wrap64 (by omega) (by omega)
          have hfin : ∀ id : Path, M id ≠ none → ¬ id = 0 :: 6 :: q := fun id hid => not_own hMq hid 0 6
          have x1 : ex0.k = 0 := rfl
          have x2 : ex0.i = 0 := rfl
          have x3 : ex0.kids = [] := rfl
          cases tk with
          | none =>
            cases l with
            | cons => cases hr
            | nil =>
              have hs : saysX ⟨[], bad, none⟩ n = ex0 := by unfold saysX; rw [if_pos (by simp; omega)]
              rw [hs]
              have c0 : (0 : Int) < n := by omega
              simp only [rowV] at hM
              clear hw
              repeat' (first | (with_reducible refine T.sq fun K hK => ?_) | ((first | ((with_reducible refine T.reg hE ?hd ?_); (case hd => kernel_rfl)) | ((with_reducible refine T.any hE mixed ?hd ?hok ?_); (case hd => kernel_rfl); (case hok => kernel_rfl))); simp [*]; (repeat' (split; all_goals (rename_i hc; try simp [*])))) | ((with_reducible refine T.ret ?_); (refine fin_mem (by simp [*]) ?_ ?_)) | (with_reducible refine T.block ?_) | ((with_reducible refine T.skip ?_); simp [*]) | ((with_reducible refine T.exit ?_); simp [*]) | ((with_reducible refine T.br fun K1 K2 hK1 hK2 => ?_); simp [*]; try ((refine Br.intro (fun hc => ?_) (fun hc => ?_)) <;> (try simp at hc))) | (with_reducible refine Cont.go (by assumption) _ ?_) | (with_reducible refine Cnt.go (by assumption) ?_))
              all_goals first | (intro id hid; simp [hfin id hid]) | (intro u hu; exact hu) | skip
          | some t =>
            simp only [rowV] at hM
            by_cases c : (l.length : Int) < n
            · have hs : saysX ⟨l, bad, some t⟩ n = ex0 := by unfold saysX; rw [if_pos c]
              rw [hs]
              clear hw
              repeat' (first | (with_reducible refine T.sq fun K hK => ?_) | ((first | ((with_reducible refine T.reg hE ?hd ?_); (case hd => kernel_rfl)) | ((with_reducible refine T.any hE mixed ?hd ?hok ?_); (case hd => kernel_rfl); (case hok => kernel_rfl))); simp [*]; (repeat' (split; all_goals (rename_i hc; try simp [*])))) | ((with_reducible refine T.ret ?_); (refine fin_mem (by simp [*]) ?_ ?_)) | (with_reducible refine T.block ?_) | ((with_reducible refine T.skip ?_); simp [*]) | ((with_reducible refine T.exit ?_); simp [*]) | ((with_reducible refine T.br fun K1 K2 hK1 hK2 => ?_); simp [*]; try ((refine Br.intro (fun hc => ?_) (fun hc => ?_)) <;> (try simp at hc))) | (with_reducible refine Cont.go (by assumption) _ ?_) | (with_reducible refine Cnt.go (by assumption) ?_))
              all_goals first | (intro id hid; simp [hfin id hid]) | (intro u hu; exact hu) | skip
            · obtain ⟨m, rfl⟩ : ∃ m : Nat, n = m + 1 := ⟨(n - 1).toNat, by omega⟩
              have hm : m < l.length := by omega
              have hs : saysX ⟨l, bad, some t⟩ (m + 1) = l[m].says := by
                unfold saysX
                rw [if_neg c]
                have : ((m : Int) + 1 - 1).toNat = m := by omega
                simp [this, hm]
              rw [hs]
              have hw := hw (by omega)
              have e1 : (m : Int) + 1 - 1 = m := by omega
              rw [e1] at hw
              repeat' (first | (with_reducible refine T.sq fun K hK => ?_) | ((first | ((with_reducible refine T.reg hE ?hd ?_); (case hd => kernel_rfl)) | ((with_reducible refine T.any hE mixed ?hd ?hok ?_); (case hd => kernel_rfl); (case hok => kernel_rfl))); simp [*]; (repeat' (split; all_goals (rename_i hc; try simp [*])))) | ((with_reducible refine T.ret ?_); (refine fin_mem (by simp [*]) ?_ ?_)) | (with_reducible refine T.block ?_) | ((with_reducible refine T.skip ?_); simp [*]) | ((with_reducible refine T.exit ?_); simp [*]) | ((with_reducible refine T.br fun K1 K2 hK1 hK2 => ?_); simp [*]; try ((refine Br.intro (fun hc => ?_) (fun hc => ?_)) <;> (try simp at hc))) | (with_reducible refine Cont.go (by assumption) _ ?_) | (with_reducible refine Cnt.go (by assumption) ?_))
              all_goals first | (intro id hid; simp [hfin id hid]) | (intro u hu; exact hu) | skip
        · cases h
      · cases h
    · cases h
  · cases h

/-- What is detached: its line. -/
def detX (s : Mkr) (i j : Int) : Ln := ⟨(saysX s j).kids.getD 1 ex0, 2, i, j⟩
def okDet (s : Mkr) (j : Int) : Prop := 1 ≤ j ∧ (s.bad = 0 → 2 ≤ (saysX s j).kids.length)
noncomputable instance (s : Mkr) (j : Int) : Decidable (okDet s j) := Classical.propDecidable _
def tDet (q : Path) : Path := tLine (0 :: 24 :: q)
noncomputable def mDet : Path → List V → Mem → Toks → Option (V × Mem × Toks) := fun q args M K => match args with
  | [.ptr i 0, .int .i64 a, .int .i64 b] => match M i with
    | some (.cells cs) => match decMkr cs with
      | some s => if okMkr K s ∧ okDet s b then some (.int .i64 (lineN (detX s a b) s), upd M i (some (.cells (encMkr (lineF (tDet q) (detX s a b) s)))), lineK (tDet q) (detX s a b) s K) else none
      | none => none
    | _ => none
  | _ => none
@[simp] theorem mDet_ap (q i : Path) (a b : Int) (M : Mem) (K : Toks) : mDet q [.ptr i 0, .int .i64 a, .int .i64 b] M K = match M i with
    | some (.cells cs) => match decMkr cs with
      | some s => if okMkr K s ∧ okDet s b then some (.int .i64 (lineN (detX s a b) s), upd M i (some (.cells (encMkr (lineF (tDet q) (detX s a b) s)))), lineK (tDet q) (detX s a b) s K) else none
      | none => none
    | _ => none := rfl
theorem line_bad {t : Path} {x : Ln} {s : Mkr} {K : Toks} (h : s.bad ≠ 0) : lineF t x s = s ∧ lineN x s = 1 ∧ lineK t x s K = K := by
  have hn : ¬ lineOk x s := fun c => h c.1
  exact ⟨by unfold lineF; rw [if_pos h], by unfold lineN; rw [if_neg hn], by unfold lineK; rw [if_neg hn]⟩
set_option maxHeartbeats 1000000 in
theorem ok_detach : MemOk Try.prog 21 mDet := by
  intro q args M K0 z M' K' h
  unfold mDet at h
  split at h
  · rename_i i a b
    split at h
    · rename_i cs hM
      split at h
      · rename_i s hs
        obtain rfl := decMkr_inv hs
        split at h
        · rename_i hok
          obtain ⟨hok, hb, hd⟩ := hok
          simp only [Option.some.injEq, Prod.mk.injEq] at h
          obtain ⟨rfl, rfl, rfl⟩ := h
          refine ⟨⟨Try.f21, Try.func21, by decide, rfl⟩, add_fresh hM, ?_⟩
          have hE := (((EnvOk.nil (P := Try.prog) (eq := fun _ => false) (own := fun _ => false) (mem := fun f => f == 38 || f == 39) EqOk.none).addm ok_line).addm ok_says)
          refine ctr_of_T Try.func21 rfl (by simp [Try.ntmps21]) fun hMq hKq => ?_
          have hq := not_own hMq (id := i) (by rw [hM]; simp)
          by_cases c : s.bad = 0
          · have hd := hd c
            have hds := decMkr_row hok
            have hcs : encMkr s = [rowV s.l s.tk, .int .i64 0] := by unfold encMkr; rw [c]
            have hM2 : M i = some (.cells [rowV s.l s.tk, .int .i64 0]) := by rw [hM, hcs]
            have hds2 : decMkr [rowV s.l s.tk, .int .i64 0] = some s := by rw [← hcs]; exact hds
            have ht : tLine (0 :: 24 :: q) = tDet q := rfl
            have h1 : 1 < (saysX s b).kids.length := by omega
            have h1i : (1 : Int) < (saysX s b).kids.length := by omega
            have hx : (⟨(saysX s b).kids[1], 2, a, b⟩ : Ln) = detX s a b := by unfold detX; simp [List.getD, List.getElem?_eq_getElem h1]
            clear hM hcs hds
            repeat' (first | (with_reducible refine T.sq fun K hK => ?_) | ((first | ((with_reducible refine T.reg hE ?hd ?_); (case hd => kernel_rfl)) | ((with_reducible refine T.any hE mixed ?hd ?hok ?_); (case hd => kernel_rfl); (case hok => kernel_rfl))); simp [*]; (repeat' (split; all_goals (rename_i hc; try simp [*])))) | ((with_reducible refine T.ret ?_); (refine fin_mem (by simp [*]) ?_ ?_)) | (with_reducible refine T.block ?_) | ((with_reducible refine T.skip ?_); simp [*]) | ((with_reducible refine T.exit ?_); simp [*]) | ((with_reducible refine T.br fun K1 K2 hK1 hK2 => ?_); simp [*]; try ((refine Br.intro (fun hc => ?_) (fun hc => ?_)) <;> (try simp at hc))) | (with_reducible refine Cont.go (by assumption) _ ?_) | (with_reducible refine Cnt.go (by assumption) ?_))
            · intro id hid
              by_cases e1 : id = i
              · subst e1; simp [hq]
              · have hm : M id ≠ none := by rwa [upd_ne _ _ e1] at hid
                simp [e1, not_own hMq hm]
            · intro u hu; simpa using hu
          · obtain ⟨e1, e2, e3⟩ := line_bad (t := tDet q) (x := detX s a b) (K := K0) c
            rw [e1, e2, e3]
            unfold encMkr at *
            repeat' (first | (with_reducible refine T.sq fun K hK => ?_) | ((first | ((with_reducible refine T.reg hE ?hd ?_); (case hd => kernel_rfl)) | ((with_reducible refine T.any hE mixed ?hd ?hok ?_); (case hd => kernel_rfl); (case hok => kernel_rfl))); simp [*]; (repeat' (split; all_goals (rename_i hc; try simp [*])))) | ((with_reducible refine T.ret ?_); (refine fin_mem (by simp [*]) ?_ ?_)) | (with_reducible refine T.block ?_) | ((with_reducible refine T.skip ?_); simp [*]) | ((with_reducible refine T.exit ?_); simp [*]) | ((with_reducible refine T.br fun K1 K2 hK1 hK2 => ?_); simp [*]; try ((refine Br.intro (fun hc => ?_) (fun hc => ?_)) <;> (try simp at hc))) | (with_reducible refine Cont.go (by assumption) _ ?_) | (with_reducible refine Cnt.go (by assumption) ?_))
            · intro id hid
              by_cases e1 : id = i
              · subst e1; simp [hM]
              · have hm : M id ≠ none := by rwa [upd_ne _ _ e1] at hid
                simp [e1]
            · intro u; simp
        · cases h
      · cases h
    · cases h
  · cases h

/-! ### a implies a -/
theorem line_zero {t : Path} {x : Ln} {s : Mkr} (h : (lineF t x s).bad = 0) : lineOk x s := by
  by_cases c : lineOk x s
  · exact c
  · exfalso
    unfold lineF at h
    split at h
    · omega
    · split at h
      · simp at h
      · split at h
        · rename_i hc; exact hc h
        · exact c ⟨by omega, by omega, by omega⟩
theorem lineN_pos (x : Ln) (s : Mkr) : 1 ≤ lineN x s := by
  unfold lineN
  split <;> omega
/-- What the last line says. -/
theorem says_last {t : Path} {x : Ln} {s : Mkr} (h : (lineF t x s).bad = 0) : saysX (lineF t x s) (lineN x s) = x.says := by
  have c := line_zero h
  rw [lineF_ok c]
  unfold lineN saysX
  rw [if_pos c]
  have : ((s.l.length : Int) + 1 - 1).toNat = s.l.length := by omega
  simp [this]
theorem det_ok {t : Path} {x : Ln} {s : Mkr} (h : 2 ≤ x.says.kids.length) : okDet (lineF t x s) (lineN x s) := ⟨lineN_pos x s, fun h0 => by rw [says_last h0]; exact h⟩
structure Sk where
  s : Mkr
  K : Toks
def stpL (t : Path) (x : Ln) (y : Sk) : Sk := ⟨lineF t x y.s, lineK t x y.s y.K⟩
def okSk (y : Sk) : Prop := okMkr y.K y.s
theorem okSk_stp {t : Path} {x : Ln} {y : Sk} (h : okSk y) : okSk (stpL t x y) := okMkr_line h
/-- The states of the proof that a implies a. -/
def self1 (q : Path) (a : Ex) (y : Sk) : Sk := stpL (tOne (0 :: 17 :: q)) (oneX a (impX a a)) y
def self2 (q : Path) (a : Ex) (y : Sk) : Sk := stpL (tTwo (0 :: 22 :: q)) (twoX a (impX a a) a) (self1 q a y)
def selfI (q : Path) (a : Ex) (y : Sk) : Int := lineN (oneX a (impX a a)) y.s
def selfJ (q : Path) (a : Ex) (y : Sk) : Int := lineN (twoX a (impX a a) a) (self1 q a y).s
def selfD (q : Path) (a : Ex) (y : Sk) : Ln := detX (self2 q a y).s (selfI q a y) (selfJ q a y)
def self3 (q : Path) (a : Ex) (y : Sk) : Sk := stpL (tDet (0 :: 26 :: q)) (selfD q a y) (self2 q a y)
def selfK (q : Path) (a : Ex) (y : Sk) : Int := lineN (selfD q a y) (self2 q a y).s
def self4 (q : Path) (a : Ex) (y : Sk) : Sk := stpL (tOne (0 :: 31 :: q)) (oneX a a) (self3 q a y)
def selfM (q : Path) (a : Ex) (y : Sk) : Int := lineN (oneX a a) (self3 q a y).s
def selfE (q : Path) (a : Ex) (y : Sk) : Ln := detX (self4 q a y).s (selfM q a y) (selfK q a y)
def self5 (q : Path) (a : Ex) (y : Sk) : Sk := stpL (tDet (0 :: 33 :: q)) (selfE q a y) (self4 q a y)
def selfN (q : Path) (a : Ex) (y : Sk) : Int := lineN (selfE q a y) (self4 q a y).s

theorem says_prev {t t' : Path} {x x' : Ln} {s : Mkr} (h : (lineF t' x' (lineF t x s)).bad = 0) : saysX (lineF t' x' (lineF t x s)) (lineN x s) = x.says := by
  have c' := line_zero h
  rw [lineF_ok c']
  have h1 : (lineF t x s).bad = 0 := c'.1
  have c := line_zero h1
  rw [lineF_ok c]
  unfold lineN saysX
  rw [if_pos c]
  have : ((s.l.length : Int) + 1 - 1).toNat = s.l.length := by omega
  simp only [this]
  rw [if_neg (by simp only [List.length_append, List.length_cons, List.length_nil]; omega)]
  simp
theorem line_bad0 {t : Path} {x : Ln} {s : Mkr} (h : (lineF t x s).bad = 0) : s.bad = 0 := (line_zero h).1
theorem selfD_says {q : Path} {a : Ex} {y : Sk} (h : (self2 q a y).s.bad = 0) : (selfD q a y).says = impX (impX a (impX a a)) (impX a a) := by
  show (saysX (self2 q a y).s (selfJ q a y)).kids.getD 1 ex0 = _
  have : saysX (self2 q a y).s (selfJ q a y) = (twoX a (impX a a) a).says := says_last h
  rw [this]; rfl
theorem self_det (q : Path) (a : Ex) (y : Sk) : okDet (self2 q a y).s (selfJ q a y) := det_ok (by simp [twoX, impX])
theorem self_det2 (q : Path) (a : Ex) (y : Sk) : okDet (self4 q a y).s (selfK q a y) := by
  refine ⟨lineN_pos _ _, fun h => ?_⟩
  have h3 : (self3 q a y).s.bad = 0 := line_bad0 h
  have h2 : (self2 q a y).s.bad = 0 := line_bad0 h3
  have : saysX (self4 q a y).s (selfK q a y) = (selfD q a y).says := says_prev h
  rw [this, selfD_says h2]
  simp [impX]
noncomputable def mSelf : Path → List V → Mem → Toks → Option (V × Mem × Toks) := fun q args M K => match args with
  | [.ptr i 0, ev] => match M i, dec ev with
    | some (.cells cs), some a => match decMkr cs with
      | some s => if okMkr K s then some (.int .i64 (selfN q a ⟨s, K⟩), upd M i (some (.cells (encMkr (self5 q a ⟨s, K⟩).s))), (self5 q a ⟨s, K⟩).K) else none
      | none => none
    | _, _ => none
  | _ => none
@[simp] theorem mSelf_ap (q i : Path) (ev : V) (M : Mem) (K : Toks) : mSelf q [.ptr i 0, ev] M K = match M i, dec ev with
    | some (.cells cs), some a => match decMkr cs with
      | some s => if okMkr K s then some (.int .i64 (selfN q a ⟨s, K⟩), upd M i (some (.cells (encMkr (self5 q a ⟨s, K⟩).s))), (self5 q a ⟨s, K⟩).K) else none
      | none => none
    | _, _ => none := rfl
set_option maxHeartbeats 2000000 in
theorem ok_self : MemOk Try.prog 8 mSelf := by
  intro q args M K0 z M' K' h
  unfold mSelf at h
  split at h
  · rename_i i ev
    split at h
    · rename_i cs a hM he
      obtain rfl := dec_inv he
      split at h
      · rename_i s hs
        obtain rfl := decMkr_inv hs
        split at h
        · rename_i hok
          simp only [Option.some.injEq, Prod.mk.injEq] at h
          obtain ⟨rfl, rfl, rfl⟩ := h
          refine ⟨⟨Try.f8, Try.func8, by decide, rfl⟩, add_fresh hM, ?_⟩
          have hE := (((((EnvOk.nil (P := Try.prog) (eq := fun _ => false) (own := fun _ => false) (mem := fun f => f == 19 || f == 20 || f == 21) EqOk.none).addf ok_dImp).addm ok_one).addm ok_two).addm ok_detach)
          refine ctr_of_T Try.func8 rfl (by simp [Try.ntmps8]) fun hMq hKq => ?_
          have hq := not_own hMq (id := i) (by rw [hM]; simp)
          have hq2 : ∀ c d, ¬ c :: d :: q = i := fun c d e => hq c d e.symm
          have o0 : okSk ⟨s, K0⟩ := hok
          have o1 : okSk (self1 q a ⟨s, K0⟩) := okSk_stp o0
          have o2 : okSk (self2 q a ⟨s, K0⟩) := okSk_stp o1
          have o3 : okSk (self3 q a ⟨s, K0⟩) := okSk_stp o2
          have o4 : okSk (self4 q a ⟨s, K0⟩) := okSk_stp o3
          have e1s : lineF (tOne (0 :: 17 :: q)) (oneX a (impX a a)) s = (self1 q a ⟨s, K0⟩).s := rfl
          have e1k : lineK (tOne (0 :: 17 :: q)) (oneX a (impX a a)) s K0 = (self1 q a ⟨s, K0⟩).K := rfl
          have e1n : lineN (oneX a (impX a a)) s = selfI q a ⟨s, K0⟩ := rfl
          have e2s : lineF (tTwo (0 :: 22 :: q)) (twoX a (impX a a) a) (self1 q a ⟨s, K0⟩).s = (self2 q a ⟨s, K0⟩).s := rfl
          have e2k : lineK (tTwo (0 :: 22 :: q)) (twoX a (impX a a) a) (self1 q a ⟨s, K0⟩).s (self1 q a ⟨s, K0⟩).K = (self2 q a ⟨s, K0⟩).K := rfl
          have e2n : lineN (twoX a (impX a a) a) (self1 q a ⟨s, K0⟩).s = selfJ q a ⟨s, K0⟩ := rfl
          have ed : detX (self2 q a ⟨s, K0⟩).s (selfI q a ⟨s, K0⟩) (selfJ q a ⟨s, K0⟩) = selfD q a ⟨s, K0⟩ := rfl
          have e3s : lineF (tDet (0 :: 26 :: q)) (selfD q a ⟨s, K0⟩) (self2 q a ⟨s, K0⟩).s = (self3 q a ⟨s, K0⟩).s := rfl
          have e3k : lineK (tDet (0 :: 26 :: q)) (selfD q a ⟨s, K0⟩) (self2 q a ⟨s, K0⟩).s (self2 q a ⟨s, K0⟩).K = (self3 q a ⟨s, K0⟩).K := rfl
          have e3n : lineN (selfD q a ⟨s, K0⟩) (self2 q a ⟨s, K0⟩).s = selfK q a ⟨s, K0⟩ := rfl
          have e4s : lineF (tOne (0 :: 31 :: q)) (oneX a a) (self3 q a ⟨s, K0⟩).s = (self4 q a ⟨s, K0⟩).s := rfl
          have e4k : lineK (tOne (0 :: 31 :: q)) (oneX a a) (self3 q a ⟨s, K0⟩).s (self3 q a ⟨s, K0⟩).K = (self4 q a ⟨s, K0⟩).K := rfl
          have e4n : lineN (oneX a a) (self3 q a ⟨s, K0⟩).s = selfM q a ⟨s, K0⟩ := rfl
          have ee : detX (self4 q a ⟨s, K0⟩).s (selfM q a ⟨s, K0⟩) (selfK q a ⟨s, K0⟩) = selfE q a ⟨s, K0⟩ := rfl
          have e5s : lineF (tDet (0 :: 33 :: q)) (selfE q a ⟨s, K0⟩) (self4 q a ⟨s, K0⟩).s = (self5 q a ⟨s, K0⟩).s := rfl
          have e5k : lineK (tDet (0 :: 33 :: q)) (selfE q a ⟨s, K0⟩) (self4 q a ⟨s, K0⟩).s (self4 q a ⟨s, K0⟩).K = (self5 q a ⟨s, K0⟩).K := rfl
          have e5n : lineN (selfE q a ⟨s, K0⟩) (self4 q a ⟨s, K0⟩).s = selfN q a ⟨s, K0⟩ := rfl
          have d1 := self_det q a ⟨s, K0⟩
          have d2 := self_det2 q a ⟨s, K0⟩
          unfold okSk at o1 o2 o3 o4
          have r0 := decMkr_row hok
          have r1 := decMkr_row o1
          have r2 := decMkr_row o2
          have r3 := decMkr_row o3
          have r4 := decMkr_row o4
          clear o0
          generalize self5 q a ⟨s, K0⟩ = y5 at *
          generalize self4 q a ⟨s, K0⟩ = y4 at *
          generalize self3 q a ⟨s, K0⟩ = y3 at *
          generalize self2 q a ⟨s, K0⟩ = y2 at *
          generalize self1 q a ⟨s, K0⟩ = y1 at *
          generalize selfI q a ⟨s, K0⟩ = nI at *
          generalize selfJ q a ⟨s, K0⟩ = nJ at *
          generalize selfK q a ⟨s, K0⟩ = nK at *
          generalize selfM q a ⟨s, K0⟩ = nM at *
          generalize selfN q a ⟨s, K0⟩ = nN at *
          generalize selfD q a ⟨s, K0⟩ = xD at *
          generalize selfE q a ⟨s, K0⟩ = xE at *
          repeat' (first | (with_reducible refine T.sq fun K hK => ?_) | ((first | ((with_reducible refine T.reg hE ?hd ?_); (case hd => kernel_rfl)) | ((with_reducible refine T.any hE mixed ?hd ?hok ?_); (case hd => kernel_rfl); (case hok => kernel_rfl))); simp [*]; (repeat' (split; all_goals (rename_i hc; try simp [*])))) | ((with_reducible refine T.ret ?_); (refine fin_mem (by simp [*]) ?_ ?_)) | (with_reducible refine T.block ?_) | ((with_reducible refine T.skip ?_); simp [*]) | ((with_reducible refine T.exit ?_); simp [*]) | ((with_reducible refine T.br fun K1 K2 hK1 hK2 => ?_); simp [*]; try ((refine Br.intro (fun hc => ?_) (fun hc => ?_)) <;> (try simp at hc))) | (with_reducible refine Cont.go (by assumption) _ ?_) | (with_reducible refine Cnt.go (by assumption) ?_))
          · intro id hid
            by_cases e1 : id = i
            · subst e1; simp [hq]
            · have hm : M id ≠ none := by rwa [upd_ne _ _ e1] at hid
              simp [e1, not_own hMq hm]
          · intro u; simp
        · cases h
      · cases h
    · cases h
  · cases h

/-! ### Lines that are made, without their memory -/
def addL (x : Ln) (p : List Ln × Int) : List Ln × Int := if p.2 ≠ 0 then p else if 4000 ≤ p.1.length then (p.1, 2) else if rightE x.says ≠ 0 then (p.1, rightE x.says) else (p.1 ++ [x], 0)
def okL (x : Ln) (p : List Ln × Int) : Prop := p.2 = 0 ∧ p.1.length < 4000 ∧ rightE x.says = 0
instance (x : Ln) (p : List Ln × Int) : Decidable (okL x p) := by unfold okL; infer_instance
def numL (x : Ln) (p : List Ln × Int) : Int := if okL x p then (p.1.length : Int) + 1 else 1
def saysP (p : List Ln × Int) (n : Int) : Ex := if (p.1.length : Int) < n then ex0 else ((p.1[(n - 1).toNat]?).map Ln.says).getD ex0
def detP (p : List Ln × Int) (i j : Int) : Ln := ⟨(saysP p j).kids.getD 1 ex0, 2, i, j⟩
def pk (s : Mkr) : List Ln × Int := (s.l, s.bad)
theorem pk_line (t : Path) (x : Ln) (s : Mkr) : pk (lineF t x s) = addL x (pk s) := by
  unfold pk lineF addL
  simp only
  repeat' split
  all_goals rfl
theorem pk_num (x : Ln) (s : Mkr) : lineN x s = numL x (pk s) := rfl
theorem pk_det (s : Mkr) (i j : Int) : detX s i j = detP (pk s) i j := rfl
def selfP (a : Ex) (p : List Ln × Int) : (List Ln × Int) × Int :=
  let p1 := addL (oneX a (impX a a)) p
  let i := numL (oneX a (impX a a)) p
  let p2 := addL (twoX a (impX a a) a) p1
  let j := numL (twoX a (impX a a) a) p1
  let p3 := addL (detP p2 i j) p2
  let k := numL (detP p2 i j) p2
  let p4 := addL (oneX a a) p3
  let m := numL (oneX a a) p3
  (addL (detP p4 m k) p4, numL (detP p4 m k) p4)
theorem pk_self (q : Path) (a : Ex) (y : Sk) : pk (self5 q a y).s = (selfP a (pk y.s)).1 ∧ selfN q a y = (selfP a (pk y.s)).2 := by
  simp only [selfP, self5, self4, self3, self2, self1, selfN, selfE, selfM, selfK, selfD, selfJ, selfI, stpL, pk_line, pk_num, pk_det, and_self]
/-- What is answered of lines that were made. -/
def ansV (p : List Ln × Int) : V := .tup [.sl (rLn.encL (if p.2 ≠ 0 then [] else p.1)) .no, .int .i64 p.2]
theorem ansV_bad {p : List Ln × Int} (h : p.2 ≠ 0) : ansV p = .tup [.sl [] .no, .int .i64 p.2] := by unfold ansV; rw [if_pos h]; rfl
theorem ansV_ok {p : List Ln × Int} (h : p.2 = 0) : ansV p = .tup [.sl (rLn.encL p.1) .no, .int .i64 0] := by unfold ansV; rw [if_neg (by omega), h]
noncomputable def mDone : Path → List V → Mem → Toks → Option (V × Mem × Toks) := fun q args M K => match args with
  | [.ptr i 0] => match M i with
    | some (.cells cs) => match decMkr cs with
      | some s => if okMkr K s then some (ansV (pk s), M, K) else none
      | none => none
    | _ => none
  | _ => none
@[simp] theorem mDone_ap (q i : Path) (M : Mem) (K : Toks) : mDone q [.ptr i 0] M K = match M i with
    | some (.cells cs) => match decMkr cs with
      | some s => if okMkr K s then some (ansV (pk s), M, K) else none
      | none => none
    | _ => none := rfl
set_option maxHeartbeats 1000000 in
theorem ok_done : MemOk Try.prog 9 mDone := by
  intro q args M K0 z M' K' h
  unfold mDone at h
  split at h
  · rename_i i
    split at h
    · rename_i cs hM
      split at h
      · rename_i s hs
        obtain rfl := decMkr_inv hs
        split at h
        · rename_i hok
          simp only [Option.some.injEq, Prod.mk.injEq] at h
          obtain ⟨rfl, rfl, rfl⟩ := h
          refine ⟨⟨Try.f9, Try.func9, by decide, rfl⟩, fun id _ h => h, ?_⟩
          have hE := (EnvOk.nil (P := Try.prog) (eq := fun _ => false) (own := fun _ => false) (mem := fun _ => false) EqOk.none)
          refine ctr_of_T Try.func9 rfl (by simp [Try.ntmps9]) fun hMq hKq => ?_
          have hq := not_own hMq (id := i) (by rw [hM]; simp)
          obtain ⟨l, bad, tk⟩ := s
          unfold encMkr at hM
          simp only at hM
          by_cases c : bad = 0
          · have ha := ansV_ok (p := pk ⟨l, bad, tk⟩) c
            rw [ha]
            clear ha
            simp only [pk]
            subst c
            cases tk with
            | none =>
              cases l with
              | cons => cases hok.1
              | nil =>
                simp only [rowV] at hM
                repeat' (first | (with_reducible refine T.sq fun K hK => ?_) | ((first | ((with_reducible refine T.reg hE ?hd ?_); (case hd => kernel_rfl)) | ((with_reducible refine T.any hE mixed ?hd ?hok ?_); (case hd => kernel_rfl); (case hok => kernel_rfl))); simp [*]; (repeat' (split; all_goals (rename_i hc; try simp [*])))) | ((with_reducible refine T.ret ?_); (refine fin_mem (by simp [*]) ?_ ?_)) | (with_reducible refine T.block ?_) | ((with_reducible refine T.skip ?_); simp [*]) | ((with_reducible refine T.exit ?_); simp [*]) | ((with_reducible refine T.br fun K1 K2 hK1 hK2 => ?_); simp [*]; try ((refine Br.intro (fun hc => ?_) (fun hc => ?_)) <;> (try simp at hc))) | (with_reducible refine Cont.go (by assumption) _ ?_) | (with_reducible refine Cnt.go (by assumption) ?_))
                all_goals (intro u; simp)
            | some t =>
              simp only [rowV] at hM
              repeat' (first | (with_reducible refine T.sq fun K hK => ?_) | ((first | ((with_reducible refine T.reg hE ?hd ?_); (case hd => kernel_rfl)) | ((with_reducible refine T.any hE mixed ?hd ?hok ?_); (case hd => kernel_rfl); (case hok => kernel_rfl))); simp [*]; (repeat' (split; all_goals (rename_i hc; try simp [*])))) | ((with_reducible refine T.ret ?_); (refine fin_mem (by simp [*]) ?_ ?_)) | (with_reducible refine T.block ?_) | ((with_reducible refine T.skip ?_); simp [*]) | ((with_reducible refine T.exit ?_); simp [*]) | ((with_reducible refine T.br fun K1 K2 hK1 hK2 => ?_); simp [*]; try ((refine Br.intro (fun hc => ?_) (fun hc => ?_)) <;> (try simp at hc))) | (with_reducible refine Cont.go (by assumption) _ ?_) | (with_reducible refine Cnt.go (by assumption) ?_))
              all_goals (intro u; simp)
          · have ha := ansV_bad (p := pk ⟨l, bad, tk⟩) c
            rw [ha]
            clear ha
            simp only [pk]
            repeat' (first | (with_reducible refine T.sq fun K hK => ?_) | ((first | ((with_reducible refine T.reg hE ?hd ?_); (case hd => kernel_rfl)) | ((with_reducible refine T.any hE mixed ?hd ?hok ?_); (case hd => kernel_rfl); (case hok => kernel_rfl))); simp [*]; (repeat' (split; all_goals (rename_i hc; try simp [*])))) | ((with_reducible refine T.ret ?_); (refine fin_mem (by simp [*]) ?_ ?_)) | (with_reducible refine T.block ?_) | ((with_reducible refine T.skip ?_); simp [*]) | ((with_reducible refine T.exit ?_); simp [*]) | ((with_reducible refine T.br fun K1 K2 hK1 hK2 => ?_); simp [*]; try ((refine Br.intro (fun hc => ?_) (fun hc => ?_)) <;> (try simp at hc))) | (with_reducible refine Cont.go (by assumption) _ ?_) | (with_reducible refine Cnt.go (by assumption) ?_))
            all_goals (intro u; simp)
        · cases h
      · cases h
    · cases h
  · cases h

/-! ### What is its own plain form -/
def plE (e : Ex) : Int := if rightE e ≠ 0 then rightE e else if isT e then 40 else if ordE (unfE e) e = 0 then 0 else 11
theorem plE_wantF (e : Ex) : plE e = if wantF e ≠ 0 then wantF e else if ordE (unfE e) e = 0 then 0 else 11 := by
  unfold plE wantF
  by_cases h : rightE e = 0
  · simp only [h, ne_eq, not_true_eq_false, if_false]
    by_cases t : isT e = true
    · simp [t]
    · simp [t]
  · simp [h]
@[simp] def gDPlain : List V → Option V := f1 kE fun e => some (.int .i64 (plE e))
theorem ok_dPlain : PureOk Try.prog 7 gDPlain := by
  intro args r h
  obtain ⟨e, rfl, ⟨⟩⟩ := f1_inv h
  clear h
  have hE := (((((EnvOk.nil (P := Try.prog) (eq := fun _ => false) (own := fun _ => false) (mem := fun _ => false) EqOk.none).addf ok_Right).addf ok_IsTerm).addf ok_Plain).addf ok_Same)
  refine ⟨⟨Try.f7, Try.func7, by decide, rfl⟩, pure_of_T Try.func7 rfl (by simp [Try.ntmps7]) fun q => ?_⟩
  by_cases v : rightE e = 0
  · by_cases u : isT e = true
    · have hp : plE e = 40 := by unfold plE; rw [if_neg (by omega), if_pos u]
      repeat' (first | (with_reducible refine T.sq fun K hK => ?_) | ((first | ((with_reducible refine T.reg hE ?hd ?_); (case hd => kernel_rfl)) | ((with_reducible refine T.any hE mixed ?hd ?hok ?_); (case hd => kernel_rfl); (case hok => kernel_rfl))); simp [*]; (repeat' (split; all_goals (rename_i hc; try simp [*])))) | ((with_reducible refine T.ret ?_); refine fin_pure ?_; simp [*]; try (change Hold _)) | (with_reducible refine T.block ?_) | ((with_reducible refine T.skip ?_); simp [*]) | ((with_reducible refine T.exit ?_); simp [*]) | ((with_reducible refine T.br fun K1 K2 hK1 hK2 => ?_); simp [*]; try ((refine Br.intro (fun hc => ?_) (fun hc => ?_)) <;> (try simp at hc))) | (with_reducible refine Cont.go (by assumption) _ ?_) | (with_reducible refine Cnt.go (by assumption) ?_))
    · have u' : isT e = false := by simpa using u
      by_cases w : ordE (unfE e) e = 0
      · have hp : plE e = 0 := by unfold plE; rw [if_neg (by omega), if_neg u, if_pos w]
        have he : unfE e = e := ord_eq _ _ w
        have h1 : plainErr e = 0 := by unfold plainErr; rw [if_neg (by omega), he, v]
        have h2 : plainX e = e := by unfold plainX; rw [if_pos h1, he]
        rw [he] at w
        clear he
        repeat' (first | (with_reducible refine T.sq fun K hK => ?_) | ((first | ((with_reducible refine T.reg hE ?hd ?_); (case hd => kernel_rfl)) | ((with_reducible refine T.any hE mixed ?hd ?hok ?_); (case hd => kernel_rfl); (case hok => kernel_rfl))); simp [*]; (repeat' (split; all_goals (rename_i hc; try simp [*])))) | ((with_reducible refine T.ret ?_); refine fin_pure ?_; simp [*]; try (change Hold _)) | (with_reducible refine T.block ?_) | ((with_reducible refine T.skip ?_); simp [*]) | ((with_reducible refine T.exit ?_); simp [*]) | ((with_reducible refine T.br fun K1 K2 hK1 hK2 => ?_); simp [*]; try ((refine Br.intro (fun hc => ?_) (fun hc => ?_)) <;> (try simp at hc))) | (with_reducible refine Cont.go (by assumption) _ ?_) | (with_reducible refine Cnt.go (by assumption) ?_))
      · have hp : plE e = 11 := by unfold plE; rw [if_neg (by omega), if_neg u, if_neg w]
        by_cases x : plainErr e = 0
        · have h2 : plainX e = unfE e := by unfold plainX; rw [if_pos x]
          repeat' (first | (with_reducible refine T.sq fun K hK => ?_) | ((first | ((with_reducible refine T.reg hE ?hd ?_); (case hd => kernel_rfl)) | ((with_reducible refine T.any hE mixed ?hd ?hok ?_); (case hd => kernel_rfl); (case hok => kernel_rfl))); simp [*]; (repeat' (split; all_goals (rename_i hc; try simp [*])))) | ((with_reducible refine T.ret ?_); refine fin_pure ?_; simp [*]; try (change Hold _)) | (with_reducible refine T.block ?_) | ((with_reducible refine T.skip ?_); simp [*]) | ((with_reducible refine T.exit ?_); simp [*]) | ((with_reducible refine T.br fun K1 K2 hK1 hK2 => ?_); simp [*]; try ((refine Br.intro (fun hc => ?_) (fun hc => ?_)) <;> (try simp at hc))) | (with_reducible refine Cont.go (by assumption) _ ?_) | (with_reducible refine Cnt.go (by assumption) ?_))
        · repeat' (first | (with_reducible refine T.sq fun K hK => ?_) | ((first | ((with_reducible refine T.reg hE ?hd ?_); (case hd => kernel_rfl)) | ((with_reducible refine T.any hE mixed ?hd ?hok ?_); (case hd => kernel_rfl); (case hok => kernel_rfl))); simp [*]; (repeat' (split; all_goals (rename_i hc; try simp [*])))) | ((with_reducible refine T.ret ?_); refine fin_pure ?_; simp [*]; try (change Hold _)) | (with_reducible refine T.block ?_) | ((with_reducible refine T.skip ?_); simp [*]) | ((with_reducible refine T.exit ?_); simp [*]) | ((with_reducible refine T.br fun K1 K2 hK1 hK2 => ?_); simp [*]; try ((refine Br.intro (fun hc => ?_) (fun hc => ?_)) <;> (try simp at hc))) | (with_reducible refine Cont.go (by assumption) _ ?_) | (with_reducible refine Cnt.go (by assumption) ?_))
  · have hp : plE e = rightE e := by unfold plE; rw [if_pos v]
    repeat' (first | (with_reducible refine T.sq fun K hK => ?_) | ((first | ((with_reducible refine T.reg hE ?hd ?_); (case hd => kernel_rfl)) | ((with_reducible refine T.any hE mixed ?hd ?hok ?_); (case hd => kernel_rfl); (case hok => kernel_rfl))); simp [*]; (repeat' (split; all_goals (rename_i hc; try simp [*])))) | ((with_reducible refine T.ret ?_); refine fin_pure ?_; simp [*]; try (change Hold _)) | (with_reducible refine T.block ?_) | ((with_reducible refine T.skip ?_); simp [*]) | ((with_reducible refine T.exit ?_); simp [*]) | ((with_reducible refine T.br fun K1 K2 hK1 hK2 => ?_); simp [*]; try ((refine Br.intro (fun hc => ?_) (fun hc => ?_)) <;> (try simp at hc))) | (with_reducible refine Cont.go (by assumption) _ ?_) | (with_reducible refine Cnt.go (by assumption) ?_))

/-! ### Self -/
def mk0 : Mkr := ⟨[], 0, none⟩
def selfV (e : Ex) : V := if plE e ≠ 0 then ansV ([], plE e) else ansV (selfP e ([], 0)).1
@[simp] def gSelf : List V → Option V := f1 kE fun e => some (selfV e)
set_option maxHeartbeats 1000000 in
theorem ok_Self : PureOk Try.prog 4 gSelf := by
  intro args r h
  obtain ⟨e, rfl, ⟨⟩⟩ := f1_inv h
  clear h
  have hE := ((((EnvOk.nil (P := Try.prog) (eq := fun _ => false) (own := fun _ => false) (mem := fun f => f == 8 || f == 9) EqOk.none).addf ok_dPlain).addm ok_self).addm ok_done)
  refine ⟨⟨Try.f4, Try.func4, by decide, rfl⟩, pure_of_T Try.func4 rfl (by simp [Try.ntmps4]) fun q => ?_⟩
  by_cases v : plE e = 0
  · have hv : selfV e = ansV (selfP e ([], 0)).1 := by unfold selfV; rw [if_neg (by omega)]
    have hd : decMkr [.nils, .int .i64 0] = some mk0 := rfl
    have h0 : okMkr noK mk0 := ⟨rfl, by simp [mk0]⟩
    have o5 : okSk (self5 (0 :: 17 :: q) e ⟨mk0, noK⟩) := okSk_stp (okSk_stp (okSk_stp (okSk_stp (okSk_stp h0))))
    have o5' : okMkr (self5 (0 :: 17 :: q) e ⟨mk0, noK⟩).K (self5 (0 :: 17 :: q) e ⟨mk0, noK⟩).s := o5
    have hpk := (pk_self (0 :: 17 :: q) e ⟨mk0, noK⟩).1
    have hm : pk mk0 = ([], 0) := rfl
    simp only [hm] at hpk
    have r5 := decMkr_row o5'
    have ha : ansV (selfP e ([], 0)).1 = .tup [.sl (rLn.encL (if (selfP e ([], 0)).1.2 ≠ 0 then [] else (selfP e ([], 0)).1.1)) .no, .int .i64 (selfP e ([], 0)).1.2] := rfl
    rw [ha] at hv
    clear o5
    generalize (selfP e ([], 0)).1 = p at *
    generalize rLn.encL (if p.2 ≠ 0 then [] else p.1) = els at *
    repeat' (first | (with_reducible refine T.sq fun K hK => ?_) | ((first | ((with_reducible refine T.reg hE ?hd ?_); (case hd => kernel_rfl)) | ((with_reducible refine T.any hE mixed ?hd ?hok ?_); (case hd => kernel_rfl); (case hok => kernel_rfl))); simp [*]; (repeat' (split; all_goals (rename_i hc; try simp [*])))) | ((with_reducible refine T.ret ?_); refine fin_pure ?_; simp [*]; try (change Hold _)) | (with_reducible refine T.block ?_) | ((with_reducible refine T.skip ?_); simp [*]) | ((with_reducible refine T.exit ?_); simp [*]) | ((with_reducible refine T.br fun K1 K2 hK1 hK2 => ?_); simp [*]; try ((refine Br.intro (fun hc => ?_) (fun hc => ?_)) <;> (try simp at hc))) | (with_reducible refine Cont.go (by assumption) _ ?_) | (with_reducible refine Cnt.go (by assumption) ?_))
  · have hv : selfV e = .tup [.sl [] .no, .int .i64 (plE e)] := by unfold selfV; rw [if_pos v, ansV_bad v]
    repeat' (first | (with_reducible refine T.sq fun K hK => ?_) | ((first | ((with_reducible refine T.reg hE ?hd ?_); (case hd => kernel_rfl)) | ((with_reducible refine T.any hE mixed ?hd ?hok ?_); (case hd => kernel_rfl); (case hok => kernel_rfl))); simp [*]; (repeat' (split; all_goals (rename_i hc; try simp [*])))) | ((with_reducible refine T.ret ?_); refine fin_pure ?_; simp [*]; try (change Hold _)) | (with_reducible refine T.block ?_) | ((with_reducible refine T.skip ?_); simp [*]) | ((with_reducible refine T.exit ?_); simp [*]) | ((with_reducible refine T.br fun K1 K2 hK1 hK2 => ?_); simp [*]; try ((refine Br.intro (fun hc => ?_) (fun hc => ?_)) <;> (try simp at hc))) | (with_reducible refine Cont.go (by assumption) _ ?_) | (with_reducible refine Cnt.go (by assumption) ?_))
end Go.Proofs.Ytmamhpbblicaeaa.Ax
