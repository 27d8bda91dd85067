/- Contracts: terms in the place of variables, by the program. -/
import Derived.Test.YtaacfmakfkaddaaDoorPlL
set_option linter.unusedVariables false
set_option linter.unusedSimpArgs false
namespace Go.Proofs.YtaacfmakfkaddaaDoor.Ax
open Go Go.Proofs

/-- A slot's value, told less exactly. -/
theorem T.weak {P : Program} {ro : Option Nat} {N : Nat} {p : Path} {σ : St} {Q : Post} {c : Code} (t : Nat) (ht : t < N) (y : V) (hy : ∀ G v, Rep G v (σ.get t) → Rep G v y) (k : T P ro N p c { σ with get := fun u => if u = t then y else σ.get u } Q) : T P ro N p c σ Q := fun ds G a w hR =>
  k ds G a w ⟨hR.n, fun u v hv => by
    by_cases e : u = t
    · subst e; simp only [if_true]; exact hy G v (hR.tm u v hv)
    · simp only [if_neg e]; exact hR.tm u v hv, fun u hu => by
    have : ¬ u = t := by omega
    simp only [if_neg this]; exact hR.rng u hu, hR.df, hR.sim, hR.fr, hR.hid⟩
/-- Expressions in the cells of an array. -/
def encXs (l : List Ex) : List V := l.flatMap encC
def decXs : List V → Option (List Ex)
  | [] => some []
  | a :: b :: c :: r => (decC [a, b, c]).bind fun e => (decXs r).map (e :: ·)
  | _ => none
theorem encXs_cons (e : Ex) (l : List Ex) : encXs (e :: l) = .int .i64 e.k :: .int .i64 e.i :: .sl (encL e.kids) .no :: encXs l := by
  unfold encXs
  rw [List.flatMap_cons, encC_eq]; rfl
theorem encXs_len (l : List Ex) : (encXs l).length = l.length * 3 := by
  induction l with
  | nil => rfl
  | cons e l ih => rw [encXs_cons]; simp [ih]; omega
theorem decXs_inv : ∀ (cs : List V) (l : List Ex), decXs cs = some l → cs = encXs l
  | [], l, h => by simp [decXs] at h; subst h; rfl
  | [a], l, h => by simp [decXs] at h
  | [a, b], l, h => by simp [decXs] at h
  | a :: b :: c :: r, l, h => by
    rw [decXs] at h
    obtain ⟨e, he, h⟩ := Option.bind_eq_some_iff.1 h
    obtain ⟨m, hm, rfl⟩ := Option.map_eq_some_iff.1 h
    have h1 := decC_inv _ _ he
    rw [encC_eq] at h1
    simp only [List.cons.injEq, and_true] at h1
    obtain ⟨rfl, rfl, rfl⟩ := h1
    rw [encXs_cons, decXs_inv r m hm]
@[simp] theorem decXs_encXs (l : List Ex) : decXs (encXs l) = some l := by
  induction l with
  | nil => rfl
  | cons e l ih => rw [encXs_cons, decXs, ih]; simp
theorem xs_get : ∀ (l : List Ex) (m : Nat) (h : m < l.length), ((encXs l).drop (m * 3)).take 3 = [.int .i64 l[m].k, .int .i64 l[m].i, .sl (encL l[m].kids) .no]
  | e :: l, 0, h => by rw [encXs_cons]; simp
  | e :: l, m + 1, h => by
    rw [encXs_cons, show (m + 1) * 3 = m * 3 + 3 by omega]
    simpa using xs_get l m (by simpa using h)
@[simp] theorem encXs_er (l : List Ex) : (encXs l).map V.er = encXs l := by
  induction l with
  | nil => rfl
  | cons e l ih => rw [encXs_cons]; simp [ih, V.er]
def kT : Kd (Int × List Ex) := ⟨fun x => .cptr (.int .u64 x.1 :: encXs x.2) 0, fun v => match v with | .cptr (.int .u64 s :: r) 0 => (decXs r).map (s, ·) | _ => none, fun v a h => by
  split at h
  · obtain ⟨l, hl, rfl⟩ := Option.map_eq_some_iff.1 h
    rw [decXs_inv _ _ hl]
  · cases h⟩
@[simp] theorem kT_enc (x : Int × List Ex) : kT.enc x = .cptr (.int .u64 x.1 :: encXs x.2) 0 := rfl
@[simp] theorem kT_dec (s : Int) (r : List V) : kT.dec (.cptr (.int .u64 s :: r) 0) = (decXs r).map (s, ·) := rfl
/-- What stands for a variable: of the set, but what is bound. -/
def tbF (s : Nat) (l : List Ex) (b : Nat) : Int → Option Ex := fun y => if hasB (ndiff s b) y = true then some (l.getD y.toNat ex0) else none
theorem tb_with {s b : Nat} {l : List Ex} {i : Int} (hs : s < 18446744073709551616) (hb : b < 18446744073709551616) (hi : 0 ≤ i ∧ i ≤ 63) : tbF s l (withN b i) = drF (tbF s l b) i := by
  funext y
  unfold tbF drF
  have h1 : hasB (ndiff s (withN b i)) y = (hasB (ndiff s b) y && !decide (y = i)) := by
    rw [ndiff_dif hs (withN_lt hb), ndiff_dif hs hb, hasB_dif, hasB_dif]
    unfold withN
    rw [if_pos (by omega), hasB_or, hasB_one hi]
    have : (i = y) = (y = i) := propext ⟨fun h => h.symm, fun h => h.symm⟩
    simp only [this]
    cases hasB s y <;> cases hasB b y <;> rfl
  rw [h1]
  by_cases e : y = i
  · simp [e]
  · simp [e]
theorem tb_qu {s b : Nat} {l : List Ex} {k i : Int} (hs : s < 18446744073709551616) (hb : b < 18446744073709551616) (hi : (k = 7 ∨ k = 10) → 0 ≤ i ∧ i ≤ 63) : quF k i (tbF s l b) = tbF s l (if k = 7 ∨ k = 10 then withN b i else b) := by
  unfold quF
  split
  · rename_i h; rw [tb_with hs hb (hi h)]
  · rfl

/-! ### How many nodes there would be -/
mutual
def cuE (s : Nat) (l : List Ex) (b : Nat) : Ex → Nat → Nat
  | .mk k i m, n => if k = 1 ∧ hasB (ndiff s b) i = true then n + min (cntE (l.getD i.toNat ex0)) 1001 else cuL s l (if k = 7 ∨ k = 10 then withN b i else b) m (n + 1)
def cuL (s : Nat) (l : List Ex) (b : Nat) : List Ex → Nat → Nat
  | [], n => n
  | e :: m, n => if 1000 < n then n else cuL s l b m (cuE s l b e n)
end
theorem cuE_eq (s : Nat) (l : List Ex) (b : Nat) (e : Ex) (n : Nat) : cuE s l b e n = if e.k = 1 ∧ hasB (ndiff s b) e.i = true then n + min (cntE (l.getD e.i.toNat ex0)) 1001 else cuL s l (if e.k = 7 ∨ e.k = 10 then withN b e.i else b) e.kids (n + 1) := by cases e; rw [cuE]; rfl
theorem cuL_stop (s : Nat) (l : List Ex) (b : Nat) : ∀ (m : List Ex) (n : Nat), 1000 < n → cuL s l b m n = n
  | [], n, _ => by rw [cuL]
  | e :: m, n, h => by rw [cuL, if_pos h]
theorem cuL_drop (s : Nat) (l : List Ex) (b : Nat) (m : List Ex) (j : Nat) (h : j < m.length) (n : Nat) (hn : n ≤ 1000) : cuL s l b (m.drop j) n = cuL s l b (m.drop (j + 1)) (cuE s l b m[j] n) := by
  rw [List.drop_eq_getElem_cons h, cuL, if_neg (by omega)]
mutual
theorem cuE_le (s : Nat) (l : List Ex) (b : Nat) : ∀ (e : Ex) (n : Nat), n ≤ 1000 → n ≤ cuE s l b e n ∧ cuE s l b e n ≤ 2001
  | .mk k i m, n, h => by
    rw [cuE]
    split
    · omega
    · by_cases h1 : n + 1 ≤ 1000
      · have := cuL_le s l (if k = 7 ∨ k = 10 then withN b i else b) m (n + 1) h1; omega
      · rw [cuL_stop _ _ _ _ _ (by omega)]; omega
theorem cuL_le (s : Nat) (l : List Ex) (b : Nat) : ∀ (m : List Ex) (n : Nat), n ≤ 1000 → n ≤ cuL s l b m n ∧ cuL s l b m n ≤ 2001
  | [], n, h => by rw [cuL]; omega
  | e :: m, n, h => by
    rw [cuL, if_neg (by omega)]
    have h1 := cuE_le s l b e n h
    by_cases h2 : cuE s l b e n ≤ 1000
    · have := cuL_le s l b m _ h2; omega
    · rw [cuL_stop _ _ _ _ _ (by omega)]; omega
end
mutual
theorem cu_cnt {s : Nat} {l : List Ex} (hs : s < 18446744073709551616) : ∀ (e : Ex) (b n : Nat), allX e = true → b < 18446744073709551616 → n ≤ 1000 →
    (n + cntE (psF (tbF s l b) e) ≤ 1000 → cuE s l b e n = n + cntE (psF (tbF s l b) e)) ∧ (1000 < n + cntE (psF (tbF s l b) e) → 1000 < cuE s l b e n)
  | .mk k i m, b, n, ha, hb, hn => by
    rw [cuE, psF]
    by_cases hk : k = 1
    · rw [if_pos hk]
      have hl : m = [] := kids_none ha hk
      subst hl
      by_cases hh : hasB (ndiff s b) i = true
      · have hf : tbF s l b i = some (l.getD i.toNat ex0) := by unfold tbF; rw [if_pos hh]
        rw [if_pos ⟨hk, hh⟩, hf]
        simp only [Option.getD_some]
        omega
      · have hf : tbF s l b i = none := by unfold tbF; rw [if_neg hh]
        rw [if_neg (fun h => hh h.2), hf, cuL]
        have h1 : cntE (.mk k i []) = 1 := by rw [cntE, cntL]
        simp only [Option.getD_none]
        rw [h1]; omega
    · rw [if_neg hk, if_neg (fun h => hk h.1), tb_qu hs hb (bin_in ha), cntE]
      have hb' : (if k = 7 ∨ k = 10 then withN b i else b) < 18446744073709551616 := by
        split
        · exact withN_lt hb
        · exact hb
      by_cases h1 : n + 1 ≤ 1000
      · have := cu_cntL (s := s) (l := l) hs m _ (n + 1) (kidsX ha) hb' h1
        omega
      · rw [cuL_stop _ _ _ _ _ (by omega)]; omega
theorem cu_cntL {s : Nat} {l : List Ex} (hs : s < 18446744073709551616) : ∀ (m : List Ex) (b n : Nat), (∀ e ∈ m, allX e = true) → b < 18446744073709551616 → n ≤ 1000 →
    (n + cntL (psL (tbF s l b) m) ≤ 1000 → cuL s l b m n = n + cntL (psL (tbF s l b) m)) ∧ (1000 < n + cntL (psL (tbF s l b) m) → 1000 < cuL s l b m n)
  | [], b, n, _, _, hn => by rw [cuL, psL, cntL]; omega
  | e :: m, b, n, ha, hb, hn => by
    rw [cuL, psL, cntL, if_neg (by omega)]
    have h1 := cu_cnt (s := s) (l := l) hs e b n (ha e (by simp)) hb hn
    by_cases h2 : cuE s l b e n ≤ 1000
    · have h3 := cu_cntL (s := s) (l := l) hs m b _ (fun x hx => ha x (by simp [hx])) hb h2
      omega
    · rw [cuL_stop _ _ _ _ _ (by omega)]; omega
end
theorem ok_wWith : PureOk Tryd.prog 69 gWith := by
  intro args r h
  obtain ⟨s, n, rfl, hr⟩ := f2_inv h; clear h
  split at hr
  · rename_i hs
    cases hr
    obtain ⟨s, rfl, hb⟩ := u64_of hs
    simp only [Int.toNat_natCast] at *
    have hE := ((EnvOk.nil (P := Tryd.prog) (eq := fun _ => false) (own := fun _ => false) (mem := fun _ => false) EqOk.none).addf ok_wBit)
    refine ⟨⟨Tryd.f69, Tryd.func69, by decide, rfl⟩, pure_of_T Tryd.func69 rfl (by simp [Tryd.ntmps69]) fun q => ?_⟩
    by_cases c : 0 ≤ n ∧ n < 64
    · have hv : bitV n = .tup [.int .u64 (pw n.toNat : Nat), .bool true] := by unfold bitV; rw [if_pos c]
      have hh : Hold (withN s n = s ||| pw n.toNat) := by unfold Hold withN; rw [if_pos c]
      have ha := bits_or (k := .u64) rfl (a := s) (b := pw n.toNat) (by simpa [IntKind.bits] using hb) (by simpa [IntKind.bits] using pw_lt (n := n.toNat) (by omega))
      clear c
      repeat' (first | (with_reducible refine T.sq fun K hK => ?_) | ((first | ((with_reducible refine T.reg hE ?hd ?_); (case hd => kernel_rfl)) | ((with_reducible refine T.any hE mixed ?hd ?hok ?_); (case hd => kernel_rfl); (case hok => kernel_rfl))); simp [*]; (repeat' (split; all_goals (rename_i hc; try simp [*])))) | ((with_reducible refine T.ret ?_); refine fin_pure ?_; simp [*]; try (change Hold _)) | (with_reducible refine T.block ?_) | ((with_reducible refine T.skip ?_); simp [*]) | ((with_reducible refine T.exit ?_); simp [*]) | ((with_reducible refine T.br fun K1 K2 hK1 hK2 => ?_); simp [*]; try ((refine Br.intro (fun hc => ?_) (fun hc => ?_)) <;> (try simp at hc))) | (with_reducible refine Cont.go (by assumption) _ ?_) | (with_reducible refine Cnt.go (by assumption) ?_))
      all_goals (unfold Hold at *; rw [hh])
    · have hv : bitV n = .tup [.int .u64 0, .bool false] := by unfold bitV; rw [if_neg c]
      have hh : Hold (withN s n = s) := by unfold Hold withN; rw [if_neg c]
      have ha := bits_or (k := .u64) rfl (a := s) (b := 0) (by simpa [IntKind.bits] using hb) (by simp [IntKind.bits])
      rw [show ((0 : Nat) : Int) = 0 from rfl, Nat.or_zero] at ha
      clear c
      repeat' (first | (with_reducible refine T.sq fun K hK => ?_) | ((first | ((with_reducible refine T.reg hE ?hd ?_); (case hd => kernel_rfl)) | ((with_reducible refine T.any hE mixed ?hd ?hok ?_); (case hd => kernel_rfl); (case hok => kernel_rfl))); simp [*]; (repeat' (split; all_goals (rename_i hc; try simp [*])))) | ((with_reducible refine T.ret ?_); refine fin_pure ?_; simp [*]; try (change Hold _)) | (with_reducible refine T.block ?_) | ((with_reducible refine T.skip ?_); simp [*]) | ((with_reducible refine T.exit ?_); simp [*]) | ((with_reducible refine T.br fun K1 K2 hK1 hK2 => ?_); simp [*]; try ((refine Br.intro (fun hc => ?_) (fun hc => ?_)) <;> (try simp at hc))) | (with_reducible refine Cont.go (by assumption) _ ?_) | (with_reducible refine Cnt.go (by assumption) ?_))
      all_goals (unfold Hold at *; rw [hh])
  · cases hr
def okCu (e : Ex) (s : Int) (l : List Ex) (b n : Int) : Prop := allX e = true ∧ isU64 s ∧ l.length = 64 ∧ isU64 b ∧ 0 ≤ n ∧ n ≤ 1000
noncomputable instance (e : Ex) (s : Int) (l : List Ex) (b n : Int) : Decidable (okCu e s l b n) := Classical.propDecidable _
@[simp] noncomputable def gCount : List V → Option V := f4 kE kT (kI .u64) (kI .i64) fun e t b n => if okCu e t.1 t.2 b n then some (.int .i64 (cuE t.1.toNat t.2 b.toNat e n.toNat : Nat)) else none
set_option maxHeartbeats 2000000 in
theorem ok_count : PureOk Tryd.prog 82 gCount := by
  refine rec4 fun e ih t b n r hr => ?_
  split at hr
  · rename_i hm
    obtain ⟨s, l⟩ := t
    obtain ⟨ha, hs0, hl, hb0, n0, n1⟩ := hm
    cases hr
    obtain ⟨s, rfl, hs⟩ := u64_of hs0
    obtain ⟨b, rfl, hb⟩ := u64_of hb0
    obtain ⟨n, rfl⟩ := Int.eq_ofNat_of_zero_le n0
    simp only [Int.toNat_natCast] at *
    have hE := ((((((EnvOk.nil (P := Tryd.prog) (eq := fun _ => false) (own := fun _ => false) (mem := fun _ => false) EqOk.none).addf ok_sBinds).addf ok_wHas).addf ok_wWith).addf ok_Size).addf ih)
    refine ⟨⟨Tryd.f82, Tryd.func82, by decide, rfl⟩, pure_of_T Tryd.func82 rfl (by simp [Tryd.ntmps82]) fun q => ?_⟩
    have hce := cuE_eq s l b e n
    have hnd : bits .andNot .u64 ((s : Nat) : Int) ((b : Nat) : Int) = ((ndiff s b : Nat) : Int) := bits_andNot hs hb
    have hul := u64_nat (n := ndiff s b) (by rw [ndiff_dif hs hb]; exact dif_lt64 hs)
    by_cases c1 : e.k = 1
    · have hv := shaped_var ha (.inl c1)
      obtain ⟨m, hm⟩ := Int.eq_ofNat_of_zero_le hv.1
      have hm64 : m < 64 := by omega
      have hmi : (m : Int) < 64 := by omega
      by_cases c2 : hasB (ndiff s b) (m : Int) = true
      · have hml : m < l.length := by omega
        have hxs : ((V.int .u64 (s : Nat) :: encXs l).drop (1 + m * 3)).take 3 = [.int .i64 l[m].k, .int .i64 l[m].i, .sl (encL l[m].kids) .no] := by
          rw [Nat.add_comm, List.drop_succ_cons]; exact xs_get l m hml
        have h190 : 1 + m * 3 ≤ 190 := by omega
        have hlen : (encXs l).length = 192 := by rw [encXs_len, hl]
        have hgd : l.getD m ex0 = l[m] := by simp [List.getD_eq_getElem?_getD, hml]
        have he2 : Hold (cuE s l b e n = n + min (nodesN l[m]) 1001) := by
          unfold Hold
          rw [hce, if_pos ⟨c1, by rw [hm]; exact c2⟩, hm, Int.toNat_natCast, hgd, nodesN_eq]
        clear hce
        repeat' (first | (with_reducible refine T.sq fun K hK => ?_) | ((first | ((with_reducible refine T.reg hE ?hd ?_); (case hd => kernel_rfl)) | ((with_reducible refine T.any hE mixed ?hd ?hok ?_); (case hd => kernel_rfl); (case hok => kernel_rfl))); simp [*]; (repeat' (split; all_goals (rename_i hc; try simp [*])))) | ((with_reducible refine T.ret ?_); refine fin_pure ?_; simp [*]; try (change Hold _)) | (with_reducible refine T.block ?_) | ((with_reducible refine T.skip ?_); simp [*]) | ((with_reducible refine T.exit ?_); simp [*]) | ((with_reducible refine T.br fun K1 K2 hK1 hK2 => ?_); simp [*]; try ((refine Br.intro (fun hc => ?_) (fun hc => ?_)) <;> (try simp at hc))) | (with_reducible refine Cont.go (by assumption) _ ?_) | (with_reducible refine Cnt.go (by assumption) ?_))
        all_goals (unfold Hold at *; rw [he2]; try (rw [wrap64 (by omega) (by omega)]; omega))
      · have he2 : Hold (cuE s l b e n = cuL s l b e.kids (n + 1)) := by
          unfold Hold
          rw [hce, if_neg (fun h => c2 (by rw [← hm]; exact h.2)), if_neg (by omega)]
        have hk : e.kids = [] := by cases e with | mk k i m => exact kids_none ha c1
        obtain ⟨N1, hN1⟩ : ∃ N1 : Nat, N1 = n + 1 := ⟨_, rfl⟩
        have he3 : Hold (cuE s l b e n = N1) := by unfold Hold at *; rw [he2, hk, cuL, hN1]
        have hq : isQ (.mk 1 (m : Int) []) = false := rfl
        have hw1 : IntKind.i64.wrap ((n : Int) + 1) = (N1 : Int) := by rw [wrap64 (by omega) (by omega)]; omega
        have hN2 : N1 ≤ 1001 := by omega
        clear hN1
        rw [Bool.not_eq_true] at c2
        clear hce he2
        repeat' (first | (with_reducible refine T.sq fun K hK => ?_) | ((first | ((with_reducible refine T.reg hE ?hd ?_); (case hd => kernel_rfl)) | ((with_reducible refine T.any hE mixed ?hd ?hok ?_); (case hd => kernel_rfl); (case hok => kernel_rfl))); simp [*]; (repeat' (split; all_goals (rename_i hc; try simp [*])))) | ((with_reducible refine T.ret ?_); refine fin_pure ?_; simp [*]; try (change Hold _)) | (with_reducible refine T.block ?_) | ((with_reducible refine T.skip ?_); simp [*]) | ((with_reducible refine T.exit ?_); simp [*]) | ((with_reducible refine T.br fun K1 K2 hK1 hK2 => ?_); simp [*]; try ((refine Br.intro (fun hc => ?_) (fun hc => ?_)) <;> (try simp at hc))) | (with_reducible refine Cont.go (by assumption) _ ?_) | (with_reducible refine Cnt.go (by assumption) ?_))
        refine T.loop (fun z σ => σ.get 45 = .int .i64 0 ∧ σ.get 46 = .int .i64 0 ∧ σ.get 3 = .int .i64 (N1 : Int)) 0 (by simp [*]) ?_
        rintro z σ ⟨g1, g2, g3⟩
        repeat' (first | (with_reducible refine T.sq fun K hK => ?_) | ((first | ((with_reducible refine T.reg hE ?hd ?_); (case hd => kernel_rfl)) | ((with_reducible refine T.any hE mixed ?hd ?hok ?_); (case hd => kernel_rfl); (case hok => kernel_rfl))); simp [*]; (repeat' (split; all_goals (rename_i hc; try simp [*])))) | ((with_reducible refine T.ret ?_); refine fin_pure ?_; simp [*]; try (change Hold _)) | (with_reducible refine T.block ?_) | ((with_reducible refine T.skip ?_); simp [*]) | ((with_reducible refine T.exit ?_); simp [*]) | ((with_reducible refine T.br fun K1 K2 hK1 hK2 => ?_); simp [*]; try ((refine Br.intro (fun hc => ?_) (fun hc => ?_)) <;> (try simp at hc))) | (with_reducible refine Cont.go (by assumption) _ ?_) | (with_reducible refine Cnt.go (by assumption) ?_))
        all_goals (unfold Hold at *; rw [he3])
    obtain ⟨B, hB⟩ : ∃ B, B = (if e.k = 7 ∨ e.k = 10 then withN b e.i else b) := ⟨_, rfl⟩
    obtain ⟨N1, hN1⟩ : ∃ N1 : Nat, N1 = n + 1 := ⟨_, rfl⟩
    have he2 : Hold (cuE s l b e n = cuL s l B e.kids N1) := by
      unfold Hold
      rw [hce, if_neg (fun h => c1 h.1), hB, hN1]
    have hBl : B < 18446744073709551616 := by
      rw [hB]; split
      · exact withN_lt hb
      · exact hb
    have hw1 : IntKind.i64.wrap ((n : Int) + 1) = (N1 : Int) := by rw [wrap64 (by omega) (by omega)]; omega
    have hN2 : N1 ≤ 1001 := by omega
    clear hN1
    clear hce
    refine T.sq fun K hK => ?_
    obtain ⟨hgo⟩ := hK
    repeat' (first | (with_reducible refine T.sq fun K hK => ?_) | ((first | ((with_reducible refine T.reg hE ?hd ?_); (case hd => kernel_rfl)) | ((with_reducible refine T.any hE mixed ?hd ?hok ?_); (case hd => kernel_rfl); (case hok => kernel_rfl))); simp [*]; (repeat' (split; all_goals (rename_i hc; try simp [*])))) | ((with_reducible refine T.ret ?_); refine fin_pure ?_; simp [*]; try (change Hold _)) | (with_reducible refine T.block ?_) | ((with_reducible refine T.skip ?_); simp [*]) | ((with_reducible refine T.exit ?_); simp [*]) | ((with_reducible refine T.br fun K1 K2 hK1 hK2 => ?_); simp [*]; try ((refine Br.intro (fun hc => ?_) (fun hc => ?_)) <;> (try simp at hc))) | (with_reducible refine Cont.go (by assumption) _ ?_) | (with_reducible refine Cnt.go (by assumption) ?_))
    refine hgo _ ?_
    clear hgo
    refine T.sq fun K hK => ?_
    obtain ⟨hgo⟩ := hK
    repeat' (first | (with_reducible refine T.sq fun K hK => ?_) | ((first | ((with_reducible refine T.reg hE ?hd ?_); (case hd => kernel_rfl)) | ((with_reducible refine T.any hE mixed ?hd ?hok ?_); (case hd => kernel_rfl); (case hok => kernel_rfl))); simp [*]; (repeat' (split; all_goals (rename_i hc; try simp [*])))) | ((with_reducible refine T.ret ?_); refine fin_pure ?_; simp [*]; try (change Hold _)) | (with_reducible refine T.block ?_) | ((with_reducible refine T.skip ?_); simp [*]) | ((with_reducible refine T.exit ?_); simp [*]) | ((with_reducible refine T.br fun K1 K2 hK1 hK2 => ?_); simp [*]; try ((refine Br.intro (fun hc => ?_) (fun hc => ?_)) <;> (try simp at hc))) | (with_reducible refine Cont.go (by assumption) _ ?_) | (with_reducible refine Cnt.go (by assumption) ?_))
    refine hgo _ ?_
    clear hgo
    refine T.sq fun K hK => ?_
    obtain ⟨hgo⟩ := hK
    repeat' (first | (with_reducible refine T.sq fun K hK => ?_) | ((first | ((with_reducible refine T.reg hE ?hd ?_); (case hd => kernel_rfl)) | ((with_reducible refine T.any hE mixed ?hd ?hok ?_); (case hd => kernel_rfl); (case hok => kernel_rfl))); simp [*]; (repeat' (split; all_goals (rename_i hc; try simp [*])))) | ((with_reducible refine T.ret ?_); refine fin_pure ?_; simp [*]; try (change Hold _)) | (with_reducible refine T.block ?_) | ((with_reducible refine T.skip ?_); simp [*]) | ((with_reducible refine T.exit ?_); simp [*]) | ((with_reducible refine T.br fun K1 K2 hK1 hK2 => ?_); simp [*]; try ((refine Br.intro (fun hc => ?_) (fun hc => ?_)) <;> (try simp at hc))) | (with_reducible refine Cont.go (by assumption) _ ?_) | (with_reducible refine Cnt.go (by assumption) ?_))
    refine hgo _ ?_
    clear hgo
    refine T.sq fun K2 hK2 => ?_
    obtain ⟨h2⟩ := hK2
    suffices j2 : ∀ σ : St, (σ.get 1 = .cptr (.int .u64 (s : Nat) :: encXs l) 0 ∧ σ.get 2 = .int .u64 (B : Nat) ∧ σ.get 3 = .int .i64 (N1 : Int) ∧ σ.get 4 = .ptr (0 :: 6 :: q) 0 ∧ σ.M (0 :: 6 :: q) = some (.cells (encC e))) → K2 σ by
      clear h2
      by_cases c4 : isQ e = true
      · have c4' : e.k = 7 ∨ e.k = 10 := by simpa [isQ] using c4
        rw [if_pos c4'] at hB
        rw [hB] at j2
        clear he2 c4' hB
        repeat' (first | (with_reducible refine T.sq fun K hK => ?_) | ((first | ((with_reducible refine T.reg hE ?hd ?_); (case hd => kernel_rfl)) | ((with_reducible refine T.any hE mixed ?hd ?hok ?_); (case hd => kernel_rfl); (case hok => kernel_rfl))); simp [*]; (repeat' (split; all_goals (rename_i hc; try simp [*])))) | ((with_reducible refine T.ret ?_); refine fin_pure ?_; simp [*]; try (change Hold _)) | (with_reducible refine T.block ?_) | ((with_reducible refine T.skip ?_); simp [*]) | ((with_reducible refine T.exit ?_); simp [*]) | ((with_reducible refine T.br fun K1 K2 hK1 hK2 => ?_); simp [*]; try ((refine Br.intro (fun hc => ?_) (fun hc => ?_)) <;> (try simp at hc))) | (with_reducible refine Cont.go (by assumption) _ ?_) | (with_reducible refine Cnt.go (by assumption) ?_))
        all_goals (refine j2 _ ⟨?_, ?_, ?_, ?_, ?_⟩ <;> simp [*, encC_eq])
      · have c4' : ¬ (e.k = 7 ∨ e.k = 10) := by simpa [isQ] using c4
        rw [if_neg c4'] at hB
        rw [hB] at j2
        rw [Bool.not_eq_true] at c4
        clear he2 c4' hB
        repeat' (first | (with_reducible refine T.sq fun K hK => ?_) | ((first | ((with_reducible refine T.reg hE ?hd ?_); (case hd => kernel_rfl)) | ((with_reducible refine T.any hE mixed ?hd ?hok ?_); (case hd => kernel_rfl); (case hok => kernel_rfl))); simp [*]; (repeat' (split; all_goals (rename_i hc; try simp [*])))) | ((with_reducible refine T.ret ?_); refine fin_pure ?_; simp [*]; try (change Hold _)) | (with_reducible refine T.block ?_) | ((with_reducible refine T.skip ?_); simp [*]) | ((with_reducible refine T.exit ?_); simp [*]) | ((with_reducible refine T.br fun K1 K2 hK1 hK2 => ?_); simp [*]; try ((refine Br.intro (fun hc => ?_) (fun hc => ?_)) <;> (try simp at hc))) | (with_reducible refine Cont.go (by assumption) _ ?_) | (with_reducible refine Cnt.go (by assumption) ?_))
        all_goals (refine j2 _ ⟨?_, ?_, ?_, ?_, ?_⟩ <;> simp [*, encC_eq])
    rintro σ ⟨b1, b2, b3, b4, b5⟩
    refine h2 σ ?_
    clear h2 hB
    rw [encC_eq] at b5
    have hk4 := kids_four ha
    repeat' (first | (with_reducible refine T.sq fun K hK => ?_) | ((first | ((with_reducible refine T.reg hE ?hd ?_); (case hd => kernel_rfl)) | ((with_reducible refine T.any hE mixed ?hd ?hok ?_); (case hd => kernel_rfl); (case hok => kernel_rfl))); simp [*]; (repeat' (split; all_goals (rename_i hc; try simp [*])))) | ((with_reducible refine T.ret ?_); refine fin_pure ?_; simp [*]; try (change Hold _)) | (with_reducible refine T.block ?_) | ((with_reducible refine T.skip ?_); simp [*]) | ((with_reducible refine T.exit ?_); simp [*]) | ((with_reducible refine T.br fun K1 K2 hK1 hK2 => ?_); simp [*]; try ((refine Br.intro (fun hc => ?_) (fun hc => ?_)) <;> (try simp at hc))) | (with_reducible refine Cont.go (by assumption) _ ?_) | (with_reducible refine Cnt.go (by assumption) ?_))
    refine T.loop (fun z σ => ∃ (j m : Nat), z = e.kids.length - j ∧ σ.get 1 = .cptr (.int .u64 (s : Nat) :: encXs l) 0 ∧ σ.get 2 = .int .u64 (B : Nat) ∧ σ.get 3 = .int .i64 (m : Nat) ∧ σ.get 44 = .sl (encL e.kids) .no ∧ σ.get 45 = .int .i64 e.kids.length ∧ σ.get 46 = .int .i64 j ∧ j ≤ e.kids.length ∧ m ≤ 2001 ∧ Hold (cuE s l b e n = cuL s l B (e.kids.drop j) m)) e.kids.length ⟨0, N1, by simp, by simp [*], by simp [*], by simp [*], by simp [*], by simp [*], by simp [*], by omega, by omega, he2⟩ ?_
    clear b1 b2 b3 b4 b5
    rintro z σ ⟨j, m, rfl, g1, g2, g3, g4, g5, g6, g7, g8, g9⟩
    by_cases hj : j < e.kids.length
    · have hw : IntKind.i64.wrap ((j : Int) + 1) = (j : Int) + 1 := wrap64 (by omega) (by omega)
      by_cases c5 : 1000 < m
      · have c5i : (1000 : Int) < (m : Int) := by omega
        have he3 : Hold (cuE s l b e n = m) := by unfold Hold at *; rw [g9, cuL_stop _ _ _ _ _ c5]
        clear g9
        repeat' (first | (with_reducible refine T.sq fun K hK => ?_) | ((first | ((with_reducible refine T.reg hE ?hd ?_); (case hd => kernel_rfl)) | ((with_reducible refine T.any hE mixed ?hd ?hok ?_); (case hd => kernel_rfl); (case hok => kernel_rfl))); simp [*]; (repeat' (split; all_goals (rename_i hc; try simp [*])))) | ((with_reducible refine T.ret ?_); refine fin_pure ?_; simp [*]; try (change Hold _)) | (with_reducible refine T.block ?_) | ((with_reducible refine T.skip ?_); simp [*]) | ((with_reducible refine T.exit ?_); simp [*]) | ((with_reducible refine T.br fun K1 K2 hK1 hK2 => ?_); simp [*]; try ((refine Br.intro (fun hc => ?_) (fun hc => ?_)) <;> (try simp at hc))) | (with_reducible refine Cont.go (by assumption) _ ?_) | (with_reducible refine Cnt.go (by assumption) ?_))
        all_goals (unfold Hold at *; rw [he3])
      · have c5i : ¬ (1000 : Int) < (m : Int) := by omega
        have hs2 := ex_kid_lt e j hj
        have hd := cuL_drop s l B e.kids j hj m (by omega)
        have hle := cuE_le s l B e.kids[j] m (by omega)
        have hok : okCu e.kids[j] (s : Nat) l (B : Nat) (m : Nat) := ⟨allX_kid ha j hj, hs0, hl, u64_nat hBl, by omega, by omega⟩
        have he3 : Hold (cuE s l b e n = cuL s l B (e.kids.drop (j + 1)) (cuE s l B e.kids[j] m)) := by unfold Hold at *; rw [g9, hd]
        clear g9 hd
        repeat' (first | (with_reducible refine T.sq fun K hK => ?_) | ((first | ((with_reducible refine T.reg hE ?hd ?_); (case hd => kernel_rfl)) | ((with_reducible refine T.any hE mixed ?hd ?hok ?_); (case hd => kernel_rfl); (case hok => kernel_rfl))); simp [*]; (repeat' (split; all_goals (rename_i hc; try simp [*])))) | ((with_reducible refine T.ret ?_); refine fin_pure ?_; simp [*]; try (change Hold _)) | (with_reducible refine T.block ?_) | ((with_reducible refine T.skip ?_); simp [*]) | ((with_reducible refine T.exit ?_); simp [*]) | ((with_reducible refine T.br fun K1 K2 hK1 hK2 => ?_); simp [*]; try ((refine Br.intro (fun hc => ?_) (fun hc => ?_)) <;> (try simp at hc))) | (with_reducible refine Cont.go (by assumption) _ ?_) | (with_reducible refine Cnt.go (by assumption) ?_))
        exact ⟨e.kids.length - (j + 1), by omega, j + 1, rfl, _, rfl, by omega, by omega, by omega, he3⟩
    · have w8 : j = e.kids.length := by omega
      have he3 : Hold (cuE s l b e n = m) := by unfold Hold at *; rw [g9, w8, List.drop_length, cuL]
      clear g9
      repeat' (first | (with_reducible refine T.sq fun K hK => ?_) | ((first | ((with_reducible refine T.reg hE ?hd ?_); (case hd => kernel_rfl)) | ((with_reducible refine T.any hE mixed ?hd ?hok ?_); (case hd => kernel_rfl); (case hok => kernel_rfl))); simp [*]; (repeat' (split; all_goals (rename_i hc; try simp [*])))) | ((with_reducible refine T.ret ?_); refine fin_pure ?_; simp [*]; try (change Hold _)) | (with_reducible refine T.block ?_) | ((with_reducible refine T.skip ?_); simp [*]) | ((with_reducible refine T.exit ?_); simp [*]) | ((with_reducible refine T.br fun K1 K2 hK1 hK2 => ?_); simp [*]; try ((refine Br.intro (fun hc => ?_) (fun hc => ?_)) <;> (try simp at hc))) | (with_reducible refine Cont.go (by assumption) _ ?_) | (with_reducible refine Cnt.go (by assumption) ?_))
      all_goals (unfold Hold at *; rw [he3])
  · cases hr
end Go.Proofs.YtaacfmakfkaddaaDoor.Ax
