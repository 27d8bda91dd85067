/- Contracts: variables gone over. -/
import Derived.Test.YtaacfmakfkaddaaDoorAxY
import Derived.Test.YtaacfmakfkaddaaDoorBxS
import Derived.Test.YtaacfmakfkaddaaDoorBxM
set_option linter.unusedVariables false
set_option linter.unusedSimpArgs false
namespace Go.Proofs.YtaacfmakfkaddaaDoor.Ax
section
open Go Go.Proofs

@[simp] def gBindsF : List V → Option V := f1 kE fun e => some (.bool (isQb e))
theorem ok_fBinds : PureOk Tryd.prog 124 gBindsF := by
  intro args r h
  obtain ⟨e, rfl, ⟨⟩⟩ := f1_inv h
  clear h
  have hE := (EnvOk.nil (P := Tryd.prog) (eq := fun _ => false) (own := fun _ => false) (mem := fun _ => false) EqOk.none)
  refine ⟨⟨Tryd.f124, Tryd.func124, by decide, rfl⟩, pure_of_T Tryd.func124 rfl (by simp [Tryd.ntmps124]) fun q => ?_⟩
  repeat' (first | (with_reducible refine T.sq fun K hK => ?_) | ((first | ((with_reducible refine T.reg hE ?hd ?_); (case hd => kernel_rfl)) | ((with_reducible refine T.any hE mixed ?hd ?hok ?_); (case hd => kernel_rfl); (case hok => kernel_rfl))); simp [*]; (repeat' (split; all_goals (rename_i hc; try simp [*])))) | ((with_reducible refine T.ret ?_); refine fin_pure ?_; simp [*]; try (change Hold _)) | (with_reducible refine T.block ?_) | ((with_reducible refine T.skip ?_); simp [*]) | ((with_reducible refine T.exit ?_); simp [*]) | ((with_reducible refine T.br fun K1 K2 hK1 hK2 => ?_); simp [*]; try ((refine Br.intro (fun hc => ?_) (fun hc => ?_)) <;> (try simp at hc))) | (with_reducible refine Cont.go (by assumption) _ ?_) | (with_reducible refine Cnt.go (by assumption) ?_))
  all_goals (unfold Hold; simp [isQb, *])
def okClo (caps cs : List V) (M : Mem) (ro : List (Path × Box)) (x b s : Int) : Prop := cs = caps ∧ roOk ro M ∧ 0 ≤ x ∧ x ≤ 63 ∧ isU64 b ∧ isU64 s
noncomputable instance (caps cs : List V) (M : Mem) (ro : List (Path × Box)) (x b s : Int) : Decidable (okClo caps cs M ro x b s) := Classical.propDecidable _
/-- A closure that is told a variable and what is bound there: it turns the number in one box. -/
@[simp] noncomputable def mClo (caps : List V) (si : Path) (st : Int → Nat → Nat → Nat) (ro : List (Path × Box)) : Path → List V → Mem → Toks → Option (V × Mem × Toks) := fun _ args M K => match args with
  | .int .i64 x :: .int .u64 b :: cs => match M si with
    | some (.cells [.int .u64 s]) => if okClo caps cs M ro x b s then some (.tup [], upd M si (some (.cells [.int .u64 (st x b.toNat s.toNat : Nat)])), K) else none
    | _ => none
  | _ => none
def okWalk (n : Nat) (fc f : FuncId) (caps cs : List V) (e : Ex) (M : Mem) (ro : List (Path × Box)) (b s : Int) : Prop := SizeOf.sizeOf e < n ∧ f = fc ∧ cs = caps ∧ roOk ro M ∧ allX e = true ∧ isU64 b ∧ isU64 s
noncomputable instance (n : Nat) (fc f : FuncId) (caps cs : List V) (e : Ex) (M : Mem) (ro : List (Path × Box)) (b s : Int) : Decidable (okWalk n fc f caps cs e M ro b s) := Classical.propDecidable _
@[simp] noncomputable def mWalk (n : Nat) (fc : FuncId) (caps : List V) (si : Path) (st : Int → Nat → Nat → Nat) (ro : List (Path × Box)) : Path → List V → Mem → Toks → Option (V × Mem × Toks) := fun _ args M K => match args with
  | [ev, .int .u64 b, .fn f cs] => match dec ev, M si with
    | some e, some (.cells [.int .u64 s]) => if okWalk n fc f caps cs e M ro b s then some (.tup [], upd M si (some (.cells [.int .u64 (runO st (occE e b.toNat) s.toNat : Nat)])), K) else none
    | _, _ => none
  | _ => none
theorem runO_lt {st : Int → Nat → Nat → Nat} (hst : ∀ x b s, 0 ≤ x → x ≤ 63 → b < 18446744073709551616 → s < 18446744073709551616 → st x b s < 18446744073709551616) : ∀ (l : List (Int × Nat)) (s : Nat), (∀ y ∈ l, 0 ≤ y.1 ∧ y.1 ≤ 63 ∧ y.2 < 18446744073709551616) → s < 18446744073709551616 → runO st l s < 18446744073709551616
  | [], s, _, hs => hs
  | y :: l, s, h, hs => runO_lt hst l _ (fun z hz => h z (by simp [hz])) (hst _ _ _ (h y (by simp)).1 (h y (by simp)).2.1 (h y (by simp)).2.2 hs)
mutual
theorem occ_in : ∀ (e : Ex) (b : Nat), allX e = true → b < 18446744073709551616 → ∀ y ∈ occE e b, 0 ≤ y.1 ∧ y.1 ≤ 63 ∧ y.2 < 18446744073709551616
  | .mk k i l, b, ha, hb, y, hy => by
    rw [occE] at hy
    split at hy
    · rename_i hk
      have := shaped_var ha (.inl hk)
      simp at hy; subst hy
      exact ⟨this.1, this.2, hb⟩
    · exact occ_inL l _ (allX_kids ha) (or_lt hb (binP_lt ha)) y hy
theorem occ_inL : ∀ (l : List Ex) (b : Nat), (∀ e ∈ l, allX e = true) → b < 18446744073709551616 → ∀ y ∈ occL l b, 0 ≤ y.1 ∧ y.1 ≤ 63 ∧ y.2 < 18446744073709551616
  | [], b, _, _, y, hy => by simp [occL] at hy
  | e :: l, b, ha, hb, y, hy => by
    rw [occL] at hy
    rcases List.mem_append.1 hy with h | h
    · exact occ_in e b (ha e (by simp)) hb y h
    · exact occ_inL l b (fun x hx => ha x (by simp [hx])) hb y h
end
set_option maxHeartbeats 2000000 in
theorem walk_mem {fc : FuncId} {caps : List V} {si : Path} {st : Int → Nat → Nat → Nat} {ro : List (Path × Box)} (hc : MemOk Tryd.prog fc (mClo caps si st ro))
    (hst : ∀ x b s, 0 ≤ x → x ≤ 63 → b < 18446744073709551616 → s < 18446744073709551616 → st x b s < 18446744073709551616) (hrs : ∀ r ∈ ro, r.1 ≠ si) (hcaps : caps.map V.erase = caps) (n1 : ¬ fc = 121) (n2 : ¬ 124 = fc) :
    ∀ n, MemOk Tryd.prog 121 (mWalk n fc caps si st ro) := by
  intro n
  induction n with
  | zero =>
    intro q args M K0 x M' K' h
    simp only [mWalk] at h
    split at h
    · split at h
      · split at h
        · rename_i hok; exact absurd hok.1 (Nat.not_lt_zero _)
        · cases h
      · cases h
    · cases h
  | succ n ih =>
    intro q args M K0 x M' K' h
    simp only [mWalk] at h
    split at h
    · rename_i ev b f cs
      split at h
      · rename_i e s hde hM
        split at h
        · rename_i hok
          obtain ⟨hsz, rfl, rfl, hro, ha, hb, hs⟩ := hok
          obtain rfl := dec_inv hde
          clear hde
          obtain ⟨b, rfl, hb1⟩ := u64_of hb
          obtain ⟨s, rfl, hs1⟩ := u64_of hs
          simp only [Option.some.injEq, Prod.mk.injEq] at h
          obtain ⟨rfl, rfl, rfl⟩ := h
          refine ⟨⟨Tryd.f121, Tryd.func121, by decide, rfl⟩, fun id hid hn => ?_, ?_⟩
          · have : id ≠ si := fun e => by subst e; rw [hn] at hM; cases hM
            rw [upd_ne _ _ this]; exact hn
          have hE := ((((EnvOk.nil (P := Tryd.prog) (eq := fun _ => false) (own := fun _ => false) (mem := fun g => g == 121 || g == f) EqOk.none).addf ok_fBinds).addm hc).addm ih)
          refine ctr_of_T Tryd.func121 rfl (by simp [Tryd.ntmps121]) fun hMq hKq => ?_
          have hq := not_own hMq (id := si) (by rw [hM]; simp)
          have hro1 : ∀ (M2 : Mem), (∀ id, ¬ q <:+ id → id ≠ si → M2 id = M id) → roOk ro M2 := fun M2 h2 => roOk_eq hro fun r hr => h2 _ (not_own' hMq (by rw [hro r hr]; simp)) (hrs r hr)
          have hup : ∀ (c d : Nat) (B : Option Box) id, ¬ q <:+ id → upd M (c :: d :: q) B id = M id := fun c d B id hid => upd_ne _ _ fun e => hid (by rw [e]; exact own_suf q c d)
          by_cases c1 : e.k = 1
          · have hv := shaped_var ha (.inl c1)
            have hok : ∀ (B : Option Box), okClo cs cs (upd M (0 :: 5 :: q) B) ro e.i b s := fun B => ⟨rfl, hro1 _ fun id h1 _ => hup 0 5 B id h1, hv.1, hv.2, hb, hs⟩
            have ho : occE e b = [(e.i, b)] := by rw [occE_eq, if_pos c1]
            repeat' (first | (with_reducible refine T.sq fun K hK => ?_) | ((first | ((with_reducible refine T.reg hE ?hd ?_); (case hd => kernel_rfl)) | ((with_reducible refine T.any hE mixed ?hd ?hok ?_); (case hd => kernel_rfl); (case hok => kernel_rfl))); simp [*]; (repeat' (split; all_goals (rename_i hc; try simp [*])))) | ((with_reducible refine T.ret ?_); (refine fin_mem (by simp [*]) ?_ ?_)) | (with_reducible refine T.block ?_) | ((with_reducible refine T.skip ?_); simp [*]) | ((with_reducible refine T.exit ?_); simp [*]) | ((with_reducible refine T.br fun K1 K2 hK1 hK2 => ?_); simp [*]; try ((refine Br.intro (fun hc => ?_) (fun hc => ?_)) <;> (try simp at hc))) | (with_reducible refine Cont.go (by assumption) _ ?_) | (with_reducible refine Cnt.go (by assumption) ?_))
            · intro id hid
              by_cases e1 : id = si
              · subst e1; simp [ho, runO]
              · have hm : M id ≠ none := by rwa [upd_ne _ _ e1] at hid
                have hn := not_own hMq hm
                simp [e1, hn]
            · intro u hu; simpa using hu
          have ho : ∀ b2, occE e b2 = occL e.kids (b2 ||| binP e.k e.i) := fun b2 => by rw [occE_eq, if_neg c1]
          have hbn := binP_lt ha
          have hb2 := or_lt hb1 hbn
          have hbu : isU64 ((b ||| binP e.k e.i : Nat) : Int) := ⟨by omega, by omega⟩
          by_cases c2 : isQb e = true
          · have c2' : e.k = 7 ∨ e.k = 10 := by simpa [isQb] using c2
            have hv := shaped_var ha (.inr c2')
            have hp : binP e.k e.i = pw e.i.toNat := by unfold binP; rw [if_pos c2']
            obtain ⟨m, hm⟩ := Int.eq_ofNat_of_zero_le hv.1
            have hs0 : IntKind.u64.wrap e.i = e.i := by rw [hm]; exact wrap64u (by omega)
            have hs2 : IntKind.u64.wrap (2 ^ min e.i.toNat IntKind.u64.bits) = (pw e.i.toNat : Nat) := shl_pw (by omega)
            have hs3 : bits .or .u64 (b : Int) (pw e.i.toNat : Nat) = ((b ||| pw e.i.toNat : Nat) : Int) := bits_or rfl (by simpa [IntKind.bits] using hb1) (by simpa [IntKind.bits] using pw_lt (n := e.i.toNat) (by omega))
            have hv1 := hv.1
            clear hm
            have hx2 : isU64 ((b ||| pw e.i.toNat : Nat) : Int) := hp ▸ hbu
            repeat' (first | (with_reducible refine T.sq fun K hK => ?_) | ((first | ((with_reducible refine T.reg hE ?hd ?_); (case hd => kernel_rfl)) | ((with_reducible refine T.any hE mixed ?hd ?hok ?_); (case hd => kernel_rfl); (case hok => kernel_rfl))); simp [*]; (repeat' (split; all_goals (rename_i hc; try simp [*])))) | ((with_reducible refine T.ret ?_); (refine fin_mem (by simp [*]) ?_ ?_)) | (with_reducible refine T.block ?_) | ((with_reducible refine T.skip ?_); simp [*]) | ((with_reducible refine T.exit ?_); simp [*]) | ((with_reducible refine T.br fun K1 K2 hK1 hK2 => ?_); simp [*]; try ((refine Br.intro (fun hc => ?_) (fun hc => ?_)) <;> (try simp at hc))) | (with_reducible refine Cont.go (by assumption) _ ?_) | (with_reducible refine Cnt.go (by assumption) ?_))
            refine T.len (t := 25) (els := encL e.kids) (tk := .no) (by simp [*]) fun hlen => ?_
            rw [encL_length] at hlen
            refine T.loop (fun n σ => ∃ (j s2 : Nat), n = e.kids.length - j ∧ σ.get 25 = .sl (encL e.kids) .no ∧ σ.get 26 = .int .i64 e.kids.length ∧ σ.get 27 = .int .i64 j ∧ σ.get 1 = .int .u64 (b ||| pw e.i.toNat : Nat) ∧ σ.get 2 = .fn f cs ∧ σ.M si = some (.cells [.int .u64 s2]) ∧ (∀ id, ¬ q <:+ id → id ≠ si → σ.M id = M id) ∧ σ.K = K0 ∧ j ≤ e.kids.length ∧ s2 < 18446744073709551616 ∧ Hold (s2 = runO st (occL (e.kids.take j) (b ||| pw e.i.toNat)) s)) e.kids.length ⟨0, s, by simp, by simp [*], by simp [*], by simp [*], by simp [*], by simp [*], by simp [*], ?_, by simp, by omega, hs1, by simp [Hold, occL, runO]⟩ ?_
            · intro id h1 h2
              have hn : ∀ c d, ¬ id = c :: d :: q := fun c d e => h1 (by rw [e]; exact own_suf q c d)
              simp [hn]
            rintro n' σ ⟨j, s2, rfl, g1, g2, g3, g4, g5, g6, g7, g8, g9, g10, g11⟩
            have hs3' : isU64 (s2 : Int) := ⟨by omega, by omega⟩
            by_cases hj : j < e.kids.length
            · have hw := wrap_succ hlen hj
              have hsk := ex_kid_lt e j hj
              have hak := allX_kid ha j hj
              have hok : ∀ (c d : Nat) (B1 B2 : Option Box), okWalk n f f cs cs e.kids[j] (upd (upd σ.M (c :: d :: q) B1) (c :: d :: q) B2) ro (b ||| pw e.i.toNat : Nat) s2 := fun c d B1 B2 => ⟨by omega, rfl, rfl, hro1 _ fun id h1 h2 => by
                have hn : ¬ id = c :: d :: q := fun e => h1 (by rw [e]; exact own_suf q c d)
                rw [upd_ne _ _ hn, upd_ne _ _ hn]; exact g7 id h1 h2, hak, hx2, hs3'⟩
              have hnext : Hold (runO st (occE e.kids[j] (b ||| pw e.i.toNat)) s2 = runO st (occL (e.kids.take (j + 1)) (b ||| pw e.i.toNat)) s) := by unfold Hold at *; rw [occL_take _ _ _ hj, runO_append, ← g11]
              have hlt := runO_lt hst (occE e.kids[j] (b ||| pw e.i.toNat)) s2 (occ_in _ _ hak (by obtain ⟨h1, h2⟩ := hx2; omega)) g10
              clear g11
              repeat' (first | (with_reducible refine T.sq fun K hK => ?_) | ((first | ((with_reducible refine T.reg hE ?hd ?_); (case hd => kernel_rfl)) | ((with_reducible refine T.any hE mixed ?hd ?hok ?_); (case hd => kernel_rfl); (case hok => kernel_rfl))); simp [*]; (repeat' (split; all_goals (rename_i hc; try simp [*])))) | ((with_reducible refine T.ret ?_); (refine fin_mem (by simp [*]) ?_ ?_)) | (with_reducible refine T.block ?_) | ((with_reducible refine T.skip ?_); simp [*]) | ((with_reducible refine T.exit ?_); simp [*]) | ((with_reducible refine T.br fun K1 K2 hK1 hK2 => ?_); simp [*]; try ((refine Br.intro (fun hc => ?_) (fun hc => ?_)) <;> (try simp at hc))) | (with_reducible refine Cont.go (by assumption) _ ?_) | (with_reducible refine Cnt.go (by assumption) ?_))
              refine ⟨e.kids.length - (j + 1), by omega, j + 1, rfl, by omega, _, rfl, ?_, by omega, hlt, hnext⟩
              intro id h1 h2
              have hn : ∀ c d, ¬ id = c :: d :: q := fun c d e => h1 (by rw [e]; exact own_suf q c d)
              simp [h2, hn, g7 id h1 h2]
            · have w8 : j = e.kids.length := by omega
              have w9 : e.kids.take j = e.kids := by rw [w8, List.take_length]
              rw [w9] at g11
              clear w9
              repeat' (first | (with_reducible refine T.sq fun K hK => ?_) | ((first | ((with_reducible refine T.reg hE ?hd ?_); (case hd => kernel_rfl)) | ((with_reducible refine T.any hE mixed ?hd ?hok ?_); (case hd => kernel_rfl); (case hok => kernel_rfl))); simp [*]; (repeat' (split; all_goals (rename_i hc; try simp [*])))) | ((with_reducible refine T.ret ?_); (refine fin_mem (by simp [*]) ?_ ?_)) | (with_reducible refine T.block ?_) | ((with_reducible refine T.skip ?_); simp [*]) | ((with_reducible refine T.exit ?_); simp [*]) | ((with_reducible refine T.br fun K1 K2 hK1 hK2 => ?_); simp [*]; try ((refine Br.intro (fun hc => ?_) (fun hc => ?_)) <;> (try simp at hc))) | (with_reducible refine Cont.go (by assumption) _ ?_) | (with_reducible refine Cnt.go (by assumption) ?_))
              refine fin_mem' (by simp [*]) ?_ ?_
              · intro id hid
                by_cases e1 : id = si
                · subst e1
                  unfold Hold at g11
                  simp [ho, g6, g11, hp]
                · have hm : M id ≠ none := by rwa [upd_ne _ _ e1] at hid
                  have hn := not_own hMq hm
                  simp [e1, hn, g7 id (not_own' hMq hm) e1]
              · intro u hu; simpa [g8] using hu
          · have hp : binP e.k e.i = 0 := by unfold binP; rw [if_neg (by simpa [isQb] using c2)]
            have hx2 : isU64 ((b : Nat) : Int) := hb
            repeat' (first | (with_reducible refine T.sq fun K hK => ?_) | ((first | ((with_reducible refine T.reg hE ?hd ?_); (case hd => kernel_rfl)) | ((with_reducible refine T.any hE mixed ?hd ?hok ?_); (case hd => kernel_rfl); (case hok => kernel_rfl))); simp [*]; (repeat' (split; all_goals (rename_i hc; try simp [*])))) | ((with_reducible refine T.ret ?_); (refine fin_mem (by simp [*]) ?_ ?_)) | (with_reducible refine T.block ?_) | ((with_reducible refine T.skip ?_); simp [*]) | ((with_reducible refine T.exit ?_); simp [*]) | ((with_reducible refine T.br fun K1 K2 hK1 hK2 => ?_); simp [*]; try ((refine Br.intro (fun hc => ?_) (fun hc => ?_)) <;> (try simp at hc))) | (with_reducible refine Cont.go (by assumption) _ ?_) | (with_reducible refine Cnt.go (by assumption) ?_))
            refine T.len (t := 25) (els := encL e.kids) (tk := .no) (by simp [*]) fun hlen => ?_
            rw [encL_length] at hlen
            refine T.loop (fun n σ => ∃ (j s2 : Nat), n = e.kids.length - j ∧ σ.get 25 = .sl (encL e.kids) .no ∧ σ.get 26 = .int .i64 e.kids.length ∧ σ.get 27 = .int .i64 j ∧ σ.get 1 = .int .u64 (b : Nat) ∧ σ.get 2 = .fn f cs ∧ σ.M si = some (.cells [.int .u64 s2]) ∧ (∀ id, ¬ q <:+ id → id ≠ si → σ.M id = M id) ∧ σ.K = K0 ∧ j ≤ e.kids.length ∧ s2 < 18446744073709551616 ∧ Hold (s2 = runO st (occL (e.kids.take j) (b)) s)) e.kids.length ⟨0, s, by simp, by simp [*], by simp [*], by simp [*], by simp [*], by simp [*], by simp [*], ?_, by simp, by omega, hs1, by simp [Hold, occL, runO]⟩ ?_
            · intro id h1 h2
              have hn : ∀ c d, ¬ id = c :: d :: q := fun c d e => h1 (by rw [e]; exact own_suf q c d)
              simp [hn]
            rintro n' σ ⟨j, s2, rfl, g1, g2, g3, g4, g5, g6, g7, g8, g9, g10, g11⟩
            have hs3' : isU64 (s2 : Int) := ⟨by omega, by omega⟩
            by_cases hj : j < e.kids.length
            · have hw := wrap_succ hlen hj
              have hsk := ex_kid_lt e j hj
              have hak := allX_kid ha j hj
              have hok : ∀ (c d : Nat) (B1 B2 : Option Box), okWalk n f f cs cs e.kids[j] (upd (upd σ.M (c :: d :: q) B1) (c :: d :: q) B2) ro (b : Nat) s2 := fun c d B1 B2 => ⟨by omega, rfl, rfl, hro1 _ fun id h1 h2 => by
                have hn : ¬ id = c :: d :: q := fun e => h1 (by rw [e]; exact own_suf q c d)
                rw [upd_ne _ _ hn, upd_ne _ _ hn]; exact g7 id h1 h2, hak, hx2, hs3'⟩
              have hnext : Hold (runO st (occE e.kids[j] (b)) s2 = runO st (occL (e.kids.take (j + 1)) (b)) s) := by unfold Hold at *; rw [occL_take _ _ _ hj, runO_append, ← g11]
              have hlt := runO_lt hst (occE e.kids[j] (b)) s2 (occ_in _ _ hak (by obtain ⟨h1, h2⟩ := hx2; omega)) g10
              clear g11
              repeat' (first | (with_reducible refine T.sq fun K hK => ?_) | ((first | ((with_reducible refine T.reg hE ?hd ?_); (case hd => kernel_rfl)) | ((with_reducible refine T.any hE mixed ?hd ?hok ?_); (case hd => kernel_rfl); (case hok => kernel_rfl))); simp [*]; (repeat' (split; all_goals (rename_i hc; try simp [*])))) | ((with_reducible refine T.ret ?_); (refine fin_mem (by simp [*]) ?_ ?_)) | (with_reducible refine T.block ?_) | ((with_reducible refine T.skip ?_); simp [*]) | ((with_reducible refine T.exit ?_); simp [*]) | ((with_reducible refine T.br fun K1 K2 hK1 hK2 => ?_); simp [*]; try ((refine Br.intro (fun hc => ?_) (fun hc => ?_)) <;> (try simp at hc))) | (with_reducible refine Cont.go (by assumption) _ ?_) | (with_reducible refine Cnt.go (by assumption) ?_))
              refine ⟨e.kids.length - (j + 1), by omega, j + 1, rfl, by omega, _, rfl, ?_, by omega, hlt, hnext⟩
              intro id h1 h2
              have hn : ∀ c d, ¬ id = c :: d :: q := fun c d e => h1 (by rw [e]; exact own_suf q c d)
              simp [h2, hn, g7 id h1 h2]
            · have w8 : j = e.kids.length := by omega
              have w9 : e.kids.take j = e.kids := by rw [w8, List.take_length]
              rw [w9] at g11
              clear w9
              repeat' (first | (with_reducible refine T.sq fun K hK => ?_) | ((first | ((with_reducible refine T.reg hE ?hd ?_); (case hd => kernel_rfl)) | ((with_reducible refine T.any hE mixed ?hd ?hok ?_); (case hd => kernel_rfl); (case hok => kernel_rfl))); simp [*]; (repeat' (split; all_goals (rename_i hc; try simp [*])))) | ((with_reducible refine T.ret ?_); (refine fin_mem (by simp [*]) ?_ ?_)) | (with_reducible refine T.block ?_) | ((with_reducible refine T.skip ?_); simp [*]) | ((with_reducible refine T.exit ?_); simp [*]) | ((with_reducible refine T.br fun K1 K2 hK1 hK2 => ?_); simp [*]; try ((refine Br.intro (fun hc => ?_) (fun hc => ?_)) <;> (try simp at hc))) | (with_reducible refine Cont.go (by assumption) _ ?_) | (with_reducible refine Cnt.go (by assumption) ?_))
              refine fin_mem' (by simp [*]) ?_ ?_
              · intro id hid
                by_cases e1 : id = si
                · subst e1
                  unfold Hold at g11
                  simp [ho, g6, g11, hp]
                · have hm : M id ≠ none := by rwa [upd_ne _ _ e1] at hid
                  have hn := not_own hMq hm
                  simp [e1, hn, g7 id (not_own' hMq hm) e1]
              · intro u hu; simpa [g8] using hu
        · cases h
      · cases h
    · cases h
end
section
open Go Go.Proofs

def okIs (x b : Int) : Prop := 0 ≤ x ∧ x ≤ 63 ∧ isU64 b
noncomputable instance (x b : Int) : Decidable (okIs x b) := Classical.propDecidable _
@[simp] noncomputable def gIs (pr : Int → Nat → Bool) : List V → Option V := f2 (kI .i64) (kI .u64) fun x b => if okIs x b then some (.bool (pr x b.toNat)) else none
theorem ok_isAll : PureOk Tryd.prog 115 (gIs prA) := by
  intro args r h
  obtain ⟨x, b, rfl, hr⟩ := f2_inv h; clear h
  split at hr
  · rename_i hs
    cases hr
    have hE := (EnvOk.nil (P := Tryd.prog) (eq := fun _ => false) (own := fun _ => false) (mem := fun _ => false) EqOk.none)
    refine ⟨⟨Tryd.f115, Tryd.func115, by decide, rfl⟩, pure_of_T Tryd.func115 rfl (by simp [Tryd.ntmps115]) fun q => ?_⟩
    repeat' (first | (with_reducible refine T.sq fun K hK => ?_) | ((first | ((with_reducible refine T.reg hE ?hd ?_); (case hd => kernel_rfl)) | ((with_reducible refine T.any hE mixed ?hd ?hok ?_); (case hd => kernel_rfl); (case hok => kernel_rfl))); simp [*]; (repeat' (split; all_goals (rename_i hc; try simp [*])))) | ((with_reducible refine T.ret ?_); refine fin_pure ?_; simp [*]; try (change Hold _)) | (with_reducible refine T.block ?_) | ((with_reducible refine T.skip ?_); simp [*]) | ((with_reducible refine T.exit ?_); simp [*]) | ((with_reducible refine T.br fun K1 K2 hK1 hK2 => ?_); simp [*]; try ((refine Br.intro (fun hc => ?_) (fun hc => ?_)) <;> (try simp at hc))) | (with_reducible refine Cont.go (by assumption) _ ?_) | (with_reducible refine Cnt.go (by assumption) ?_))
    all_goals (unfold Hold prA; rfl)
  · cases hr
theorem ok_isFree : PureOk Tryd.prog 107 (gIs prF) := by
  intro args r h
  obtain ⟨x, b, rfl, hr⟩ := f2_inv h; clear h
  split at hr
  · rename_i hs
    cases hr
    obtain ⟨h1, h2, h3⟩ := hs
    have hE := ((EnvOk.nil (P := Tryd.prog) (eq := fun _ => false) (own := fun _ => false) (mem := fun _ => false) EqOk.none).addf ok_wHas)
    refine ⟨⟨Tryd.f107, Tryd.func107, by decide, rfl⟩, pure_of_T Tryd.func107 rfl (by simp [Tryd.ntmps107]) fun q => ?_⟩
    repeat' (first | (with_reducible refine T.sq fun K hK => ?_) | ((first | ((with_reducible refine T.reg hE ?hd ?_); (case hd => kernel_rfl)) | ((with_reducible refine T.any hE mixed ?hd ?hok ?_); (case hd => kernel_rfl); (case hok => kernel_rfl))); simp [*]; (repeat' (split; all_goals (rename_i hc; try simp [*])))) | ((with_reducible refine T.ret ?_); refine fin_pure ?_; simp [*]; try (change Hold _)) | (with_reducible refine T.block ?_) | ((with_reducible refine T.skip ?_); simp [*]) | ((with_reducible refine T.exit ?_); simp [*]) | ((with_reducible refine T.br fun K1 K2 hK1 hK2 => ?_); simp [*]; try ((refine Br.intro (fun hc => ?_) (fun hc => ?_)) <;> (try simp at hc))) | (with_reducible refine Cont.go (by assumption) _ ?_) | (with_reducible refine Cnt.go (by assumption) ?_))
    all_goals (unfold Hold prF; simp)
  · cases hr
theorem stp1_lt {pr : Int → Nat → Bool} : ∀ x b s, 0 ≤ x → x ≤ 63 → b < 18446744073709551616 → s < 18446744073709551616 → stp1 pr x b s < 18446744073709551616 := fun x b s h1 h2 _ h4 => by
  unfold stp1
  split
  · exact or_lt h4 (pw_lt (by omega))
  · exact h4
set_option maxHeartbeats 1000000 in
theorem gclo_mem {fi : FuncId} {pr : Int → Nat → Bool} {ii si : Path} (hi : PureOk Tryd.prog fi (gIs pr)) (hne : ii ≠ si) : MemOk Tryd.prog 122 (mClo [.ptr ii 0, .ptr si 0] si (stp1 pr) [(ii, .cells [.fn fi []])]) := by
  intro q args M K0 x M' K' h
  simp only [mClo] at h
  split at h
  · rename_i x b cs
    split at h
    · rename_i s hM
      split at h
      · rename_i hok
        obtain ⟨rfl, hro, hx1, hx2, hb, hs⟩ := hok
        obtain ⟨b, rfl, hb1⟩ := u64_of hb
        obtain ⟨s, rfl, hs1⟩ := u64_of hs
        simp only [Option.some.injEq, Prod.mk.injEq] at h
        obtain ⟨rfl, rfl, rfl⟩ := h
        refine ⟨⟨Tryd.f122, Tryd.func122, by decide, rfl⟩, fun id hid hn => ?_, ?_⟩
        · have : id ≠ si := fun e => by subst e; rw [hn] at hM; cases hM
          rw [upd_ne _ _ this]; exact hn
        have hE := ((EnvOk.nil (P := Tryd.prog) (eq := fun _ => false) (own := fun _ => false) (mem := fun _ => false) EqOk.none).addf hi)
        refine ctr_of_T Tryd.func122 rfl (by simp [Tryd.ntmps122]) fun hMq hKq => ?_
        have hq := not_own hMq (id := si) (by rw [hM]; simp)
        have hI : M ii = some (.cells [.fn fi []]) := hro (ii, .cells [.fn fi []]) (by simp)
        have hok : okIs x b := ⟨hx1, hx2, hb⟩
        have hw0 : IntKind.u64.wrap x = x := by
          obtain ⟨m, hm⟩ := Int.eq_ofNat_of_zero_le hx1
          rw [hm]; exact wrap64u (by omega)
        have hs2 : IntKind.u64.wrap (2 ^ min x.toNat IntKind.u64.bits) = (pw x.toNat : Nat) := shl_pw (by omega)
        have hs3 : bits .or .u64 (s : Int) (pw x.toNat : Nat) = ((s ||| pw x.toNat : Nat) : Int) := bits_or rfl (by simpa [IntKind.bits] using hs1) (by simpa [IntKind.bits] using pw_lt (n := x.toNat) (by omega))
        by_cases c : pr x b = true
        · repeat' (first | (with_reducible refine T.sq fun K hK => ?_) | ((first | ((with_reducible refine T.reg hE ?hd ?_); (case hd => kernel_rfl)) | ((with_reducible refine T.any hE mixed ?hd ?hok ?_); (case hd => kernel_rfl); (case hok => kernel_rfl))); simp [*]; (repeat' (split; all_goals (rename_i hc; try simp [*])))) | ((with_reducible refine T.ret ?_); (refine fin_mem (by simp [*]) ?_ ?_)) | (with_reducible refine T.block ?_) | ((with_reducible refine T.skip ?_); simp [*]) | ((with_reducible refine T.exit ?_); simp [*]) | ((with_reducible refine T.br fun K1 K2 hK1 hK2 => ?_); simp [*]; try ((refine Br.intro (fun hc => ?_) (fun hc => ?_)) <;> (try simp at hc))) | (with_reducible refine Cont.go (by assumption) _ ?_) | (with_reducible refine Cnt.go (by assumption) ?_))
          all_goals try (refine fin_mem' (by simp [*]) ?_ ?_)
          · intro id hid
            by_cases e1 : id = si
            · subst e1; simp [stp1, c]
            · simp [e1]
          · intro u hu; simpa using hu
        · rw [Bool.not_eq_true] at c
          repeat' (first | (with_reducible refine T.sq fun K hK => ?_) | ((first | ((with_reducible refine T.reg hE ?hd ?_); (case hd => kernel_rfl)) | ((with_reducible refine T.any hE mixed ?hd ?hok ?_); (case hd => kernel_rfl); (case hok => kernel_rfl))); simp [*]; (repeat' (split; all_goals (rename_i hc; try simp [*])))) | ((with_reducible refine T.ret ?_); (refine fin_mem (by simp [*]) ?_ ?_)) | (with_reducible refine T.block ?_) | ((with_reducible refine T.skip ?_); simp [*]) | ((with_reducible refine T.exit ?_); simp [*]) | ((with_reducible refine T.br fun K1 K2 hK1 hK2 => ?_); simp [*]; try ((refine Br.intro (fun hc => ?_) (fun hc => ?_)) <;> (try simp at hc))) | (with_reducible refine Cont.go (by assumption) _ ?_) | (with_reducible refine Cnt.go (by assumption) ?_))
          all_goals try (refine fin_mem' (by simp [*]) ?_ ?_)
          · intro id hid
            by_cases e1 : id = si
            · subst e1; simp [stp1, c, hM]
            · simp [e1]
          · intro u hu; simpa using hu
      · cases h
    · cases h
  · cases h
def okGat (fi f : FuncId) (cs : List V) (e : Ex) : Prop := f = fi ∧ cs = [] ∧ allX e = true
noncomputable instance (fi f : FuncId) (cs : List V) (e : Ex) : Decidable (okGat fi f cs e) := Classical.propDecidable _
@[simp] noncomputable def gGather (fi : FuncId) (pr : Int → Nat → Bool) : List V → Option V := fun args => match args with
  | [ev, .fn f cs] => (dec ev).bind fun e => if okGat fi f cs e then some (.int .u64 (runO (stp1 pr) (occE e 0) 0 : Nat)) else none
  | _ => none
theorem okGat_mk (fi : FuncId) {e : Ex} (h : allX e = true) : okGat fi fi [] e := ⟨rfl, rfl, h⟩
set_option maxHeartbeats 1000000 in
theorem ok_gather {fi : FuncId} {pr : Int → Nat → Bool} (hi : PureOk Tryd.prog fi (gIs pr)) : PureOk Tryd.prog 106 (gGather fi pr) := by
  intro args r h
  simp only [gGather] at h
  split at h
  · rename_i ev f cs
    obtain ⟨e, he, h2⟩ := Option.bind_eq_some_iff.1 h
    clear h
    split at h2
    · rename_i hok
      obtain ⟨rfl, rfl, ha⟩ := hok
      obtain rfl := Option.some.inj h2
      obtain rfl := dec_inv he
      clear he
      refine ⟨⟨Tryd.f106, Tryd.func106, by decide, rfl⟩, pure_of_T Tryd.func106 rfl (by simp [Tryd.ntmps106]) fun q => ?_⟩
      have hE := ((EnvOk.nil (P := Tryd.prog) (eq := fun _ => false) (own := fun _ => false) (mem := fun g => g == 121) EqOk.none).addm (walk_mem (gclo_mem (ii := 0 :: 5 :: q) (si := 0 :: 7 :: q) hi (by simp)) stp1_lt (by simp) (by simp) (by decide) (by decide) (SizeOf.sizeOf e + 1)))
      have hok : ∀ M2 : Mem, roOk [(0 :: 5 :: q, .cells [.fn f []])] M2 → okWalk (SizeOf.sizeOf e + 1) 122 122 [.ptr (0 :: 5 :: q) 0, .ptr (0 :: 7 :: q) 0] [.ptr (0 :: 5 :: q) 0, .ptr (0 :: 7 :: q) 0] e M2 [(0 :: 5 :: q, .cells [.fn f []])] 0 0 := fun M2 h2 => ⟨Nat.lt_succ_self _, rfl, rfl, h2, ha, ⟨by omega, by omega⟩, ⟨by omega, by omega⟩⟩
      have hro : ∀ B1 B2 : Option Box, roOk [(0 :: 5 :: q, .cells [.fn f []])] (upd (upd (upd noM (0 :: 4 :: q) B1) (0 :: 5 :: q) (some (.cells [.fn f []]))) (0 :: 7 :: q) B2) := fun B1 B2 r hr => by simp at hr; subst hr; simp
      repeat' (first | (with_reducible refine T.sq fun K hK => ?_) | ((first | ((with_reducible refine T.reg hE ?hd ?_); (case hd => kernel_rfl)) | ((with_reducible refine T.any hE mixed ?hd ?hok ?_); (case hd => kernel_rfl); (case hok => kernel_rfl))); simp [*]; (repeat' (split; all_goals (rename_i hc; try simp [*])))) | ((with_reducible refine T.ret ?_); refine fin_pure ?_; simp [*]; try (change Hold _)) | (with_reducible refine T.block ?_) | ((with_reducible refine T.skip ?_); simp [*]) | ((with_reducible refine T.exit ?_); simp [*]) | ((with_reducible refine T.br fun K1 K2 hK1 hK2 => ?_); simp [*]; try ((refine Br.intro (fun hc => ?_) (fun hc => ?_)) <;> (try simp at hc))) | (with_reducible refine Cont.go (by assumption) _ ?_) | (with_reducible refine Cnt.go (by assumption) ?_))
      all_goals done
    · cases h2
  · cases h
end
end Go.Proofs.YtaacfmakfkaddaaDoor.Ax
