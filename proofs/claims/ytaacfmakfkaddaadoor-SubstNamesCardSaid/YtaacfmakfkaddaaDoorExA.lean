/- Contracts: the common form, made by the reference. -/
import Derived.Test.YtaacfmakfkaddaaDoorDxZ
set_option linter.unusedVariables false
set_option linter.unusedSimpArgs false
namespace Go.Proofs.YtaacfmakfkaddaaDoor.Ax
open Go Go.Proofs

def okCn (a : Ex) (p n : List Int) (A : Int) : Prop := allX a = true ∧ p.length = n.length ∧ Nn n ∧ isU64 A ∧ p.length + depE a ≤ 1000001
noncomputable instance (a : Ex) (p n : List Int) (A : Int) : Decidable (okCn a p n A) := Classical.propDecidable _
@[simp] noncomputable def gCn : List V → Option V := f4 kE (kIs .i64) (kIs .i64) (kI .u64) fun a p n A => if okCn a p n A then some (cnV (cnE a p n A.toNat)) else none
theorem used_take (A : Nat) (n : List Int) (j : Nat) (h : j < n.length) : usedN A (n.take (j + 1)) = withN (usedN A (n.take j)) n[j] := by
  rw [List.take_add_one, List.getElem?_eq_getElem h]; exact used_snoc _ _ _
/-- Numbers of one's own. -/
def Tkn (p : Path) (K : Toks) (l : List Int) (v : V) : Prop := (l = [] ∧ v = .sl [] .ex) ∨ (l ≠ [] ∧ ∃ c, v = .sl (encI .i64 l) (.own (c :: p) 1) ∧ K (c :: p) = true)
theorem tkn_more {p : Path} {K K' : Toks} {l : List Int} {v : V} (h : Tkn p K l v) (hk : ∀ t, K t = true → K' t = true) : Tkn p K' l v := by
  rcases h with h | ⟨h1, id, h2, h3⟩
  · exact .inl h
  · exact .inr ⟨h1, id, h2, hk _ h3⟩
set_option maxHeartbeats 4000000 in
theorem ok_rCanon : PureOk Tryd.prog 34 gCn := by
  refine rec4 fun e ih p n A r hr => ?_
  split at hr
  · rename_i hm
    obtain ⟨ha, hpn, hnn, hu0, hdp⟩ := hm
    cases hr
    obtain ⟨A, rfl, hA⟩ := u64_of hu0
    simp only [Int.toNat_natCast] at *
    have hE := ((((((EnvOk.nil (P := Tryd.prog) (eq := fun _ => false) (own := fun _ => false) (mem := fun _ => false) EqOk.none).addf ok_rPlace).addf ok_rQuant).addf ok_rWith).addf ok_rLeast).addf ih)
    refine ⟨⟨Tryd.f34, Tryd.func34, by decide, rfl⟩, pure_of_T Tryd.func34 rfl (by simp [Tryd.ntmps34]) fun q => ?_⟩
    have hpe := cnE_eq e p n A
    have hsm := small_all ha
    rw [smE_eq, Bool.and_eq_true, decide_eq_true_eq] at hsm
    have hsm1 := hsm.1
    clear hsm
    have dk := depE_eq e
    have hd0 : 1 ≤ depE e := by omega
    refine T.sq fun K hK => ?_
    obtain ⟨hgo⟩ := hK
    repeat' (first | (with_reducible refine T.sq fun K hK => ?_) | ((first | ((with_reducible refine T.reg hE ?hd ?_); (case hd => kernel_rfl)) | ((with_reducible refine T.any hE mixed ?hd ?hok ?_); (case hd => kernel_rfl); (case hok => kernel_rfl))); simp [*]; (repeat' (split; all_goals (rename_i hc; try simp [*])))) | ((with_reducible refine T.ret ?_); refine fin_pure ?_; simp [*]; try (change Hold _)) | (with_reducible refine T.block ?_) | ((with_reducible refine T.skip ?_); simp [*]) | ((with_reducible refine T.exit ?_); simp [*]) | ((with_reducible refine T.br fun K1 K2 hK1 hK2 => ?_); simp [*]; try ((refine Br.intro (fun hc => ?_) (fun hc => ?_)) <;> (try simp at hc))) | (with_reducible refine Cont.go (by assumption) _ ?_) | (with_reducible refine Cnt.go (by assumption) ?_))
    refine hgo _ ?_
    clear hgo
    refine T.sq fun K hK => ?_
    obtain ⟨hgo⟩ := hK
    repeat' (first | (with_reducible refine T.sq fun K hK => ?_) | ((first | ((with_reducible refine T.reg hE ?hd ?_); (case hd => kernel_rfl)) | ((with_reducible refine T.any hE mixed ?hd ?hok ?_); (case hd => kernel_rfl); (case hok => kernel_rfl))); simp [*]; (repeat' (split; all_goals (rename_i hc; try simp [*])))) | ((with_reducible refine T.ret ?_); refine fin_pure ?_; simp [*]; try (change Hold _)) | (with_reducible refine T.block ?_) | ((with_reducible refine T.skip ?_); simp [*]) | ((with_reducible refine T.exit ?_); simp [*]) | ((with_reducible refine T.br fun K1 K2 hK1 hK2 => ?_); simp [*]; try ((refine Br.intro (fun hc => ?_) (fun hc => ?_)) <;> (try simp at hc))) | (with_reducible refine Cont.go (by assumption) _ ?_) | (with_reducible refine Cnt.go (by assumption) ?_))
    refine hgo _ ?_
    clear hgo
    refine T.sq fun K0 hK0 => ?_
    suffices j0 : ∀ (I : Int) (σ : St), (Hold (I = if e.k = 1 ∧ 0 ≤ pl p e.i then n.getD (pl p e.i).toNat 0 else e.i) ∧ σ.get 1 = .sl (encI .i64 p) .no ∧ σ.get 2 = .sl (encI .i64 n) .no ∧ σ.get 3 = .int .u64 (A : Nat) ∧ σ.get 4 = .ptr (0 :: 6 :: q) 0 ∧ σ.get 8 = .ptr (0 :: 10 :: q) 0 ∧ σ.get 10 = .int .i64 I ∧ σ.M (0 :: 6 :: q) = some (.cells (encC e)) ∧ (∃ c0 c1 c2, σ.M (0 :: 10 :: q) = some (.cells [c0, c1, c2])) ∧ σ.cnt 18 = 0) → K0 σ by
      clear hK0
      by_cases c1 : e.k = 1
      · by_cases c2 : 0 ≤ pl p e.i
        · obtain ⟨m, hm⟩ := Int.eq_ofNat_of_zero_le c2
          have hr := pl_range p e.i
          have hml : m < n.length := by omega
          have hml2 : (m : Int) < n.length := by omega
          have hI : Hold (n[m] = if e.k = 1 ∧ 0 ≤ pl p e.i then n.getD (pl p e.i).toNat 0 else e.i) := by
            unfold Hold; rw [if_pos ⟨c1, c2⟩, hm, Int.toNat_natCast, List.getD_eq_getElem?_getD, List.getElem?_eq_getElem hml]; rfl
          clear hr c2
          repeat' (first | (with_reducible refine T.sq fun K hK => ?_) | ((first | ((with_reducible refine T.reg hE ?hd ?_); (case hd => kernel_rfl)) | ((with_reducible refine T.any hE mixed ?hd ?hok ?_); (case hd => kernel_rfl); (case hok => kernel_rfl))); simp [*]; (repeat' (split; all_goals (rename_i hc; try simp [*])))) | ((with_reducible refine T.ret ?_); refine fin_pure ?_; simp [*]; try (change Hold _)) | (with_reducible refine T.block ?_) | ((with_reducible refine T.skip ?_); simp [*]) | ((with_reducible refine T.exit ?_); simp [*]) | ((with_reducible refine T.br fun K1 K2 hK1 hK2 => ?_); simp [*]; try ((refine Br.intro (fun hc => ?_) (fun hc => ?_)) <;> (try simp at hc))) | (with_reducible refine Cont.go (by assumption) _ ?_) | (with_reducible refine Cnt.go (by assumption) ?_))
          all_goals (refine j0 _ _ ⟨hI, ?_, ?_, ?_, ?_, ?_, ?_, ?_, ?_, ?_⟩ <;> simp [*, encC_eq])
        · have hI : Hold (e.i = if e.k = 1 ∧ 0 ≤ pl p e.i then n.getD (pl p e.i).toNat 0 else e.i) := by unfold Hold; rw [if_neg (fun h => c2 h.2)]
          repeat' (first | (with_reducible refine T.sq fun K hK => ?_) | ((first | ((with_reducible refine T.reg hE ?hd ?_); (case hd => kernel_rfl)) | ((with_reducible refine T.any hE mixed ?hd ?hok ?_); (case hd => kernel_rfl); (case hok => kernel_rfl))); simp [*]; (repeat' (split; all_goals (rename_i hc; try simp [*])))) | ((with_reducible refine T.ret ?_); refine fin_pure ?_; simp [*]; try (change Hold _)) | (with_reducible refine T.block ?_) | ((with_reducible refine T.skip ?_); simp [*]) | ((with_reducible refine T.exit ?_); simp [*]) | ((with_reducible refine T.br fun K1 K2 hK1 hK2 => ?_); simp [*]; try ((refine Br.intro (fun hc => ?_) (fun hc => ?_)) <;> (try simp at hc))) | (with_reducible refine Cont.go (by assumption) _ ?_) | (with_reducible refine Cnt.go (by assumption) ?_))
          all_goals (refine j0 _ _ ⟨hI, ?_, ?_, ?_, ?_, ?_, ?_, ?_, ?_, ?_⟩ <;> simp [*, encC_eq])
      · have hI : Hold (e.i = if e.k = 1 ∧ 0 ≤ pl p e.i then n.getD (pl p e.i).toNat 0 else e.i) := by unfold Hold; rw [if_neg (fun h => c1 h.1)]
        repeat' (first | (with_reducible refine T.sq fun K hK => ?_) | ((first | ((with_reducible refine T.reg hE ?hd ?_); (case hd => kernel_rfl)) | ((with_reducible refine T.any hE mixed ?hd ?hok ?_); (case hd => kernel_rfl); (case hok => kernel_rfl))); simp [*]; (repeat' (split; all_goals (rename_i hc; try simp [*])))) | ((with_reducible refine T.ret ?_); refine fin_pure ?_; simp [*]; try (change Hold _)) | (with_reducible refine T.block ?_) | ((with_reducible refine T.skip ?_); simp [*]) | ((with_reducible refine T.exit ?_); simp [*]) | ((with_reducible refine T.br fun K1 K2 hK1 hK2 => ?_); simp [*]; try ((refine Br.intro (fun hc => ?_) (fun hc => ?_)) <;> (try simp at hc))) | (with_reducible refine Cont.go (by assumption) _ ?_) | (with_reducible refine Cnt.go (by assumption) ?_))
        all_goals (refine j0 _ _ ⟨hI, ?_, ?_, ?_, ?_, ?_, ?_, ?_, ?_, ?_⟩ <;> simp [*, encC_eq])
    rintro I σ ⟨hI, b1, b2, b3, b4, b8, b10, n4, ⟨c0, c1, c2, n8⟩, b16⟩
    refine hK0.go σ ?_
    clear hK0
    rw [encC_eq] at n4
    refine T.sq fun K2 hK2 => ?_
    suffices j2 : ∀ (v : V) (σ : St), (Hold (Tkn (44 :: q) σ.K p v) ∧ σ.get 11 = v ∧ σ.get 2 = .sl (encI .i64 n) .no ∧ σ.get 3 = .int .u64 (A : Nat) ∧ σ.get 4 = .ptr (0 :: 6 :: q) 0 ∧ σ.get 8 = .ptr (0 :: 10 :: q) 0 ∧ σ.get 10 = .int .i64 I ∧ σ.M (0 :: 6 :: q) = some (.cells (encC e)) ∧ (∃ c0 c1 c2, σ.M (0 :: 10 :: q) = some (.cells [c0, c1, c2])) ∧ σ.cnt 18 = 0) → K2 σ by
      clear hK2
      cases p with
      | nil =>
        repeat' (first | (with_reducible refine T.sq fun K hK => ?_) | ((first | ((with_reducible refine T.reg hE ?hd ?_); (case hd => kernel_rfl)) | ((with_reducible refine T.any hE mixed ?hd ?hok ?_); (case hd => kernel_rfl); (case hok => kernel_rfl))); simp [*]; (repeat' (split; all_goals (rename_i hc; try simp [*])))) | ((with_reducible refine T.ret ?_); refine fin_pure ?_; simp [*]; try (change Hold _)) | (with_reducible refine T.block ?_) | ((with_reducible refine T.skip ?_); simp [*]) | ((with_reducible refine T.exit ?_); simp [*]) | ((with_reducible refine T.br fun K1 K2 hK1 hK2 => ?_); simp [*]; try ((refine Br.intro (fun hc => ?_) (fun hc => ?_)) <;> (try simp at hc))) | (with_reducible refine Cont.go (by assumption) _ ?_) | (with_reducible refine Cnt.go (by assumption) ?_))
        all_goals (refine j2 _ _ ⟨.inl ⟨rfl, rfl⟩, ?_, ?_, ?_, ?_, ?_, ?_, ?_, ?_, ?_⟩ <;> simp [*, encC_eq])
      | cons p0 ps =>
        have z1 : (ps.length + 1) * 8 ≤ 140737488355328 := by simp at hdp; omega
        repeat' (first | (with_reducible refine T.sq fun K hK => ?_) | ((first | ((with_reducible refine T.reg hE ?hd ?_); (case hd => kernel_rfl)) | ((with_reducible refine T.any hE mixed ?hd ?hok ?_); (case hd => kernel_rfl); (case hok => kernel_rfl))); simp [*]; (repeat' (split; all_goals (rename_i hc; try simp [*])))) | ((with_reducible refine T.ret ?_); refine fin_pure ?_; simp [*]; try (change Hold _)) | (with_reducible refine T.block ?_) | ((with_reducible refine T.skip ?_); simp [*]) | ((with_reducible refine T.exit ?_); simp [*]) | ((with_reducible refine T.br fun K1 K2 hK1 hK2 => ?_); simp [*]; try ((refine Br.intro (fun hc => ?_) (fun hc => ?_)) <;> (try simp at hc))) | (with_reducible refine Cont.go (by assumption) _ ?_) | (with_reducible refine Cnt.go (by assumption) ?_))
        all_goals (refine j2 (.sl (encI .i64 (p0 :: ps)) (.own (σ.cnt 44 :: 44 :: q) 1)) _ ⟨.inr ⟨by simp, _, rfl, ?_⟩, ?_, ?_, ?_, ?_, ?_, ?_, ?_, ?_, ?_⟩ <;> simp [*, encC_eq])
    clear b1 b2 b3 b4 b8 b10 n4 c0 c1 c2 n8 b16
    rintro v σ ⟨hv, b11, b2, b3, b4, b8, b10, n4, ⟨c0, c1, c2, n8⟩, b16⟩
    refine hK2.go σ ?_
    clear hK2
    rw [encC_eq] at n4
    refine T.sq fun K3 hK3 => ?_
    suffices j3 : ∀ (v w : V) (σ : St), (Hold (Tkn (44 :: q) σ.K p v) ∧ Hold (Tkn (47 :: q) σ.K n w) ∧ σ.get 11 = v ∧ σ.get 12 = w ∧ σ.get 2 = .sl (encI .i64 n) .no ∧ σ.get 3 = .int .u64 (A : Nat) ∧ σ.get 4 = .ptr (0 :: 6 :: q) 0 ∧ σ.get 8 = .ptr (0 :: 10 :: q) 0 ∧ σ.get 10 = .int .i64 I ∧ σ.M (0 :: 6 :: q) = some (.cells (encC e)) ∧ (∃ c0 c1 c2, σ.M (0 :: 10 :: q) = some (.cells [c0, c1, c2])) ∧ σ.cnt 18 = 0) → K3 σ by
      clear hK3
      cases n with
      | nil =>
        repeat' (first | (with_reducible refine T.sq fun K hK => ?_) | ((first | ((with_reducible refine T.reg hE ?hd ?_); (case hd => kernel_rfl)) | ((with_reducible refine T.any hE mixed ?hd ?hok ?_); (case hd => kernel_rfl); (case hok => kernel_rfl))); simp [*]; (repeat' (split; all_goals (rename_i hc; try simp [*])))) | ((with_reducible refine T.ret ?_); refine fin_pure ?_; simp [*]; try (change Hold _)) | (with_reducible refine T.block ?_) | ((with_reducible refine T.skip ?_); simp [*]) | ((with_reducible refine T.exit ?_); simp [*]) | ((with_reducible refine T.br fun K1 K2 hK1 hK2 => ?_); simp [*]; try ((refine Br.intro (fun hc => ?_) (fun hc => ?_)) <;> (try simp at hc))) | (with_reducible refine Cont.go (by assumption) _ ?_) | (with_reducible refine Cnt.go (by assumption) ?_))
        all_goals (refine j3 _ _ _ ⟨hv, .inl ⟨rfl, rfl⟩, ?_, ?_, ?_, ?_, ?_, ?_, ?_, ?_, ?_, ?_⟩ <;> simp [*, encC_eq])
      | cons p0 ps =>
        have z1 : (ps.length + 1) * 8 ≤ 140737488355328 := by simp at hpn; omega
        have hv2 : Hold (Tkn (44 :: q) (fun t => decide (t = σ.cnt 47 :: 47 :: q) || σ.K t) p v) := tkn_more hv fun t h => by simp [h]
        clear hv
        repeat' (first | (with_reducible refine T.sq fun K hK => ?_) | ((first | ((with_reducible refine T.reg hE ?hd ?_); (case hd => kernel_rfl)) | ((with_reducible refine T.any hE mixed ?hd ?hok ?_); (case hd => kernel_rfl); (case hok => kernel_rfl))); simp [*]; (repeat' (split; all_goals (rename_i hc; try simp [*])))) | ((with_reducible refine T.ret ?_); refine fin_pure ?_; simp [*]; try (change Hold _)) | (with_reducible refine T.block ?_) | ((with_reducible refine T.skip ?_); simp [*]) | ((with_reducible refine T.exit ?_); simp [*]) | ((with_reducible refine T.br fun K1 K2 hK1 hK2 => ?_); simp [*]; try ((refine Br.intro (fun hc => ?_) (fun hc => ?_)) <;> (try simp at hc))) | (with_reducible refine Cont.go (by assumption) _ ?_) | (with_reducible refine Cnt.go (by assumption) ?_))
        all_goals (refine j3 _ (.sl (encI .i64 (p0 :: ps)) (.own (σ.cnt 47 :: 47 :: q) 1)) _ ⟨tkn_more hv2 (fun t h => by simpa using h), .inr ⟨by simp, _, rfl, ?_⟩, ?_, ?_, ?_, ?_, ?_, ?_, ?_, ?_, ?_, ?_⟩ <;> simp [*, encC_eq])
    clear b11 b2 b3 b4 b8 b10 n4 c0 c1 c2 n8 b16 hv
    rintro v w σ ⟨hv, hw, b11, b12, b2, b3, b4, b8, b10, n4, ⟨c0, c1, c2, n8⟩, b16⟩
    refine hK3.go σ ?_
    clear hK3
    rw [encC_eq] at n4
    refine T.sq fun K1 hK1 => ?_
    suffices j1 : ∀ (F : Ex → Option Ex) (I : Int) (P N : List Int) (k1 k2 : Tk) (σ : St), (Hold (cnE e p n A = pcK F e.k I e.kids) ∧ Hold (∀ y, F y = cnE y P N A) ∧ Hold (P.length = N.length ∧ Nn N ∧ P.length + depE e ≤ 1000002) ∧ σ.get 11 = .sl (encI .i64 P) k1 ∧ σ.get 12 = .sl (encI .i64 N) k2 ∧ σ.get 3 = .int .u64 (A : Nat) ∧ σ.get 4 = .ptr (0 :: 6 :: q) 0 ∧ σ.get 8 = .ptr (0 :: 10 :: q) 0 ∧ σ.get 10 = .int .i64 I ∧ σ.M (0 :: 6 :: q) = some (.cells (encC e)) ∧ (∃ c0 c1 c2, σ.M (0 :: 10 :: q) = some (.cells [c0, c1, c2])) ∧ σ.cnt 18 = 0) → K1 σ by
      clear hK1
      by_cases cq : isQ e = true
      · have c1' : e.k = 7 ∨ e.k = 10 := by simpa [isQ] using cq
        rw [if_pos c1'] at hpe
        have va := shaped_var ha (.inr c1')
        repeat' (first | (with_reducible refine T.sq fun K hK => ?_) | ((first | ((with_reducible refine T.reg hE ?hd ?_); (case hd => kernel_rfl)) | ((with_reducible refine T.any hE mixed ?hd ?hok ?_); (case hd => kernel_rfl); (case hok => kernel_rfl))); simp [*]; (repeat' (split; all_goals (rename_i hc; try simp [*])))) | ((with_reducible refine T.ret ?_); refine fin_pure ?_; simp [*]; try (change Hold _)) | (with_reducible refine T.block ?_) | ((with_reducible refine T.skip ?_); simp [*]) | ((with_reducible refine T.exit ?_); simp [*]) | ((with_reducible refine T.br fun K1 K2 hK1 hK2 => ?_); simp [*]; try ((refine Br.intro (fun hc => ?_) (fun hc => ?_)) <;> (try simp at hc))) | (with_reducible refine Cont.go (by assumption) _ ?_) | (with_reducible refine Cnt.go (by assumption) ?_))
        refine T.len (t := 49) (els := encI .i64 n) (tk := .no) (by simp [*]) fun hlen => ?_
        rw [encI_length] at hlen
        refine T.loop (fun n' σ => ∃ (j : Nat), n' = n.length - j ∧ σ.get 49 = .sl (encI .i64 n) .no ∧ σ.get 50 = .int .i64 n.length ∧ σ.get 51 = .int .i64 j ∧ j ≤ n.length ∧ σ.get 13 = .int .u64 (usedN A (n.take j) : Nat) ∧ σ.get 11 = v ∧ σ.get 12 = w ∧ σ.get 3 = .int .u64 (A : Nat) ∧ σ.get 4 = .ptr (0 :: 6 :: q) 0 ∧ σ.get 8 = .ptr (0 :: 10 :: q) 0 ∧ σ.M (0 :: 6 :: q) = some (.cells (encC e)) ∧ (∃ c0 c1 c2, σ.M (0 :: 10 :: q) = some (.cells [c0, c1, c2])) ∧ σ.cnt 18 = 0 ∧ Hold (Tkn (44 :: q) σ.K p v) ∧ Hold (Tkn (47 :: q) σ.K n w)) n.length ⟨0, by simp [*], by simp [*], by simp [*], by simp [*], by omega, by simp [*, usedN], by simp [*], by simp [*], by simp [*], by simp [*], by simp [*], by simp [*, encC_eq], ⟨c0, c1, c2, by simp [*]⟩, by simp [*], by simpa using hv, by simpa using hw⟩ ?_
        clear b11 b12 b2 b3 b4 b8 b10 n4 c0 c1 c2 n8 b16 hv hw hI
        rintro n' σ ⟨j, rfl, g1, g2, g3, g4, g5, b11, b12, b3, b4, b8, n4, ⟨c0, c1, c2, n8⟩, b16, hv, hw⟩
        rw [encC_eq] at n4
        have hus := u64_nat (used_lt hA (n := n.take j))
        by_cases hj : j < n.length
        · have hws := wrap_succ hlen hj
          have hut : Hold (usedN A (n.take (j + 1)) = withN (usedN A (n.take j)) n[j]) := used_take A n j hj
          clear hpe
          repeat' (first | (with_reducible refine T.sq fun K hK => ?_) | ((first | ((with_reducible refine T.reg hE ?hd ?_); (case hd => kernel_rfl)) | ((with_reducible refine T.any hE mixed ?hd ?hok ?_); (case hd => kernel_rfl); (case hok => kernel_rfl))); simp [*]; (repeat' (split; all_goals (rename_i hc; try simp [*])))) | ((with_reducible refine T.ret ?_); refine fin_pure ?_; simp [*]; try (change Hold _)) | (with_reducible refine T.block ?_) | ((with_reducible refine T.skip ?_); simp [*]) | ((with_reducible refine T.exit ?_); simp [*]) | ((with_reducible refine T.br fun K1 K2 hK1 hK2 => ?_); simp [*]; try ((refine Br.intro (fun hc => ?_) (fun hc => ?_)) <;> (try simp at hc))) | (with_reducible refine Cont.go (by assumption) _ ?_) | (with_reducible refine Cnt.go (by assumption) ?_))
          refine ⟨_, by omega, j + 1, rfl, by omega, by omega, congrArg Nat.cast hut.symm, by rw [encC_eq]⟩
        · have w8 : j = n.length := by omega
          have w9 : n.take j = n := by rw [w8, List.take_length]
          rw [w9] at g5 hus
          clear w9
          obtain ⟨z, hz⟩ : ∃ z, leastN (usedN A n) = z := ⟨_, rfl⟩
          have hzr := least_range (usedN A n)
          rw [hz] at hpe hzr
          by_cases c2 : z < 0
          · rw [if_pos c2] at hpe
            have hn : Hold (cnE e p n A = none) := hpe
            clear hpe va
            repeat' (first | (with_reducible refine T.sq fun K hK => ?_) | ((first | ((with_reducible refine T.reg hE ?hd ?_); (case hd => kernel_rfl)) | ((with_reducible refine T.any hE mixed ?hd ?hok ?_); (case hd => kernel_rfl); (case hok => kernel_rfl))); simp [*]; (repeat' (split; all_goals (rename_i hc; try simp [*])))) | ((with_reducible refine T.ret ?_); refine fin_pure ?_; simp [*]; try (change Hold _)) | (with_reducible refine T.block ?_) | ((with_reducible refine T.skip ?_); simp [*]) | ((with_reducible refine T.exit ?_); simp [*]) | ((with_reducible refine T.br fun K1 K2 hK1 hK2 => ?_); simp [*]; try ((refine Br.intro (fun hc => ?_) (fun hc => ?_)) <;> (try simp at hc))) | (with_reducible refine Cont.go (by assumption) _ ?_) | (with_reducible refine Cnt.go (by assumption) ?_))
            all_goals (unfold Hold at *; rw [hn]; rfl)
          · rw [if_neg c2] at hpe
            have hn : Hold (cnE e p n A = pcK (fun y => cnE y (p ++ [e.i]) (n ++ [z]) A) e.k z e.kids) := hpe
            have hf : Hold (∀ y, (fun y => cnE y (p ++ [e.i]) (n ++ [z]) A) y = cnE y (p ++ [e.i]) (n ++ [z]) A) := fun _ => rfl
            have hh : Hold ((p ++ [e.i]).length = (n ++ [z]).length ∧ Nn (n ++ [z]) ∧ (p ++ [e.i]).length + depE e ≤ 1000002) := ⟨by simp [hpn], nn_snoc hnn (by omega) hzr.2, by simp; omega⟩
            clear hpe va
            cases p with
            | nil =>
              obtain rfl : n = [] := List.eq_nil_of_length_eq_zero hpn.symm
              obtain ⟨_, rfl⟩ : True ∧ v = .sl [] .ex := by rcases hv with h | h; exact ⟨trivial, h.2⟩; exact absurd rfl h.1
              obtain ⟨_, rfl⟩ : True ∧ w = .sl [] .ex := by rcases hw with h | h; exact ⟨trivial, h.2⟩; exact absurd rfl h.1
              repeat' (first | (with_reducible refine T.sq fun K hK => ?_) | ((first | ((with_reducible refine T.reg hE ?hd ?_); (case hd => kernel_rfl)) | ((with_reducible refine T.any hE mixed ?hd ?hok ?_); (case hd => kernel_rfl); (case hok => kernel_rfl))); simp [*]; (repeat' (split; all_goals (rename_i hc; try simp [*])))) | ((with_reducible refine T.ret ?_); refine fin_pure ?_; simp [*]; try (change Hold _)) | (with_reducible refine T.block ?_) | ((with_reducible refine T.skip ?_); simp [*]) | ((with_reducible refine T.exit ?_); simp [*]) | ((with_reducible refine T.br fun K1 K2 hK1 hK2 => ?_); simp [*]; try ((refine Br.intro (fun hc => ?_) (fun hc => ?_)) <;> (try simp at hc))) | (with_reducible refine Cont.go (by assumption) _ ?_) | (with_reducible refine Cnt.go (by assumption) ?_))
              all_goals (refine j1 _ z _ _ (.own (σ.cnt 70 :: 70 :: q) 1) (.own (σ.cnt 74 :: 74 :: q) 1) _ ⟨hn, hf, hh, ?_, ?_, ?_, ?_, ?_, ?_, ?_, ?_, ?_⟩ <;> simp [*, encC_eq])
            | cons p0 ps =>
              obtain ⟨n0, ns, rfl⟩ : ∃ q1 qs, n = q1 :: qs := by cases n with | nil => simp at hpn | cons x l => exact ⟨x, l, rfl⟩
              obtain ⟨i1, rfl, hk1⟩ : ∃ c, v = .sl (encI .i64 (p0 :: ps)) (.own (c :: 44 :: q) 1) ∧ σ.K (c :: 44 :: q) = true := by rcases hv with h | h; exact absurd h.1 (by simp); exact h.2
              obtain ⟨i2, rfl, hk2⟩ : ∃ c, w = .sl (encI .i64 (n0 :: ns)) (.own (c :: 47 :: q) 1) ∧ σ.K (c :: 47 :: q) = true := by rcases hw with h | h; exact absurd h.1 (by simp); exact h.2
              have z1 : (ps.length + 1 + 1) * 8 ≤ 140737488355328 := by simp at hdp; omega
              have z2 : (ns.length + 1 + 1) * 8 ≤ 140737488355328 := by simp at hpn; omega
              have a1 : encI .i64 (ps ++ [e.i]) = encI .i64 ps ++ [[V.int .i64 e.i]] := encI_append _ _ _
              have a2 : encI .i64 (ns ++ [z]) = encI .i64 ns ++ [[V.int .i64 z]] := encI_append _ _ _
              repeat' (first | (with_reducible refine T.sq fun K hK => ?_) | ((first | ((with_reducible refine T.reg hE ?hd ?_); (case hd => kernel_rfl)) | ((with_reducible refine T.any hE mixed ?hd ?hok ?_); (case hd => kernel_rfl); (case hok => kernel_rfl))); simp [*]; (repeat' (split; all_goals (rename_i hc; try simp [*])))) | ((with_reducible refine T.ret ?_); refine fin_pure ?_; simp [*]; try (change Hold _)) | (with_reducible refine T.block ?_) | ((with_reducible refine T.skip ?_); simp [*]) | ((with_reducible refine T.exit ?_); simp [*]) | ((with_reducible refine T.br fun K1 K2 hK1 hK2 => ?_); simp [*]; try ((refine Br.intro (fun hc => ?_) (fun hc => ?_)) <;> (try simp at hc))) | (with_reducible refine Cont.go (by assumption) _ ?_) | (with_reducible refine Cnt.go (by assumption) ?_))
              all_goals (refine j1 _ z _ _ (.own (σ.cnt 70 :: 70 :: q) 1) (.own (σ.cnt 74 :: 74 :: q) 1) _ ⟨hn, hf, hh, ?_, ?_, ?_, ?_, ?_, ?_, ?_, ?_, ?_⟩ <;> simp [*, encC_eq])
      · have c1' : ¬ (e.k = 7 ∨ e.k = 10) := by simpa [isQ] using cq
        rw [Bool.not_eq_true] at cq
        rw [if_neg c1'] at hpe
        have hn : Hold (cnE e p n A = pcK (fun y => cnE y p n A) e.k I e.kids) := by unfold Hold at *; rw [hpe, hI]; rfl
        have hf : Hold (∀ y, (fun y => cnE y p n A) y = cnE y p n A) := fun _ => rfl
        have hh : Hold (p.length = n.length ∧ Nn n ∧ p.length + depE e ≤ 1000002) := ⟨hpn, hnn, by omega⟩
        have hvv : ∃ k1, v = .sl (encI .i64 p) k1 := by
          rcases hv with ⟨h1, h2⟩ | ⟨h1, id, h2, h3⟩
          · exact ⟨_, by rw [h2, h1]; rfl⟩
          · exact ⟨_, h2⟩
        have hww : ∃ k1, w = .sl (encI .i64 n) k1 := by
          rcases hw with ⟨h1, h2⟩ | ⟨h1, id, h2, h3⟩
          · exact ⟨_, by rw [h2, h1]; rfl⟩
          · exact ⟨_, h2⟩
        obtain ⟨k1, rfl⟩ := hvv
        obtain ⟨k2, rfl⟩ := hww
        clear hpe hI hv hw
        repeat' (first | (with_reducible refine T.sq fun K hK => ?_) | ((first | ((with_reducible refine T.reg hE ?hd ?_); (case hd => kernel_rfl)) | ((with_reducible refine T.any hE mixed ?hd ?hok ?_); (case hd => kernel_rfl); (case hok => kernel_rfl))); simp [*]; (repeat' (split; all_goals (rename_i hc; try simp [*])))) | ((with_reducible refine T.ret ?_); refine fin_pure ?_; simp [*]; try (change Hold _)) | (with_reducible refine T.block ?_) | ((with_reducible refine T.skip ?_); simp [*]) | ((with_reducible refine T.exit ?_); simp [*]) | ((with_reducible refine T.br fun K1 K2 hK1 hK2 => ?_); simp [*]; try ((refine Br.intro (fun hc => ?_) (fun hc => ?_)) <;> (try simp at hc))) | (with_reducible refine Cont.go (by assumption) _ ?_) | (with_reducible refine Cnt.go (by assumption) ?_))
        all_goals (refine j1 _ _ _ _ k1 k2 _ ⟨hn, hf, hh, ?_, ?_, ?_, ?_, ?_, ?_, ?_, ?_, ?_⟩ <;> simp [*, encC_eq])
    clear b11 b12 b2 b3 b4 b8 b10 n4 c0 c1 c2 n8 b16 hv hw hI hpe v w hu0 hnn hpn hdp
    rintro F I P N k1 k2 σ ⟨hn, hf, hh, b11, b12, b3, b4, b8, b10, n4, ⟨c0, c1, c2, n8⟩, b16⟩
    refine hK1.go σ ?_
    clear hK1
    rw [encC_eq] at n4
    obtain ⟨hP1, hP2, hP3⟩ := hh
    have hd1 := depE_eq e
    have hokp : ∀ (j : Nat) (hj : j < e.kids.length), okCn e.kids[j] P N (A : Nat) := fun j hj => ⟨allX_kid ha j hj, hP1, hP2, u64_nat hA, by have := depE_kid (e := e) j hj; omega⟩
    clear ha hd1 dk hd0 hP2 hP3 hA
    refine T.sq fun K hK => ?_
    obtain ⟨hgo⟩ := hK
    repeat' (first | (with_reducible refine T.sq fun K hK => ?_) | ((first | ((with_reducible refine T.reg hE ?hd ?_); (case hd => kernel_rfl)) | ((with_reducible refine T.any hE mixed ?hd ?hok ?_); (case hd => kernel_rfl); (case hok => kernel_rfl))); simp [*]; (repeat' (split; all_goals (rename_i hc; try simp [*])))) | ((with_reducible refine T.ret ?_); refine fin_pure ?_; simp [*]; try (change Hold _)) | (with_reducible refine T.block ?_) | ((with_reducible refine T.skip ?_); simp [*]) | ((with_reducible refine T.exit ?_); simp [*]) | ((with_reducible refine T.br fun K1 K2 hK1 hK2 => ?_); simp [*]; try ((refine Br.intro (fun hc => ?_) (fun hc => ?_)) <;> (try simp at hc))) | (with_reducible refine Cont.go (by assumption) _ ?_) | (with_reducible refine Cnt.go (by assumption) ?_))
    refine hgo _ ?_
    clear hgo
    repeat' (first | (with_reducible refine T.sq fun K hK => ?_) | ((first | ((with_reducible refine T.reg hE ?hd ?_); (case hd => kernel_rfl)) | ((with_reducible refine T.any hE mixed ?hd ?hok ?_); (case hd => kernel_rfl); (case hok => kernel_rfl))); simp [*]; (repeat' (split; all_goals (rename_i hc; try simp [*])))) | ((with_reducible refine T.ret ?_); refine fin_pure ?_; simp [*]; try (change Hold _)) | (with_reducible refine T.block ?_) | ((with_reducible refine T.skip ?_); simp [*]) | ((with_reducible refine T.exit ?_); simp [*]) | ((with_reducible refine T.br fun K1 K2 hK1 hK2 => ?_); simp [*]; try ((refine Br.intro (fun hc => ?_) (fun hc => ?_)) <;> (try simp at hc))) | (with_reducible refine Cont.go (by assumption) _ ?_) | (with_reducible refine Cnt.go (by assumption) ?_))
    refine T.len (t := 78) (els := encL e.kids) (tk := .no) (by simp [*]) fun hlen => ?_
    rw [encL_length] at hlen
    refine T.loop (fun n σ => ∃ (j : Nat) (w : V) (L : List Ex), n = e.kids.length - j ∧ σ.get 78 = .sl (encL e.kids) .no ∧ σ.get 79 = .int .i64 e.kids.length ∧ σ.get 80 = .int .i64 j ∧ j ≤ e.kids.length ∧ σ.get 11 = .sl (encI .i64 P) k1 ∧ σ.get 12 = .sl (encI .i64 N) k2 ∧ σ.get 3 = .int .u64 (A : Nat) ∧ σ.get 8 = .ptr (0 :: 10 :: q) 0 ∧ σ.get 16 = .ptr (0 :: 18 :: q) 0 ∧ (∃ c0 c1 c2, σ.M (0 :: 10 :: q) = some (.cells [c0, c1, c2])) ∧ σ.M (0 :: 18 :: q) = some (.cells [.int .i64 e.k, .int .i64 I, w]) ∧ Hold (optL F (e.kids.take j) = some L ∧ L.length = j) ∧ Hold ((L = [] ∧ w = .nils) ∨ (L ≠ [] ∧ ∃ id, w = .sl (encL L) (.own id 3) ∧ σ.K id = true))) e.kids.length ⟨0, .nils, [], by simp [*], by simp [*], by simp [*], by simp [*], by omega, by simp [*], by simp [*], by simp [*], by simp [*], by simp [*], ⟨c0, c1, c2, by simp [*]⟩, by simp [*], ⟨by rw [List.take_zero]; rfl, rfl⟩, .inl ⟨rfl, rfl⟩⟩ ?_
    clear b11 b12 b3 b4 b8 b10 n4 c0 c1 c2 n8 b16
    rintro n' σ ⟨j, w, L, rfl, g1, g2, g3, g4, b11, b12, b3, b8, b16, ⟨c0, c1, c2, n8⟩, n18, g8, g9⟩
    obtain ⟨hL, hLj⟩ := g8
    by_cases hj : j < e.kids.length
    · have hw := wrap_succ hlen hj
      have hs := ex_kid_lt e j hj
      have hok := hokp j hj
      have u1 : (j + 1) * 40 ≤ 140737488355328 := by omega
      rcases optL_head hj hL with ⟨y, hy, hL2⟩ | ⟨hy, hno⟩
      · have hcv : cnV (cnE e.kids[j] P N A) = .tup [enc y, .int .i64 0] := by rw [← hf, hy]; rfl
        have hL2' : Hold (optL F (e.kids.take (j + 1)) = some (L ++ [y])) := hL2
        clear hy hL hL2 hf hokp
        rcases g9 with ⟨rfl, rfl⟩ | ⟨hj0, id, rfl, hK⟩
        · have hj1 : j = 0 := by rw [← hLj]; rfl
          subst hj1
          have hw1 : IntKind.i64.wrap 1 = 1 := wrap64 (by omega) (by omega)
          repeat' (first | (with_reducible refine T.sq fun K hK => ?_) | ((first | ((with_reducible refine T.reg hE ?hd ?_); (case hd => kernel_rfl)) | ((with_reducible refine T.any hE mixed ?hd ?hok ?_); (case hd => kernel_rfl); (case hok => kernel_rfl))); simp [*]; (repeat' (split; all_goals (rename_i hc; try simp [*])))) | ((with_reducible refine T.ret ?_); refine fin_pure ?_; simp [*]; try (change Hold _)) | (with_reducible refine T.block ?_) | ((with_reducible refine T.skip ?_); simp [*]) | ((with_reducible refine T.exit ?_); simp [*]) | ((with_reducible refine T.br fun K1 K2 hK1 hK2 => ?_); simp [*]; try ((refine Br.intro (fun hc => ?_) (fun hc => ?_)) <;> (try simp at hc))) | (with_reducible refine Cont.go (by assumption) _ ?_) | (with_reducible refine Cnt.go (by assumption) ?_))
          exact ⟨_, by omega, 1, rfl, rfl, by omega, [y], ⟨hL2', rfl⟩, by simp, _, ⟨by simp, rfl⟩, .inl rfl⟩
        · have hl3 : (∀ el : List V, el ∈ encL L → el.length = 3) = True := eq_true (encL_len3 L)
          have hll : (encL L).length = j := by rw [encL_length, hLj]
          have c4 : Hold (encL (L ++ [y]) = encL L ++ [[.int .i64 y.k, .int .i64 y.i, .sl (encL y.kids) .no]]) := by unfold Hold; rw [encL_append]; simp
          repeat' (first | (with_reducible refine T.sq fun K hK => ?_) | ((first | ((with_reducible refine T.reg hE ?hd ?_); (case hd => kernel_rfl)) | ((with_reducible refine T.any hE mixed ?hd ?hok ?_); (case hd => kernel_rfl); (case hok => kernel_rfl))); simp [*]; (repeat' (split; all_goals (rename_i hc; try simp [*])))) | ((with_reducible refine T.ret ?_); refine fin_pure ?_; simp [*]; try (change Hold _)) | (with_reducible refine T.block ?_) | ((with_reducible refine T.skip ?_); simp [*]) | ((with_reducible refine T.exit ?_); simp [*]) | ((with_reducible refine T.br fun K1 K2 hK1 hK2 => ?_); simp [*]; try ((refine Br.intro (fun hc => ?_) (fun hc => ?_)) <;> (try simp at hc))) | (with_reducible refine Cont.go (by assumption) _ ?_) | (with_reducible refine Cnt.go (by assumption) ?_))
          exact ⟨_, by omega, j + 1, rfl, by omega, by omega, L ++ [y], ⟨hL2', by simp [hLj]⟩, by simp, _, ⟨c4.symm, rfl⟩, .inl rfl⟩
      · have hcv : cnV (cnE e.kids[j] P N A) = .tup [enc ex0, .int .i64 51] := by rw [← hf, hy]; rfl
        have hn2 : Hold (cnE e p n A = none) := by unfold Hold at *; rw [hn, pcK, hno]; rfl
        clear hy hno hL hf hokp g9 hn
        repeat' (first | (with_reducible refine T.sq fun K hK => ?_) | ((first | ((with_reducible refine T.reg hE ?hd ?_); (case hd => kernel_rfl)) | ((with_reducible refine T.any hE mixed ?hd ?hok ?_); (case hd => kernel_rfl); (case hok => kernel_rfl))); simp [*]; (repeat' (split; all_goals (rename_i hc; try simp [*])))) | ((with_reducible refine T.ret ?_); refine fin_pure ?_; simp [*]; try (change Hold _)) | (with_reducible refine T.block ?_) | ((with_reducible refine T.skip ?_); simp [*]) | ((with_reducible refine T.exit ?_); simp [*]) | ((with_reducible refine T.br fun K1 K2 hK1 hK2 => ?_); simp [*]; try ((refine Br.intro (fun hc => ?_) (fun hc => ?_)) <;> (try simp at hc))) | (with_reducible refine Cont.go (by assumption) _ ?_) | (with_reducible refine Cnt.go (by assumption) ?_))
        all_goals (unfold Hold at *; rw [hn2]; rfl)
    · have w8 : j = e.kids.length := by omega
      have hn2 : Hold (cnE e p n A = some (.mk e.k I L)) := by unfold Hold at *; rw [w8, List.take_length] at hL; rw [hn, pcK, hL]; rfl
      clear hL hf hokp hn
      rcases g9 with ⟨rfl, rfl⟩ | ⟨hj0, id, rfl, hK⟩
      · repeat' (first | (with_reducible refine T.sq fun K hK => ?_) | ((first | ((with_reducible refine T.reg hE ?hd ?_); (case hd => kernel_rfl)) | ((with_reducible refine T.any hE mixed ?hd ?hok ?_); (case hd => kernel_rfl); (case hok => kernel_rfl))); simp [*]; (repeat' (split; all_goals (rename_i hc; try simp [*])))) | ((with_reducible refine T.ret ?_); refine fin_pure ?_; simp [*]; try (change Hold _)) | (with_reducible refine T.block ?_) | ((with_reducible refine T.skip ?_); simp [*]) | ((with_reducible refine T.exit ?_); simp [*]) | ((with_reducible refine T.br fun K1 K2 hK1 hK2 => ?_); simp [*]; try ((refine Br.intro (fun hc => ?_) (fun hc => ?_)) <;> (try simp at hc))) | (with_reducible refine Cont.go (by assumption) _ ?_) | (with_reducible refine Cnt.go (by assumption) ?_))
        all_goals (unfold Hold at *; rw [hn2]; simp [cnV])
      · repeat' (first | (with_reducible refine T.sq fun K hK => ?_) | ((first | ((with_reducible refine T.reg hE ?hd ?_); (case hd => kernel_rfl)) | ((with_reducible refine T.any hE mixed ?hd ?hok ?_); (case hd => kernel_rfl); (case hok => kernel_rfl))); simp [*]; (repeat' (split; all_goals (rename_i hc; try simp [*])))) | ((with_reducible refine T.ret ?_); refine fin_pure ?_; simp [*]; try (change Hold _)) | (with_reducible refine T.block ?_) | ((with_reducible refine T.skip ?_); simp [*]) | ((with_reducible refine T.exit ?_); simp [*]) | ((with_reducible refine T.br fun K1 K2 hK1 hK2 => ?_); simp [*]; try ((refine Br.intro (fun hc => ?_) (fun hc => ?_)) <;> (try simp at hc))) | (with_reducible refine Cont.go (by assumption) _ ?_) | (with_reducible refine Cnt.go (by assumption) ?_))
        all_goals (unfold Hold at *; rw [hn2]; simp [cnV])
  · cases hr
end Go.Proofs.YtaacfmakfkaddaaDoor.Ax
