/- Contracts: the bytes of expressions. -/
import Derived.Test.YtjjagophlcminaaBxI
import Derived.Test.YtjjagophlcminaaBxD
set_option linter.unusedVariables false
set_option linter.unusedSimpArgs false
namespace Go.Proofs.Ytjjagophlcminaa.Ax
open Go Go.Proofs

def headN (e : Ex) : Nat := (e.k * 16777216 + e.i * 256 + e.kids.length).toNat
mutual
def bytE : Ex → List Int
  | .mk k i l => sev (k * 16777216 + i * 256 + l.length).toNat ++ bytL l
def bytL : List Ex → List Int
  | [] => []
  | e :: l => bytE e ++ bytL l
end
theorem bytE_eq (e : Ex) : bytE e = sev (headN e) ++ bytL e.kids := by cases e; rw [bytE]; rfl
theorem bytL_take : ∀ (l : List Ex) (j : Nat) (h : j < l.length), bytL (l.take (j + 1)) = bytL (l.take j) ++ bytE l[j]
  | e :: l, 0, h => by simp [bytL]
  | e :: l, j + 1, h => by simp only [List.take_succ_cons, bytL, List.getElem_cons_succ]; rw [bytL_take l j (by simpa using h), List.append_assoc]
theorem sev_ne (n : Nat) : ∃ a l, sev n = a :: l := by
  by_cases h : 128 ≤ n
  · exact ⟨_, _, sev_ge h⟩
  · exact ⟨_, _, sev_lt (by omega)⟩
theorem bytE_ne (e : Ex) : ∃ a l, bytE e = a :: l := by
  obtain ⟨a, l, h⟩ := sev_ne (headN e)
  exact ⟨a, l ++ bytL e.kids, by rw [bytE_eq, h]; rfl⟩
/-- A node that may be: its head's parts fit. -/
theorem shaped_fits {e : Ex} (h : shapedX e = true) : 0 ≤ e.k ∧ e.k ≤ 255 ∧ 0 ≤ e.i ∧ e.i ≤ 65535 ∧ (0 : Int) ≤ e.kids.length ∧ (e.kids.length : Int) ≤ 255 := by
  unfold shapedX at h
  simp only [Bool.and_eq_true, decide_eq_true_eq] at h
  obtain ⟨⟨h1, h2⟩, h3⟩ := h
  unfold mostOf at h2
  have h4 : e.i ≤ 99 := by
    repeat' split at h2
    all_goals omega
  unfold kidsAre at h3
  repeat' split at h3
  all_goals first | (cases h3; done) | (simp only [Bool.and_eq_true, decide_eq_true_eq] at h3; omega)
theorem head_lt {e : Ex} (h : shapedX e = true) : headN e < 4294967296 := by have := shaped_fits h; unfold headN; omega
theorem sev_len5 {n : Nat} (h : n < 4294967296) : (sev n).length ≤ 5 := sev_len 4 n (Nat.lt_of_lt_of_le h (by decide))
mutual
theorem bytE_len : ∀ e : Ex, allX e = true → (bytE e).length ≤ 5 * cntE e
  | .mk k i l, h => by
    rw [allX_eq, Bool.and_eq_true] at h
    have h1 := sev_len5 (head_lt h.1)
    have h2 := bytL_len l (by simpa using h.2)
    rw [bytE_eq, List.length_append, cntE_eq]
    simp only [Ex.kids_mk] at *
    omega
theorem bytL_len : ∀ l : List Ex, (∀ e ∈ l, allX e = true) → (bytL l).length ≤ 5 * cntL l
  | [], h => by simp [bytL]
  | e :: l, h => by
    have h1 := bytE_len e (h e (by simp))
    have h2 := bytL_len l fun x hx => h x (by simp [hx])
    rw [bytL, cntL, List.length_append]; omega
end
@[simp] def gBytes : List V → Option V := f1 kE fun e => if allX e = true ∧ cntE e ≤ 1000 then some (.sl (encI .u8 (bytE e)) .no) else none
set_option maxHeartbeats 1000000 in
theorem ok_rBytes : PureOk Try.prog 66 gBytes := by
  refine rec1 fun e ih r hr => ?_
  split at hr
  · rename_i hm
    obtain ⟨hm1, hm2⟩ := hm
    cases hr
    have hE := ((((EnvOk.nil (P := Try.prog) (eq := fun _ => false) (own := fun f => f == 101) (mem := fun _ => false) EqOk.none).addf ok_rPack).addf ih).addo own_rPut)
    refine ⟨⟨Try.f66, Try.func66, by decide, rfl⟩, pure_of_T Try.func66 rfl (by simp [Try.ntmps66]) fun q => ?_⟩
    have hs0 : shapedX e = true := by rw [allX_eq, Bool.and_eq_true] at hm1; exact hm1.1
    have hf := shaped_fits hs0
    have hp : packV e.k e.i e.kids.length = .tup [.int .u32 (e.k * 16777216 + e.i * 256 + e.kids.length), .int .i64 0] := by unfold packV; rw [if_pos hf]
    have hh := head_lt hs0
    have he : ((headN e : Nat) : Int) = e.k * 16777216 + e.i * 256 + e.kids.length := by unfold headN; omega
    have hu : IntKind.u64.wrap (e.k * 16777216 + e.i * 256 + e.kids.length) = headN e := by rw [← he]; exact wrap64u (by omega)
    clear he
    have hu2 : isU64 (headN e) := ⟨by omega, by omega⟩
    have hl5 := sev_len5 hh
    repeat' (first
      | (with_reducible refine T.sq fun K hK => ?_)
      | ((first | ((with_reducible refine T.reg hE ?hd ?_); (case hd => kernel_rfl)) | ((with_reducible refine T.any hE mixed ?hd ?hok ?_); (case hd => kernel_rfl); (case hok => kernel_rfl))); simp [*]; (repeat' (split; all_goals (rename_i hc; try simp [*]))))
      | ((with_reducible refine T.ret ?_); refine fin_pure ?_; simp [*]; try (change Hold _))
      | (with_reducible refine T.block ?_)
      | ((with_reducible refine T.skip ?_); simp [*])
      | ((with_reducible refine T.exit ?_); simp [*])
      | ((with_reducible refine T.br fun K1 K2 hK1 hK2 => ?_); simp [*]; try ((refine Br.intro (fun hc => ?_) (fun hc => ?_)) <;> (try simp at hc)))
      | (with_reducible refine Cont.go (by assumption) _ ?_)
      | (with_reducible refine Cnt.go (by assumption) ?_))
    refine T.len (t := 24) (els := encL e.kids) (tk := .no) (by simp [*]) fun hlen => ?_
    rw [encL_length] at hlen
    refine T.loop (fun n σ => ∃ (j c d : Nat), n = e.kids.length - j ∧ σ.get 24 = .sl (encL e.kids) .no ∧ σ.get 25 = .int .i64 e.kids.length ∧ σ.get 26 = .int .i64 j ∧ j ≤ e.kids.length ∧ σ.get 5 = .sl (encI .u8 (sev (headN e) ++ bytL (e.kids.take j))) (.own (c :: d :: q) 1) ∧ σ.K (c :: d :: q) = true) e.kids.length ⟨0, 0, 24, by simp [*, bytL]⟩ ?_
    rintro n σ ⟨j, c, d, rfl, g1, g2, g3, g4, g5, g6⟩
    by_cases hj : j < e.kids.length
    · have hw := wrap_succ hlen hj
      have hs := ex_kid_lt e j hj
      have k1 := allX_kid hm1 j hj
      have k2 := cntE_kid j hj
      have k3 : cntE e.kids[j] ≤ 1000 := by omega
      have l1 := bytE_len _ k1
      have l2 := bytL_len (e.kids.take j) fun x hx => by rw [allX_eq, Bool.and_eq_true, List.all_eq_true] at hm1; exact hm1.2 x (List.mem_of_mem_take hx)
      have c3 : Hold (bytL (e.kids.take (j + 1)) = bytL (e.kids.take j) ++ bytE e.kids[j]) := bytL_take e.kids j hj
      obtain ⟨x, xs, hx⟩ := bytE_ne e.kids[j]
      have hcap : (sev (headN e)).length + (bytL (e.kids.take j)).length + (xs.length + 1) ≤ 140737488355328 := by
        rw [hx] at l1; simp at l1; omega
      repeat' (first
        | (with_reducible refine T.sq fun K hK => ?_)
        | ((first | ((with_reducible refine T.reg hE ?hd ?_); (case hd => kernel_rfl)) | ((with_reducible refine T.any hE mixed ?hd ?hok ?_); (case hd => kernel_rfl); (case hok => kernel_rfl))); simp [*]; (repeat' (split; all_goals (rename_i hc; try simp [*]))))
        | ((with_reducible refine T.ret ?_); refine fin_pure ?_; simp [*]; try (change Hold _))
        | (with_reducible refine T.block ?_)
        | ((with_reducible refine T.skip ?_); simp [*])
        | ((with_reducible refine T.exit ?_); simp [*])
        | ((with_reducible refine T.br fun K1 K2 hK1 hK2 => ?_); simp [*]; try ((refine Br.intro (fun hc => ?_) (fun hc => ?_)) <;> (try simp at hc)))
        | (with_reducible refine Cont.go (by assumption) _ ?_)
        | (with_reducible refine Cnt.go (by assumption) ?_))
      refine ⟨e.kids.length - (j + 1), by omega, j + 1, rfl, by omega, by omega, _, _, ⟨?_, rfl, rfl⟩, .inl ⟨rfl, rfl⟩⟩
      unfold Hold at c3
      rw [c3, hx, ← List.append_assoc, encI_append _ (sev (headN e) ++ _), encI_cons]
    · have w8 : j = e.kids.length := by omega
      subst w8
      rw [List.take_length] at g5
      repeat' (first
        | (with_reducible refine T.sq fun K hK => ?_)
        | ((first | ((with_reducible refine T.reg hE ?hd ?_); (case hd => kernel_rfl)) | ((with_reducible refine T.any hE mixed ?hd ?hok ?_); (case hd => kernel_rfl); (case hok => kernel_rfl))); simp [*]; (repeat' (split; all_goals (rename_i hc; try simp [*]))))
        | ((with_reducible refine T.ret ?_); refine fin_pure ?_; simp [*]; try (change Hold _))
        | (with_reducible refine T.block ?_)
        | ((with_reducible refine T.skip ?_); simp [*])
        | ((with_reducible refine T.exit ?_); simp [*])
        | ((with_reducible refine T.br fun K1 K2 hK1 hK2 => ?_); simp [*]; try ((refine Br.intro (fun hc => ?_) (fun hc => ?_)) <;> (try simp at hc)))
        | (with_reducible refine Cont.go (by assumption) _ ?_)
        | (with_reducible refine Cnt.go (by assumption) ?_))
      unfold Hold; rw [bytE_eq]
  · cases hr
end Go.Proofs.Ytjjagophlcminaa.Ax
