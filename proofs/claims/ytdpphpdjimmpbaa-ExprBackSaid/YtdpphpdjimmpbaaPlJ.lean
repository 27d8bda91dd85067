/- Plain law: what was written is read back. -/
import Derived.Test.YtdpphpdjimmpbaaCxJ
set_option linter.unusedVariables false
set_option linter.unusedSimpArgs false
namespace Go.Proofs.Ytdpphpdjimmpbaa.Ax
open Go Go.Proofs

theorem get_of_sev (r : List Int) : ∀ (k n i m : Nat), n < 128 ^ (k + 1) → i + k ≤ 8 → (0 < i → 1 ≤ n) → getS (sev n ++ r) i m = (m + n * 128 ^ i, i + (sev n).length, 0)
  | k, n, i, m, h, hi, h1 => by
    by_cases c : 128 ≤ n
    · rw [sev_ge c, List.cons_append, getS, if_neg (by omega), if_neg (by omega)]
      cases k with
      | zero => omega
      | succ k =>
        have e : ((n : Int) % 128 + 128).toNat % 128 = n % 128 := by omega
        rw [e, get_of_sev r k (n / 128) (i + 1) _ (Nat.div_lt_of_lt_mul (by rw [Nat.pow_succ, Nat.mul_comm] at h; exact h)) (by omega) (by omega)]
        have e2 : m + n % 128 * 128 ^ i + n / 128 * 128 ^ (i + 1) = m + n * 128 ^ i := by
          have : n = n % 128 + n / 128 * 128 := by omega
          rw [Nat.pow_succ, Nat.add_assoc]
          congr 1
          calc n % 128 * 128 ^ i + n / 128 * (128 ^ i * 128) = (n % 128 + n / 128 * 128) * 128 ^ i := by
                rw [Nat.add_mul, Nat.mul_assoc, Nat.mul_comm 128 (128 ^ i)]
            _ = n * 128 ^ i := by rw [← this]
        rw [e2, List.length_cons]
        simp; omega
    · rw [sev_lt (by omega), List.cons_append, getS, if_neg (by omega), if_pos (by omega), if_neg (by omega)]
      simp
theorem rdK_of {d : Bool} {b : List Int} {g : Nat → Nat → Int × Ex × Nat × Nat} : ∀ (l : List Ex) (r : List Int) (p s : Nat), (∀ e ∈ l, ∀ (r : List Int) (p s : Nat), b.drop p = bytE e ++ r → s + cntE e ≤ 1000 → g p s = (0, e, p + (bytE e).length, s + cntE e)) →
    b.drop p = bytL l ++ r → s + cntL l ≤ 1000 → rdK d g l.length p s = (0, l, p + (bytL l).length, s + cntL l)
  | [], r, p, s, _, h, hs => by simp [rdK, bytL, cntL]
  | e :: l, r, p, s, hg, h, hs => by
    rw [bytL, List.append_assoc] at h
    rw [cntL] at hs
    have h1 := hg e (by simp) _ p s h (by omega)
    have h2 : b.drop (p + (bytE e).length) = bytL l ++ r := by rw [← List.drop_drop, h, List.drop_left]
    have h3 := rdK_of (d := d) l r _ (s + cntE e) (fun x hx => hg x (by simp [hx])) h2 (by omega)
    rw [List.length_cons, rdK, h1]
    simp only
    rw [h3, if_neg (by simp)]
    simp [bytL, cntL]; omega
theorem head_parts {e : Ex} (h : shapedX e = true) : ((headN e / 16777216 : Nat) : Int) = e.k ∧ ((headN e / 256 % 65536 : Nat) : Int) = e.i ∧ headN e % 256 = e.kids.length := by
  have := shaped_fits h
  unfold headN
  omega
theorem rdE_of (d : Bool) (b : List Int) : ∀ (f : Nat) (e : Ex) (r : List Int) (p s : Nat), allX e = true → depE e ≤ f → b.drop p = bytE e ++ r → s + cntE e ≤ 1000 → rdE d b f p s = (0, e, p + (bytE e).length, s + cntE e)
  | 0, e, r, p, s, _, hd, _, _ => by have := depE_pos e; omega
  | f + 1, e, r, p, s, ha, hd, h, hs => by
    have ha' := ha
    rw [allX_eq, Bool.and_eq_true] at ha'
    have hh := head_lt ha'.1
    have hg : getS (b.drop p) 0 0 = (headN e, (sev (headN e)).length, 0) := by
      rw [h, bytE_eq, List.append_assoc, get_of_sev _ 4 (headN e) 0 0 (Nat.lt_of_lt_of_le hh (by decide)) (by omega) (by omega)]
      simp
    obtain ⟨p1, p2, p3⟩ := head_parts ha'.1
    rw [cntE_eq] at hs
    have h2 : b.drop (p + (sev (headN e)).length) = bytL e.kids ++ r := by rw [← List.drop_drop, h, bytE_eq, List.append_assoc, List.drop_left]
    have hk := rdK_of (d := d) (b := b) (g := rdE d b f) e.kids r (p + (sev (headN e)).length) (s + 1) (fun x hx r p s h1 h2 => rdE_of d b f x r p s (allX_kids ha x hx) (by
      obtain ⟨j, hj, rfl⟩ := List.getElem_of_mem hx
      have := depE_kid (e := e) j hj
      omega) h1 h2) h2 (by omega)
    rw [rdE, if_neg (by omega), hg]
    simp only
    rw [if_neg (by simp), if_neg (by omega), p3, hk]
    unfold rdH
    simp only
    rw [if_neg (by simp), p1, p2, bytE_eq, List.length_append, cntE_eq, Ex.eta]
    congr 3 <;> omega
theorem dec_bytE {a : Ex} (h : rightE a = 0) : decErr (bytE a) = 0 ∧ decX (bytE a) = a := by
  obtain ⟨h1, h2, h3⟩ := right_zero h
  rw [nodesN_eq] at h1
  have := rdE_of false (bytE a) 1001 a [] 0 0 h3 (by omega) (by simp) (by omega)
  have he : decErr (bytE a) = 0 := by
    rw [decErr_eq, this]
    simp only
    rw [if_neg (by simp), if_neg (by omega)]; exact h
  refine ⟨he, ?_⟩
  rw [dec_good he]
  unfold decR
  rw [this]
theorem sev_byt : ∀ (k n : Nat), n < 128 ^ (k + 1) → byt (sev n)
  | k, n, h => by
    by_cases c : 128 ≤ n
    · rw [sev_ge c]
      cases k with
      | zero => omega
      | succ k =>
        intro x hx
        rcases List.mem_cons.1 hx with rfl | hx
        · omega
        · exact sev_byt k (n / 128) (Nat.div_lt_of_lt_mul (by rw [Nat.pow_succ, Nat.mul_comm] at h; exact h)) x hx
    · rw [sev_lt (by omega)]
      intro x hx
      obtain rfl : x = n := by simpa using hx
      omega
mutual
theorem bytE_byt : ∀ e : Ex, allX e = true → byt (bytE e)
  | .mk k i l, h => by
    rw [allX_eq, Bool.and_eq_true] at h
    have hh := head_lt h.1
    rw [bytE_eq]
    intro x hx
    rcases List.mem_append.1 hx with hx | hx
    · exact sev_byt 4 _ (Nat.lt_of_lt_of_le hh (by decide)) x hx
    · exact bytL_byt l (by simpa using h.2) x hx
theorem bytL_byt : ∀ l : List Ex, (∀ e ∈ l, allX e = true) → byt (bytL l)
  | [], h => fun x hx => by simp [bytL] at hx
  | e :: l, h => fun x hx => by
    rw [bytL] at hx
    rcases List.mem_append.1 hx with hx | hx
    · exact bytE_byt e (h e (by simp)) x hx
    · exact bytL_byt l (fun y hy => h y (by simp [hy])) x hx
end
mutual
theorem ord_eq : ∀ (a b : Ex), ordE a b = 0 → a = b
  | .mk k i l, .mk k' i' l', h => by
    rw [ordE_hd] at h
    split at h
    · rename_i c; exact absurd h c
    · rename_i c
      have c : hd3 (.mk k i l) (.mk k' i' l') = 0 := by omega
      have hl := hd3_len c
      have z : k = k' ∧ i = i' := by
        have h1 := ordI_zero k k'
        have h2 := ordI_zero i i'
        unfold hd3 at c
        simp only [Ex.k_mk, Ex.i_mk] at c
        by_cases e1 : ordI k k' = 0 <;> by_cases e2 : ordI i i' = 0 <;> simp [e1, e2] at c <;> exact ⟨h1.1 e1, h2.1 e2⟩
      simp only [Ex.kids_mk] at hl h
      rw [z.1, z.2, ord_eqL l l' hl h]
theorem ord_eqL : ∀ (l m : List Ex), l.length = m.length → ordL l m = 0 → l = m
  | [], [], _, _ => rfl
  | a :: l, b :: m, hl, h => by
    rw [ordL] at h
    split at h
    · rename_i c; exact absurd h c
    · rename_i c
      rw [ord_eq a b (by omega), ord_eqL l m (by simpa using hl) h]
end
/-- Bytes as a string's. -/
theorem bytes_inj : ∀ (b c : List Int), byt b → byt c → (encI .u8 b).map byteV = (encI .u8 c).map byteV → b = c
  | [], [], _, _, _ => rfl
  | [], y :: c, _, _, h => by simp [encI] at h
  | x :: b, [], _, _, h => by simp [encI] at h
  | x :: b, y :: c, h1, h2, h => by
    simp only [encI, List.map_cons, List.cons.injEq] at h
    obtain ⟨hx, hr⟩ := h
    have x1 := h1 x (by simp)
    have y1 := h2 y (by simp)
    have e : x = y := by
      simp only [byteV] at hx
      have := congrArg UInt8.toNat hx
      simp only [UInt8.toNat_ofNat'] at this
      omega
    rw [e, bytes_inj b c (fun z hz => h1 z (by simp [hz])) (fun z hz => h2 z (by simp [hz])) (by simpa [encI] using hr)]
end Go.Proofs.Ytdpphpdjimmpbaa.Ax
