/- Contracts: bytes are read, by the program. -/
import Derived.Test.YtdpphpdjimmpbaaCxH
set_option linter.unusedVariables false
set_option linter.unusedSimpArgs false
namespace Go.Proofs.Ytdpphpdjimmpbaa.Ax
open Go Go.Proofs

def okNd (f : Nat) (b : List Int) (els : List (List V)) (ri i : Path) (s : Int) : Prop := i = ri ∧ byt b ∧ (∃ p, p ≤ b.length ∧ els = encI .u8 (b.drop p)) ∧ 0 ≤ s ∧ s ≤ 1000 ∧ 1001 ≤ (f : Int) + s
noncomputable instance (f : Nat) (b : List Int) (els : List (List V)) (ri i : Path) (s : Int) : Decidable (okNd f b els ri i s) := Classical.propDecidable _
def ndV (r : Int × Ex × Nat × Nat) : V := .tup [enc r.2.1, .int .i64 r.1]
def ndB (b : List Int) (r : Int × Ex × Nat × Nat) : Option Box := some (.cells [.sl (encI .u8 (b.drop r.2.2.1)) .no, .int .i64 (r.2.2.2 : Nat)])
@[simp] theorem ndV_mk (e : Int) (x : Ex) (p s : Nat) : ndV (e, x, p, s) = .tup [enc x, .int .i64 e] := rfl
@[simp] theorem ndB_mk (b : List Int) (e : Int) (x : Ex) (p s : Nat) : ndB b (e, x, p, s) = some (.cells [.sl (encI .u8 (b.drop p)) .no, .int .i64 (s : Nat)]) := rfl
theorem enc_ex0 : enc ex0 = .agg [.int .i64 0, .int .i64 0, .sl [] .no] := rfl
@[simp] noncomputable def mNode (f : Nat) (b : List Int) (ri : Path) : Path → List V → Mem → Toks → Option (V × Mem × Toks) := fun _ args M K => match args with
  | [.ptr i 0] => match M ri with
    | some (.cells [.sl els .no, .int .i64 s]) => if okNd f b els ri i s then some (ndV (rdE true b f (b.length - els.length) s.toNat), upd M ri (ndB b (rdE true b f (b.length - els.length) s.toNat)), K) else none
    | _ => none
  | _ => none
set_option maxHeartbeats 2000000 in
theorem ok_node {b : List Int} {ri : Path} : ∀ f, MemOk Try.prog 71 (mNode f b ri) := by
  intro f
  induction f with
  | zero =>
    intro q args M K0 x M' K' h
    simp only [mNode] at h
    split at h
    · split at h
      · split at h
        · rename_i hok
          obtain ⟨_, _, _, _, h1, h2⟩ := hok
          omega
        · cases h
      · cases h
    · cases h
  | succ f ih =>
    intro q args M K0 x M' K' h
    simp only [mNode] at h
    split at h
    · rename_i i
      split at h
      · rename_i els s hM
        split at h
        · rename_i hok
          obtain ⟨rfl, m1, ⟨p, hp, rfl⟩, m4, m5, m6⟩ := hok
          obtain ⟨s, rfl⟩ := Int.eq_ofNat_of_zero_le m4
          simp only [Option.some.injEq, Prod.mk.injEq] at h
          obtain ⟨rfl, rfl, rfl⟩ := h
          have hpp : b.length - (encI .u8 (b.drop p)).length = p := by rw [encI_length, List.length_drop]; omega
          rw [hpp, Int.toNat_natCast]
          refine ⟨⟨Try.f71, Try.func71, by decide, rfl⟩, fun id hid hn => ?_, ?_⟩
          · have : id ≠ i := fun e => by subst e; rw [hn] at hM; cases hM
            rw [upd_ne _ _ this]; exact hn
          have hE := ((((EnvOk.nil (P := Try.prog) (eq := fun _ => false) (own := fun _ => false) (mem := fun f => f == 71) EqOk.none).addf ok_wGet).addf ok_wUnpack).addm ih)
          have hr1 : List.range 1 = [0] := rfl
          refine ctr_of_T Try.func71 rfl (by simp [Try.ntmps71]) fun hMq hKq => ?_
          have hq := not_own hMq (id := i) (by rw [hM]; simp)
          have e0k : ex0.k = 0 := rfl
          have e0i : ex0.i = 0 := rfl
          have e0l : encL ex0.kids = [] := rfl
          have hq2 : ∀ c d, ¬ c :: d :: q = i := fun c d e => hq c d e.symm
          have hrd0 : rdE true b (f + 1) p s = _ := rdE.eq_2 true b p s f
          by_cases c1 : 1000 ≤ s
          · have hrd : rdE true b (f + 1) p s = (20, ex0, p, s) := by rw [hrd0, if_pos c1]
            have c1i : (1000 : Int) ≤ (s : Int) := by omega
            clear hrd0
            repeat' (first
              | (with_reducible refine T.sq fun K hK => ?_)
              | ((first | ((with_reducible refine T.reg hE ?hd ?_); (case hd => kernel_rfl)) | ((with_reducible refine T.any hE mixed ?hd ?hok ?_); (case hd => kernel_rfl); (case hok => kernel_rfl))); simp [*]; (repeat' (split; all_goals (rename_i hc; try simp [*]))))
              | ((with_reducible refine T.ret ?_); (refine fin_mem (by simp [*]) ?_ ?_))
              | (with_reducible refine T.block ?_)
              | ((with_reducible refine T.skip ?_); simp [*])
              | ((with_reducible refine T.exit ?_); simp [*])
              | ((with_reducible refine T.br fun K1 K2 hK1 hK2 => ?_); simp [*]; try ((refine Br.intro (fun hc => ?_) (fun hc => ?_)) <;> (try simp at hc)))
              | (with_reducible refine Cont.go (by assumption) _ ?_)
              | (with_reducible refine Cnt.go (by assumption) ?_))
            · intro id hid
              by_cases e1 : id = i
              · subst e1; simp [hrd, hM, hq]
              · have hm : M id ≠ none := by rwa [upd_ne _ _ e1] at hid
                have hn := not_own hMq hm
                simp [e1, hn]
            · intro u hu; simpa using hu
          · have c1i : ¬ (1000 : Int) ≤ (s : Int) := by omega
            rw [if_neg c1] at hrd0
            have hbd := byt_drop m1 p
            have hgl := get_len (b.drop p) 0 0
            have hgt := getS_lt (b.drop p) 0 0 hbd (by omega) (by omega)
            rw [List.length_drop] at hgl
            have hgv : getV (b.drop p) = _ := get_ext rfl
            have w0 : IntKind.i64.wrap ((s : Int) + 1) = (s : Int) + 1 := wrap64 (by omega) (by omega)
            have htk : List.take (b.length - p) (encI .u8 (b.drop p)) = encI .u8 (b.drop p) := List.take_of_length_le (by rw [encI_length, List.length_drop]; omega)
            generalize hG : getS (b.drop p) 0 0 = G at *
            obtain ⟨h, k, e⟩ := G
            simp only at hrd0 hgl hgt hgv
            clear hG
            by_cases c2 : e = 0
            · subst c2
              obtain ⟨k1, k2⟩ := hgl rfl
              rw [if_neg (by simp)] at hrd0
              by_cases c3 : 4294967295 < h
              · have hrd : rdE true b (f + 1) p s = (11, ex0, p, s + 1) := by rw [hrd0, if_pos c3]; rfl
                obtain ⟨h2, hh2⟩ : ∃ h2, h2 = h % 4294967296 := ⟨_, rfl⟩
                have w1 : IntKind.u32.wrap (h : Int) = (h2 : Int) := by rw [wrapU_mod rfl, hh2]; rfl
                have w2 : IntKind.u64.wrap (h2 : Int) = (h2 : Int) := wrap64u (by omega)
                have w3 : ¬ (h : Int) = (h2 : Int) := by omega
                have w4 : ¬ h = h2 := by omega
                clear hrd0 hh2
                repeat' (first
                  | (with_reducible refine T.sq fun K hK => ?_)
                  | ((first | ((with_reducible refine T.reg hE ?hd ?_); (case hd => kernel_rfl)) | ((with_reducible refine T.any hE mixed ?hd ?hok ?_); (case hd => kernel_rfl); (case hok => kernel_rfl))); simp [*]; (repeat' (split; all_goals (rename_i hc; try simp [*]))))
                  | ((with_reducible refine T.ret ?_); (refine fin_mem (by simp [*]) ?_ ?_))
                  | (with_reducible refine T.block ?_)
                  | ((with_reducible refine T.skip ?_); simp [*])
                  | ((with_reducible refine T.exit ?_); simp [*])
                  | ((with_reducible refine T.br fun K1 K2 hK1 hK2 => ?_); simp [*]; try ((refine Br.intro (fun hc => ?_) (fun hc => ?_)) <;> (try simp at hc)))
                  | (with_reducible refine Cont.go (by assumption) _ ?_)
                  | (with_reducible refine Cnt.go (by assumption) ?_))
                · intro id hid
                  by_cases e1 : id = i
                  · subst e1; simp [hrd, hM, hq]
                  · have hm : M id ≠ none := by rwa [upd_ne _ _ e1] at hid
                    have hn := not_own hMq hm
                    simp [e1, hn]
                · intro u hu; simpa using hu
              · have c3i : ¬ (4294967295 : Int) < (h : Int) := by omega
                rw [if_neg c3] at hrd0
                have w1 : IntKind.u32.wrap (h : Int) = h := wrapU rfl (by simp [IntKind.bits]; omega)
                have w2 : IntKind.u64.wrap (h : Int) = h := wrap64u (by omega)
                have hu : isU32 (h : Int) := ⟨by omega, by omega⟩
                obtain ⟨A, hA⟩ : ∃ A, A = h / 16777216 := ⟨_, rfl⟩
                obtain ⟨B, hB⟩ : ∃ B, B = h / 256 % 65536 := ⟨_, rfl⟩
                obtain ⟨C, hC⟩ : ∃ C, C = h % 256 := ⟨_, rfl⟩
                have hun : unpV h = .tup [.int .i64 A, .int .i64 B, .int .i64 C] := by unfold unpV; rw [← hA, ← hB, ← hC]
                have hC2 : C < 256 := by omega
                obtain ⟨p0, hp0⟩ : ∃ p0, p0 = p + k := ⟨_, rfl⟩
                have hpb : p0 ≤ b.length := by omega
                have hkk : k ≤ b.length - p := by omega
                have hdr2 : List.drop k (encI .u8 (b.drop p)) = encI .u8 (b.drop p0) := by rw [encI_drop, List.drop_drop, hp0]
                rw [← hC, ← hp0] at hrd0
                have hfin : Hold (∀ r, rdK true (rdE true b f) C p0 (s + 1) = r → r.1 ≠ 0 → rdE true b (f + 1) p s = (r.1, ex0, r.2.2.1, r.2.2.2)) := fun r h1 h2 => by
                  rw [hrd0, h1]; unfold rdH; rw [if_pos h2]
                have hfin2 : Hold (∀ r, rdK true (rdE true b f) C p0 (s + 1) = r → r.1 = 0 → rdE true b (f + 1) p s = (0, .mk A B r.2.1, r.2.2.1, r.2.2.2)) := fun r h1 h2 => by
                  rw [hrd0, h1]; unfold rdH; rw [if_neg (by simpa using h2), ← hA, ← hB]
                clear hrd0 hA hB hC hp0 k2 hgl
                repeat' (first
                  | (with_reducible refine T.sq fun K hK => ?_)
                  | ((first | ((with_reducible refine T.reg hE ?hd ?_); (case hd => kernel_rfl)) | ((with_reducible refine T.any hE mixed ?hd ?hok ?_); (case hd => kernel_rfl); (case hok => kernel_rfl))); simp [*]; (repeat' (split; all_goals (rename_i hc; try simp [*]))))
                  | ((with_reducible refine T.ret ?_); (refine fin_mem (by simp [*]) ?_ ?_))
                  | (with_reducible refine T.block ?_)
                  | ((with_reducible refine T.skip ?_); simp [*])
                  | ((with_reducible refine T.exit ?_); simp [*])
                  | ((with_reducible refine T.br fun K1 K2 hK1 hK2 => ?_); simp [*]; try ((refine Br.intro (fun hc => ?_) (fun hc => ?_)) <;> (try simp at hc)))
                  | (with_reducible refine Cont.go (by assumption) _ ?_)
                  | (with_reducible refine Cnt.go (by assumption) ?_))
                refine T.loop (fun n σ => ∃ (j p1 s1 : Nat) (L : List Ex) (w : V), n = C - j ∧ σ.get 0 = .ptr i 0 ∧ σ.M i = some (.cells [.sl (encI .u8 (b.drop p1)) .no, .int .i64 s1]) ∧ σ.get 64 = .int .i64 C ∧ σ.get 65 = .int .i64 j ∧ σ.get 2 = .ptr (0 :: 4 :: q) 0 ∧ σ.get 10 = .ptr (0 :: 12 :: q) 0 ∧ σ.M (0 :: 12 :: q) = some (.cells [.int .i64 A, .int .i64 B, w]) ∧ (∃ x, σ.M (0 :: 4 :: q) = some (.cells [.int .i64 0, .int .i64 0, x])) ∧ (∀ id, ¬ q <:+ id → id ≠ i → σ.M id = M id) ∧ (∀ t, K0 t = true → σ.K t = true) ∧ j ≤ C ∧ L.length = j ∧ p1 ≤ b.length ∧ s + 1 ≤ s1 ∧ s1 ≤ 1000 ∧ Hold ((j = 0 ∧ w = .nils) ∨ (0 < j ∧ ∃ c d, w = .sl (encL L) (.own (c :: d :: q) 3) ∧ σ.K (c :: d :: q) = true)) ∧ Hold (rdK true (rdE true b f) C p0 (s + 1) = joinR L (rdK true (rdE true b f) (C - j) p1 s1))) C ⟨0, p0, s + 1, [], .nils, by simp, by simp [*], by simp [*], by simp [*], by simp [*], by simp [*], by simp [*], by simp [*], by simp [*], ?_, by simp, by omega, rfl, hpb, by omega, by omega, by simp [Hold], by simp [Hold, joinR]⟩ ?_
                · intro id h1 h2
                  have hn : ∀ c d, ¬ id = c :: d :: q := fun c d e => h1 (by rw [e]; exact own_suf q c d)
                  simp [hn, h2]
                rintro n σ ⟨j, p1, s1, L, w, rfl, g0, gM, g4, g5, g6, g7, g8, ⟨z, g9⟩, gF, gK, g10, g11, g12, g13, g14, g15, g16⟩
                have hkq : ∀ t c d, K0 t = true → ¬ t = c :: d :: q := fun t c d ht e => by
                  have := hKq t (by rw [e]; exact own_suf q c d)
                  rw [this] at ht; cases ht
                clear hM
                by_cases hj : j < C
                · have hw := wrap_succ (n := C) (by omega) hj
                  obtain ⟨m, hm⟩ : ∃ m, C - j = m + 1 := ⟨C - j - 1, by omega⟩
                  have hok : okNd f b (encI .u8 (b.drop p1)) i i s1 := ⟨rfl, m1, ⟨p1, g12, rfl⟩, by omega, by omega, by omega⟩
                  have hpp1 : b.length - (b.length - p1) = p1 := by omega
                  have hin := rdE_in true b f p1 s1 g12 g14
                  have hK := rdK.eq_2 true (rdE true b f) p1 s1 m
                  unfold Hold at g16
                  rw [hm] at g16
                  generalize hR : rdE true b f p1 s1 = R at *
                  obtain ⟨e1, x1, p2, s2⟩ := R
                  simp only at hin hK
                  by_cases c4 : e1 = 0
                  · subst c4
                    rw [if_neg (by simp)] at hK
                    have hn : Hold (rdK true (rdE true b f) C p0 (s + 1) = joinR (L ++ [x1]) (rdK true (rdE true b f) (C - (j + 1)) p2 s2)) := by
                      unfold Hold
                      have : C - (j + 1) = m := by omega
                      rw [this, g16, hK]; unfold joinR; simp
                    have u2 : (j + 1) * 40 ≤ 140737488355328 := by omega
                    have hl2 : (L ++ [x1]).length = j + 1 := by simp [g11]
                    clear g16 hK hm hfin hfin2 hgv hun hpp
                    rcases g15 with ⟨q1, rfl⟩ | ⟨q1, c, d, rfl, hKK⟩
                    · have hL : L = [] := List.eq_nil_of_length_eq_zero (by omega)
                      subst hL
                      subst q1
                      have hCi : (0 : Int) < (C : Int) := by omega
                      have hw1 : IntKind.i64.wrap 1 = ((1 : Nat) : Int) := wrap64 (by omega) (by omega)
                      clear hw
                      repeat' (first
                        | (with_reducible refine T.sq fun K hK => ?_)
                        | ((first | ((with_reducible refine T.reg hE ?hd ?_); (case hd => kernel_rfl)) | ((with_reducible refine T.any hE mixed ?hd ?hok ?_); (case hd => kernel_rfl); (case hok => kernel_rfl))); simp [*]; (repeat' (split; all_goals (rename_i hc; try simp [*]))))
                        | ((with_reducible refine T.ret ?_); (refine fin_mem (by simp [*]) ?_ ?_))
                        | (with_reducible refine T.block ?_)
                        | ((with_reducible refine T.skip ?_); simp [*])
                        | ((with_reducible refine T.exit ?_); simp [*])
                        | ((with_reducible refine T.br fun K1 K2 hK1 hK2 => ?_); simp [*]; try ((refine Br.intro (fun hc => ?_) (fun hc => ?_)) <;> (try simp at hc)))
                        | (with_reducible refine Cont.go (by assumption) _ ?_)
                        | (with_reducible refine Cnt.go (by assumption) ?_))
                      refine ⟨C - 1, by omega, 1, rfl, p2, s2, ⟨rfl, rfl⟩, rfl, ?_, fun t ht => .inr (gK t ht), by omega, [x1], rfl, hin.1, by omega, hin.2.2, ⟨by omega, _, _, ⟨by simp [encL, encC_eq], rfl, rfl⟩, .inl ⟨rfl, rfl⟩⟩, hn⟩
                      · intro id h1 h2
                        have hnn : ∀ c d, ¬ id = c :: d :: q := fun c d e => h1 (by rw [e]; exact own_suf q c d)
                        rw [if_neg (hnn _ _), if_neg (hnn _ _), if_neg (hnn _ _), if_neg h2]; exact gF id h1 h2
                    · repeat' (first
                        | (with_reducible refine T.sq fun K hK => ?_)
                        | ((first | ((with_reducible refine T.reg hE ?hd ?_); (case hd => kernel_rfl)) | ((with_reducible refine T.any hE mixed ?hd ?hok ?_); (case hd => kernel_rfl); (case hok => kernel_rfl))); simp [*]; (repeat' (split; all_goals (rename_i hc; try simp [*]))))
                        | ((with_reducible refine T.ret ?_); (refine fin_mem (by simp [*]) ?_ ?_))
                        | (with_reducible refine T.block ?_)
                        | ((with_reducible refine T.skip ?_); simp [*])
                        | ((with_reducible refine T.exit ?_); simp [*])
                        | ((with_reducible refine T.br fun K1 K2 hK1 hK2 => ?_); simp [*]; try ((refine Br.intro (fun hc => ?_) (fun hc => ?_)) <;> (try simp at hc)))
                        | (with_reducible refine Cont.go (by assumption) _ ?_)
                        | (with_reducible refine Cnt.go (by assumption) ?_))
                      refine ⟨C - (j + 1), by omega, j + 1, rfl, p2, s2, ⟨rfl, rfl⟩, by omega, ?_, fun t ht => .inr ⟨hkq t _ _ ht, gK t ht⟩, by omega, L ++ [x1], hl2, hin.1, by omega, hin.2.2, ⟨by omega, _, _, ⟨by rw [encL_append]; simp [encL, encC_eq], rfl, rfl⟩, .inl ⟨rfl, rfl⟩⟩, hn⟩
                      · intro id h1 h2
                        have hnn : ∀ c d, ¬ id = c :: d :: q := fun c d e => h1 (by rw [e]; exact own_suf q c d)
                        rw [if_neg (hnn _ _), if_neg (hnn _ _), if_neg (hnn _ _), if_neg h2]; exact gF id h1 h2
                  · rw [if_pos c4] at hK
                    have hrd : rdE true b (f + 1) p s = (e1, ex0, p2, s2) := hfin (joinR L (e1, [], p2, s2)) (g16.trans (by rw [hK]; rfl)) c4
                    clear g16 hK hm hfin hfin2 g15
                    repeat' (first
                      | (with_reducible refine T.sq fun K hK => ?_)
                      | ((first | ((with_reducible refine T.reg hE ?hd ?_); (case hd => kernel_rfl)) | ((with_reducible refine T.any hE mixed ?hd ?hok ?_); (case hd => kernel_rfl); (case hok => kernel_rfl))); simp [*]; (repeat' (split; all_goals (rename_i hc; try simp [*]))))
                      | ((with_reducible refine T.ret ?_); (refine fin_mem (by simp [*]) ?_ ?_))
                      | (with_reducible refine T.block ?_)
                      | ((with_reducible refine T.skip ?_); simp [*])
                      | ((with_reducible refine T.exit ?_); simp [*])
                      | ((with_reducible refine T.br fun K1 K2 hK1 hK2 => ?_); simp [*]; try ((refine Br.intro (fun hc => ?_) (fun hc => ?_)) <;> (try simp at hc)))
                      | (with_reducible refine Cont.go (by assumption) _ ?_)
                      | (with_reducible refine Cnt.go (by assumption) ?_))
                    · intro id hid
                      by_cases e1 : id = i
                      · subst e1; simp [hrd, gM, hq]
                      · have hm : M id ≠ none := by rwa [upd_ne _ _ e1] at hid
                        have hn := not_own hMq hm
                        simp [e1, hn, gF id (not_own' hMq hm) e1]
                    · intro u hu
                      have := gK u hu
                      simp [this]
                · have w8 : j = C := by omega
                  have hrd : rdE true b (f + 1) p s = (0, .mk A B L, p1, s1) := by
                    refine (hfin2 (joinR L (0, [], p1, s1)) (Eq.trans g16 ?_) rfl).trans (by unfold joinR; simp)
                    rw [w8, Nat.sub_self, rdK]
                  clear g16 hfin hfin2
                  rcases g15 with ⟨q1, rfl⟩ | ⟨q1, c, d, rfl, hKK⟩
                  · have hL : L = [] := List.eq_nil_of_length_eq_zero (by omega)
                    subst hL
                    repeat' (first
                      | (with_reducible refine T.sq fun K hK => ?_)
                      | ((first | ((with_reducible refine T.reg hE ?hd ?_); (case hd => kernel_rfl)) | ((with_reducible refine T.any hE mixed ?hd ?hok ?_); (case hd => kernel_rfl); (case hok => kernel_rfl))); simp [*]; (repeat' (split; all_goals (rename_i hc; try simp [*]))))
                      | ((with_reducible refine T.ret ?_); (refine fin_mem (by simp [*]) ?_ ?_))
                      | (with_reducible refine T.block ?_)
                      | ((with_reducible refine T.skip ?_); simp [*])
                      | ((with_reducible refine T.exit ?_); simp [*])
                      | ((with_reducible refine T.br fun K1 K2 hK1 hK2 => ?_); simp [*]; try ((refine Br.intro (fun hc => ?_) (fun hc => ?_)) <;> (try simp at hc)))
                      | (with_reducible refine Cont.go (by assumption) _ ?_)
                      | (with_reducible refine Cnt.go (by assumption) ?_))
                    · intro id hid
                      by_cases e1 : id = i
                      · subst e1; simp [hrd, gM, hq]
                      · have hm : M id ≠ none := by rwa [upd_ne _ _ e1] at hid
                        have hn := not_own hMq hm
                        simp [e1, hn, gF id (not_own' hMq hm) e1]
                    · intro u hu
                      have := gK u hu
                      simp [this]
                  · repeat' (first
                      | (with_reducible refine T.sq fun K hK => ?_)
                      | ((first | ((with_reducible refine T.reg hE ?hd ?_); (case hd => kernel_rfl)) | ((with_reducible refine T.any hE mixed ?hd ?hok ?_); (case hd => kernel_rfl); (case hok => kernel_rfl))); simp [*]; (repeat' (split; all_goals (rename_i hc; try simp [*]))))
                      | ((with_reducible refine T.ret ?_); (refine fin_mem (by simp [*]) ?_ ?_))
                      | (with_reducible refine T.block ?_)
                      | ((with_reducible refine T.skip ?_); simp [*])
                      | ((with_reducible refine T.exit ?_); simp [*])
                      | ((with_reducible refine T.br fun K1 K2 hK1 hK2 => ?_); simp [*]; try ((refine Br.intro (fun hc => ?_) (fun hc => ?_)) <;> (try simp at hc)))
                      | (with_reducible refine Cont.go (by assumption) _ ?_)
                      | (with_reducible refine Cnt.go (by assumption) ?_))
                    · intro id hid
                      by_cases e1 : id = i
                      · subst e1; simp [hrd, gM, hq]
                      · have hm : M id ≠ none := by rwa [upd_ne _ _ e1] at hid
                        have hn := not_own hMq hm
                        simp [e1, hn, gF id (not_own' hMq hm) e1]
                    · intro u hu
                      have := gK u hu
                      simp [this]
            · have hrd : rdE true b (f + 1) p s = (e, ex0, p, s + 1) := by rw [hrd0, if_pos c2]; rfl
              clear hrd0
              repeat' (first
                | (with_reducible refine T.sq fun K hK => ?_)
                | ((first | ((with_reducible refine T.reg hE ?hd ?_); (case hd => kernel_rfl)) | ((with_reducible refine T.any hE mixed ?hd ?hok ?_); (case hd => kernel_rfl); (case hok => kernel_rfl))); simp [*]; (repeat' (split; all_goals (rename_i hc; try simp [*]))))
                | ((with_reducible refine T.ret ?_); (refine fin_mem (by simp [*]) ?_ ?_))
                | (with_reducible refine T.block ?_)
                | ((with_reducible refine T.skip ?_); simp [*])
                | ((with_reducible refine T.exit ?_); simp [*])
                | ((with_reducible refine T.br fun K1 K2 hK1 hK2 => ?_); simp [*]; try ((refine Br.intro (fun hc => ?_) (fun hc => ?_)) <;> (try simp at hc)))
                | (with_reducible refine Cont.go (by assumption) _ ?_)
                | (with_reducible refine Cnt.go (by assumption) ?_))
              · intro id hid
                by_cases e1 : id = i
                · subst e1; simp [hrd, hM, hq]
                · have hm : M id ≠ none := by rwa [upd_ne _ _ e1] at hid
                  have hn := not_own hMq hm
                  simp [e1, hn]
              · intro u hu; simpa using hu
        · cases h
      · cases h
    · cases h
end Go.Proofs.Ytdpphpdjimmpbaa.Ax
