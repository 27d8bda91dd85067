/- Contracts: bytes are read, by the reference. -/
import Derived.Test.YtiippmhlkcbjmaaPlH
import Derived.Test.YtiippmhlkcbjmaaBxP
set_option linter.unusedVariables false
set_option linter.unusedSimpArgs false
namespace Go.Proofs.Ytiippmhlkcbjmaa.Ax
open Go Go.Proofs

theorem byt_drop {b : List Int} (h : byt b) (p : Nat) : byt (b.drop p) := fun c hc => h c (List.mem_of_mem_drop hc)
def okRd (f : Nat) (b : List Int) (p s : Int) : Prop := byt b ∧ 0 ≤ p ∧ p ≤ b.length ∧ 0 ≤ s ∧ s ≤ 1000 ∧ 1001 ≤ (f : Int) + s
noncomputable instance (f : Nat) (b : List Int) (p s : Int) : Decidable (okRd f b p s) := Classical.propDecidable _
def rdV (r : Int × Ex × Nat × Nat) : V := .tup [enc r.2.1, .int .i64 (r.2.2.1 : Nat), .int .i64 (r.2.2.2 : Nat), .int .i64 r.1]
@[simp] noncomputable def gRead (f : Nat) : List V → Option V := f3 (kIs .u8) (kI .i64) (kI .i64) fun b p s => if okRd f b p s then some (rdV (rdE false b f p.toNat s.toNat)) else none
set_option maxHeartbeats 2000000 in
theorem ok_rRead : ∀ f, PureOk Try.prog 94 (gRead f) := by
  intro f
  induction f with
  | zero =>
    intro args r h
    obtain ⟨b, p, s, rfl, hr⟩ := f3_inv h; clear h
    split at hr
    · rename_i hm
      obtain ⟨_, _, _, _, h1, h2⟩ := hm
      omega
    · cases hr
  | succ f ih =>
    intro args r h
    obtain ⟨b, p, s, rfl, hr⟩ := f3_inv h; clear h
    split at hr
    · rename_i hm
      cases hr
      obtain ⟨m1, m2, m3, m4, m5, m6⟩ := hm
      obtain ⟨p, rfl⟩ := Int.eq_ofNat_of_zero_le m2
      obtain ⟨s, rfl⟩ := Int.eq_ofNat_of_zero_le m4
      rw [Int.toNat_natCast, Int.toNat_natCast]
      have hE := ((((EnvOk.nil (P := Try.prog) (eq := fun _ => false) (own := fun _ => false) (mem := fun _ => false) EqOk.none).addf ok_rGet).addf ok_rUnpack).addf ih)
      have hr1 : List.range 1 = [0] := rfl
      refine ⟨⟨Try.f94, Try.func94, by decide, rfl⟩, pure_of_T Try.func94 rfl (by simp [Try.ntmps94]) fun q => ?_⟩
      have hrd : Hold (rdE false b (f + 1) p s = _) := rdE.eq_2 false b p s f
      by_cases c1 : 1000 ≤ s
      · have hv : Hold (rdV (rdE false b (f + 1) p s) = .tup [enc ex0, .int .i64 p, .int .i64 s, .int .i64 20]) := by unfold Hold at *; rw [hrd, if_pos c1]; rfl
        have c1i : (1000 : Int) ≤ (s : Int) := by omega
        clear hrd
        repeat' (first
          | (with_reducible refine T.sq fun K hK => ?_)
          | ((first | ((with_reducible refine T.reg hE ?hd ?_); (case hd => kernel_rfl)) | ((with_reducible refine T.any hE mixed ?hd ?hok ?_); (case hd => kernel_rfl); (case hok => kernel_rfl))); simp [*]; (repeat' (split; all_goals (rename_i hc; try simp [*]))))
          | ((with_reducible refine T.ret ?_); refine fin_pure ?_; simp [*]; try (change Hold _))
          | (with_reducible refine T.block ?_)
          | ((with_reducible refine T.skip ?_); simp [*])
          | ((with_reducible refine T.exit ?_); simp [*])
          | ((with_reducible refine T.br fun K1 K2 hK1 hK2 => ?_); simp [*]; try ((refine Br.intro (fun hc => ?_) (fun hc => ?_)) <;> (try simp at hc)))
          | (with_reducible refine Cont.go (by assumption) _ ?_)
          | (with_reducible refine Cnt.go (by assumption) ?_))
        all_goals (unfold Hold at *; rw [hv]; simp [ex0])
      · have c1i : ¬ (1000 : Int) ≤ (s : Int) := by omega
        refine T.len (t := 0) (els := encI .u8 b) (tk := .no) (by simp [*]) fun hlen => ?_
        rw [encI_length] at hlen
        have hp : p ≤ b.length := by omega
        have hdr := encI_drop .u8 b p
        have htk : List.take b.length (encI .u8 b) = encI .u8 b := List.take_of_length_le (by rw [encI_length]; omega)
        have hbd := byt_drop m1 p
        have hgl := get_len (b.drop p) 0 0
        have hgt := getS_lt (b.drop p) 0 0 hbd (by omega) (by omega)
        rw [List.length_drop] at hgl
        unfold Hold at hrd
        rw [if_neg c1] at hrd
        have hgv : getV (b.drop p) = _ := get_ext rfl
        generalize hG : getS (b.drop p) 0 0 = G at *
        obtain ⟨h, k, e⟩ := G
        simp only at hrd hgl hgt hgv
        clear hG
        by_cases c2 : e = 0
        · subst c2
          obtain ⟨k1, k2⟩ := hgl rfl
          rw [if_neg (by simp)] at hrd
          by_cases c3 : 4294967295 < h
          · have hv : Hold (rdV (rdE false b (f + 1) p s) = .tup [enc ex0, .int .i64 p, .int .i64 s, .int .i64 11]) := by unfold Hold; rw [hrd, if_pos c3]; rfl
            have c3i : (4294967295 : Int) < (h : Int) := by omega
            clear hrd
            repeat' (first
              | (with_reducible refine T.sq fun K hK => ?_)
              | ((first | ((with_reducible refine T.reg hE ?hd ?_); (case hd => kernel_rfl)) | ((with_reducible refine T.any hE mixed ?hd ?hok ?_); (case hd => kernel_rfl); (case hok => kernel_rfl))); simp [*]; (repeat' (split; all_goals (rename_i hc; try simp [*]))))
              | ((with_reducible refine T.ret ?_); refine fin_pure ?_; simp [*]; try (change Hold _))
              | (with_reducible refine T.block ?_)
              | ((with_reducible refine T.skip ?_); simp [*])
              | ((with_reducible refine T.exit ?_); simp [*])
              | ((with_reducible refine T.br fun K1 K2 hK1 hK2 => ?_); simp [*]; try ((refine Br.intro (fun hc => ?_) (fun hc => ?_)) <;> (try simp at hc)))
              | (with_reducible refine Cont.go (by assumption) _ ?_)
              | (with_reducible refine Cnt.go (by assumption) ?_))
            all_goals (unfold Hold at *; rw [hv]; simp [ex0])
          · have c3i : ¬ (4294967295 : Int) < (h : Int) := by omega
            rw [if_neg c3] at hrd
            have w1 : IntKind.u32.wrap (h : Int) = h := wrapU rfl (by simp [IntKind.bits]; omega)
            have hu : isU32 (h : Int) := ⟨by omega, by omega⟩
            obtain ⟨A, hA⟩ : ∃ A, A = h / 16777216 := ⟨_, rfl⟩
            obtain ⟨B, hB⟩ : ∃ B, B = h / 256 % 65536 := ⟨_, rfl⟩
            obtain ⟨C, hC⟩ : ∃ C, C = h % 256 := ⟨_, rfl⟩
            have hun : unpV h = .tup [.int .i64 A, .int .i64 B, .int .i64 C] := by unfold unpV; rw [← hA, ← hB, ← hC]
            have hC2 : C < 256 := by omega
            obtain ⟨p0, hp0⟩ : ∃ p0, p0 = p + k := ⟨_, rfl⟩
            have w2 : IntKind.i64.wrap ((p : Int) + (k : Int)) = (p0 : Int) := by rw [wrap64 (by omega) (by omega)]; omega
            have w3 : IntKind.i64.wrap ((s : Int) + 1) = (s : Int) + 1 := wrap64 (by omega) (by omega)
            have hpb : p0 ≤ b.length := by omega
            rw [← hC, ← hp0] at hrd
            have hfin : Hold (∀ r, rdK false (rdE false b f) C p0 (s + 1) = r → r.1 ≠ 0 → rdV (rdE false b (f + 1) p s) = .tup [enc ex0, .int .i64 (r.2.2.1 : Nat), .int .i64 (r.2.2.2 : Nat), .int .i64 r.1]) := fun r h1 h2 => by
              rw [hrd, h1]; unfold rdH; rw [if_pos h2]; rfl
            have hfin2 : Hold (∀ r, rdK false (rdE false b f) C p0 (s + 1) = r → r.1 = 0 → rdV (rdE false b (f + 1) p s) = .tup [enc (.mk A B r.2.1), .int .i64 (r.2.2.1 : Nat), .int .i64 (r.2.2.2 : Nat), .int .i64 0]) := fun r h1 h2 => by
              rw [hrd, h1]; unfold rdH; rw [if_neg (by simpa using h2), ← hA, ← hB]; rfl
            clear hrd hA hB hC hp0 k2 hgl
            repeat' (first
              | (with_reducible refine T.sq fun K hK => ?_)
              | ((first | ((with_reducible refine T.reg hE ?hd ?_); (case hd => kernel_rfl)) | ((with_reducible refine T.any hE mixed ?hd ?hok ?_); (case hd => kernel_rfl); (case hok => kernel_rfl))); simp [*]; (repeat' (split; all_goals (rename_i hc; try simp [*]))))
              | ((with_reducible refine T.ret ?_); refine fin_pure ?_; simp [*]; try (change Hold _))
              | (with_reducible refine T.block ?_)
              | ((with_reducible refine T.skip ?_); simp [*])
              | ((with_reducible refine T.exit ?_); simp [*])
              | ((with_reducible refine T.br fun K1 K2 hK1 hK2 => ?_); simp [*]; try ((refine Br.intro (fun hc => ?_) (fun hc => ?_)) <;> (try simp at hc)))
              | (with_reducible refine Cont.go (by assumption) _ ?_)
              | (with_reducible refine Cnt.go (by assumption) ?_))
            refine T.loop (fun n σ => ∃ (j p1 s1 : Nat) (L : List Ex) (w : V), n = C - j ∧ σ.get 0 = .sl (encI .u8 b) .no ∧ σ.get 1 = .int .i64 p1 ∧ σ.get 2 = .int .i64 s1 ∧ σ.get 15 = .int .i64 C ∧ σ.get 17 = .int .i64 j ∧ σ.get 6 = .ptr (0 :: 8 :: q) 0 ∧ σ.get 16 = .ptr (0 :: 18 :: q) 0 ∧ σ.M (0 :: 18 :: q) = some (.cells [.int .i64 A, .int .i64 B, w]) ∧ (∃ x, σ.M (0 :: 8 :: q) = some (.cells [.int .i64 0, .int .i64 0, x])) ∧ j ≤ C ∧ L.length = j ∧ p1 ≤ b.length ∧ s + 1 ≤ s1 ∧ s1 ≤ 1000 ∧ Hold ((j = 0 ∧ w = .nils) ∨ (0 < j ∧ ∃ c d, w = .sl (encL L) (.own (c :: d :: q) 3) ∧ σ.K (c :: d :: q) = true)) ∧ Hold (rdK false (rdE false b f) C p0 (s + 1) = joinR L (rdK false (rdE false b f) (C - j) p1 s1))) C ⟨0, p0, s + 1, [], .nils, by simp [*, Hold, joinR]; omega⟩ ?_
            rintro n σ ⟨j, p1, s1, L, w, rfl, g1, g2, g3, g4, g5, g6, g7, g8, ⟨z, g9⟩, g10, g11, g12, g13, g14, g15, g16⟩
            by_cases hj : j < C
            · have hw := wrap_succ (n := C) (by omega) hj
              obtain ⟨m, hm⟩ : ∃ m, C - j = m + 1 := ⟨C - j - 1, by omega⟩
              have hok : okRd f b p1 s1 := ⟨m1, by omega, by omega, by omega, by omega, by omega⟩
              have hin := rdE_in false b f p1 s1 g12 g14
              have hK := rdK.eq_2 false (rdE false b f) p1 s1 m
              have hrv : rdV (rdE false b f p1 s1) = _ := rfl
              unfold Hold at g16
              rw [hm] at g16
              generalize hR : rdE false b f p1 s1 = R at *
              obtain ⟨e1, x1, p2, s2⟩ := R
              simp only at hin hK
              have hrv2 : rdV (e1, x1, p2, s2) = .tup [enc x1, .int .i64 (p2 : Nat), .int .i64 (s2 : Nat), .int .i64 e1] := rfl
              clear hrv
              by_cases c4 : e1 = 0
              · subst c4
                rw [if_neg (by simp)] at hK
                have hn : Hold (rdK false (rdE false b f) C p0 (s + 1) = joinR (L ++ [x1]) (rdK false (rdE false b f) (C - (j + 1)) p2 s2)) := by
                  unfold Hold
                  have : C - (j + 1) = m := by omega
                  rw [this, g16, hK]; unfold joinR; simp
                have u1 : (L.length + 1) * 40 ≤ 140737488355328 := by omega
                have u2 : (j + 1) * 40 ≤ 140737488355328 := by omega
                have hl2 : (L ++ [x1]).length = j + 1 := by simp [g11]
                clear g16 hK hm hfin hfin2
                rcases g15 with ⟨q1, rfl⟩ | ⟨q1, c, d, rfl, hKK⟩
                · have hL : L = [] := List.eq_nil_of_length_eq_zero (by omega)
                  subst hL
                  subst q1
                  have hCi : (0 : Int) < (C : Int) := by omega
                  have hw1 : IntKind.i64.wrap 1 = ((1 : Nat) : Int) := wrap64 (by omega) (by omega)
                  clear hw
                  repeat' (first
                    | (with_reducible refine T.sq fun K hK => ?_)
                    | ((first | ((with_reducible refine T.reg hE ?hd ?_); (case hd => kernel_rfl)) | ((with_reducible refine T.any hE mixed ?hd ?hok ?_); (case hd => kernel_rfl); (case hok => kernel_rfl))); simp [*]; (repeat' (split; all_goals (rename_i hc; try simp [*]))))
                    | ((with_reducible refine T.ret ?_); refine fin_pure ?_; simp [*]; try (change Hold _))
                    | (with_reducible refine T.block ?_)
                    | ((with_reducible refine T.skip ?_); simp [*])
                    | ((with_reducible refine T.exit ?_); simp [*])
                    | ((with_reducible refine T.br fun K1 K2 hK1 hK2 => ?_); simp [*]; try ((refine Br.intro (fun hc => ?_) (fun hc => ?_)) <;> (try simp at hc)))
                    | (with_reducible refine Cont.go (by assumption) _ ?_)
                    | (with_reducible refine Cnt.go (by assumption) ?_))
                  exact ⟨C - 1, by omega, 1, rfl, p2, rfl, s2, rfl, by omega, by omega, [x1], rfl, hin.1, by omega, hin.2.2, ⟨by omega, _, _, ⟨by simp [encL, encC_eq], rfl, rfl⟩, .inl ⟨rfl, rfl⟩⟩, hn⟩
                · repeat' (first
                    | (with_reducible refine T.sq fun K hK => ?_)
                    | ((first | ((with_reducible refine T.reg hE ?hd ?_); (case hd => kernel_rfl)) | ((with_reducible refine T.any hE mixed ?hd ?hok ?_); (case hd => kernel_rfl); (case hok => kernel_rfl))); simp [*]; (repeat' (split; all_goals (rename_i hc; try simp [*]))))
                    | ((with_reducible refine T.ret ?_); refine fin_pure ?_; simp [*]; try (change Hold _))
                    | (with_reducible refine T.block ?_)
                    | ((with_reducible refine T.skip ?_); simp [*])
                    | ((with_reducible refine T.exit ?_); simp [*])
                    | ((with_reducible refine T.br fun K1 K2 hK1 hK2 => ?_); simp [*]; try ((refine Br.intro (fun hc => ?_) (fun hc => ?_)) <;> (try simp at hc)))
                    | (with_reducible refine Cont.go (by assumption) _ ?_)
                    | (with_reducible refine Cnt.go (by assumption) ?_))
                  exact ⟨C - (j + 1), by omega, j + 1, rfl, p2, rfl, s2, rfl, by omega, by omega, L ++ [x1], hl2, hin.1, by omega, hin.2.2, ⟨by omega, _, _, ⟨by rw [encL_append]; simp [encL, encC_eq], rfl, rfl⟩, .inl ⟨rfl, rfl⟩⟩, hn⟩
              · rw [if_pos c4] at hK
                have hv : Hold (rdV (rdE false b (f + 1) p s) = .tup [enc ex0, .int .i64 p1, .int .i64 s1, .int .i64 e1]) := hfin (joinR L (e1, [], p1, s1)) (g16.trans (by rw [hK]; rfl)) c4
                clear g16 hK hm hfin hfin2 g15
                repeat' (first
                  | (with_reducible refine T.sq fun K hK => ?_)
                  | ((first | ((with_reducible refine T.reg hE ?hd ?_); (case hd => kernel_rfl)) | ((with_reducible refine T.any hE mixed ?hd ?hok ?_); (case hd => kernel_rfl); (case hok => kernel_rfl))); simp [*]; (repeat' (split; all_goals (rename_i hc; try simp [*]))))
                  | ((with_reducible refine T.ret ?_); refine fin_pure ?_; simp [*]; try (change Hold _))
                  | (with_reducible refine T.block ?_)
                  | ((with_reducible refine T.skip ?_); simp [*])
                  | ((with_reducible refine T.exit ?_); simp [*])
                  | ((with_reducible refine T.br fun K1 K2 hK1 hK2 => ?_); simp [*]; try ((refine Br.intro (fun hc => ?_) (fun hc => ?_)) <;> (try simp at hc)))
                  | (with_reducible refine Cont.go (by assumption) _ ?_)
                  | (with_reducible refine Cnt.go (by assumption) ?_))
                all_goals (unfold Hold at *; rw [hv]; simp [ex0])
            · have w8 : j = C := by omega
              have hv : Hold (rdV (rdE false b (f + 1) p s) = .tup [enc (.mk A B L), .int .i64 p1, .int .i64 s1, .int .i64 0]) := by
                refine hfin2 (joinR L (0, [], p1, s1)) (Eq.trans g16 ?_) rfl |>.trans (by unfold joinR; simp)
                rw [w8, Nat.sub_self, rdK]
              clear g16 hfin hfin2
              rcases g15 with ⟨q1, rfl⟩ | ⟨q1, c, d, rfl, hKK⟩
              · have hL : L = [] := List.eq_nil_of_length_eq_zero (by omega)
                subst hL
                repeat' (first
                  | (with_reducible refine T.sq fun K hK => ?_)
                  | ((first | ((with_reducible refine T.reg hE ?hd ?_); (case hd => kernel_rfl)) | ((with_reducible refine T.any hE mixed ?hd ?hok ?_); (case hd => kernel_rfl); (case hok => kernel_rfl))); simp [*]; (repeat' (split; all_goals (rename_i hc; try simp [*]))))
                  | ((with_reducible refine T.ret ?_); refine fin_pure ?_; simp [*]; try (change Hold _))
                  | (with_reducible refine T.block ?_)
                  | ((with_reducible refine T.skip ?_); simp [*])
                  | ((with_reducible refine T.exit ?_); simp [*])
                  | ((with_reducible refine T.br fun K1 K2 hK1 hK2 => ?_); simp [*]; try ((refine Br.intro (fun hc => ?_) (fun hc => ?_)) <;> (try simp at hc)))
                  | (with_reducible refine Cont.go (by assumption) _ ?_)
                  | (with_reducible refine Cnt.go (by assumption) ?_))
                all_goals (unfold Hold at *; rw [hv]; simp)
              · repeat' (first
                  | (with_reducible refine T.sq fun K hK => ?_)
                  | ((first | ((with_reducible refine T.reg hE ?hd ?_); (case hd => kernel_rfl)) | ((with_reducible refine T.any hE mixed ?hd ?hok ?_); (case hd => kernel_rfl); (case hok => kernel_rfl))); simp [*]; (repeat' (split; all_goals (rename_i hc; try simp [*]))))
                  | ((with_reducible refine T.ret ?_); refine fin_pure ?_; simp [*]; try (change Hold _))
                  | (with_reducible refine T.block ?_)
                  | ((with_reducible refine T.skip ?_); simp [*])
                  | ((with_reducible refine T.exit ?_); simp [*])
                  | ((with_reducible refine T.br fun K1 K2 hK1 hK2 => ?_); simp [*]; try ((refine Br.intro (fun hc => ?_) (fun hc => ?_)) <;> (try simp at hc)))
                  | (with_reducible refine Cont.go (by assumption) _ ?_)
                  | (with_reducible refine Cnt.go (by assumption) ?_))
                all_goals (unfold Hold at *; rw [hv]; simp)
        · have hv : Hold (rdV (rdE false b (f + 1) p s) = .tup [enc ex0, .int .i64 p, .int .i64 s, .int .i64 e]) := by unfold Hold; rw [hrd, if_pos c2]; rfl
          clear hrd
          repeat' (first
            | (with_reducible refine T.sq fun K hK => ?_)
            | ((first | ((with_reducible refine T.reg hE ?hd ?_); (case hd => kernel_rfl)) | ((with_reducible refine T.any hE mixed ?hd ?hok ?_); (case hd => kernel_rfl); (case hok => kernel_rfl))); simp [*]; (repeat' (split; all_goals (rename_i hc; try simp [*]))))
            | ((with_reducible refine T.ret ?_); refine fin_pure ?_; simp [*]; try (change Hold _))
            | (with_reducible refine T.block ?_)
            | ((with_reducible refine T.skip ?_); simp [*])
            | ((with_reducible refine T.exit ?_); simp [*])
            | ((with_reducible refine T.br fun K1 K2 hK1 hK2 => ?_); simp [*]; try ((refine Br.intro (fun hc => ?_) (fun hc => ?_)) <;> (try simp at hc)))
            | (with_reducible refine Cont.go (by assumption) _ ?_)
            | (with_reducible refine Cnt.go (by assumption) ?_))
          all_goals (unfold Hold at *; rw [hv]; simp [ex0])
    · cases hr
end Go.Proofs.Ytiippmhlkcbjmaa.Ax
