/- Contracts: what is swapped, by the program; the laws SchemaSwaps and SchemaTurned, walked. -/
import Derived.Test.YtibfdebhbibfpaaGreatCxN
set_option linter.unusedVariables false
set_option linter.unusedSimpArgs false
namespace Go.Proofs.YtibfdebhbibfpaaGreat.Ax
open Go Go.Proofs

def okSwP (a b t u : Ex) (own : Int) : Prop := rightE a = 0 ∧ rightE b = 0 ∧ rightE t = 0 ∧ rightE u = 0 ∧ isU64 own
noncomputable instance (a b t u : Ex) (own : Int) : Decidable (okSwP a b t u own) := Classical.propDecidable _
@[simp] noncomputable def gSwP : List V → Option V := f6 kE kE kE kE (kI .u64) kB fun a b t u own may => if okSwP a b t u own then some (.bool (swE t u own.toNat a b may)) else none
set_option maxHeartbeats 4000000 in
theorem ok_sSwap : PureOk Tryz.prog 175 gSwP := by
  refine rec6 fun a ih b t u own may r hr => ?_
  split at hr
  · rename_i hm
    obtain ⟨ha0, hb0, ht0, hx0, hu0⟩ := hm
    have ha : allX a = true := (right_zero ha0).2.2
    cases hr
    obtain ⟨own, rfl, hown⟩ := u64_of hu0
    simp only [Int.toNat_natCast] at *
    have hE := (((EnvOk.nil (P := Tryz.prog) (eq := fun _ => false) (own := fun _ => false) (mem := fun _ => false) EqOk.none).addf ok_Same).addf ih)
    refine ⟨⟨Tryz.f175, Tryz.func175, by decide, rfl⟩, pure_of_T Tryz.func175 rfl (by simp [Tryz.ntmps175]) fun q => ?_⟩
    by_cases hh : hitB a b t u may = true
    · have hn : Hold (swE t u own a b may = true) := by unfold Hold; rw [swE_eq, hh]; rfl
      unfold hitB at hh
      simp only [Bool.and_eq_true, decide_eq_true_eq] at hh
      obtain ⟨⟨q1, q2⟩, q3⟩ := hh
      rw [q1] at hn
      repeat' (first | (with_reducible refine T.sq fun K hK => ?_) | ((first | ((with_reducible refine T.reg hE ?hd ?_); (case hd => kernel_rfl)) | ((with_reducible refine T.any hE mixed ?hd ?hok ?_); (case hd => kernel_rfl); (case hok => kernel_rfl))); simp [*]; (repeat' (split; all_goals (rename_i hc; try simp [*])))) | ((with_reducible refine T.ret ?_); refine fin_pure ?_; simp [*]; try (change Hold _)) | (with_reducible refine T.block ?_) | ((with_reducible refine T.skip ?_); simp [*]) | ((with_reducible refine T.exit ?_); simp [*]) | ((with_reducible refine T.br fun K1 K2 hK1 hK2 => ?_); simp [*]; try ((refine Br.intro (fun hc => ?_) (fun hc => ?_)) <;> (try simp at hc))) | (with_reducible refine Cont.go (by assumption) _ ?_) | (with_reducible refine Cnt.go (by assumption) ?_))
      all_goals (unfold Hold at *; rw [hn])
    rw [Bool.not_eq_true] at hh
    have hcase := hits_of hh
    refine T.sq fun K0 hK0 => ?_
    refine T.reg hE rfl ?_
    simp
    refine hK0.go _ ?_
    refine T.sq fun K1 hK1 => ?_
    suffices j1 : ∀ σ : St, (σ.get 24 = .bool false ∧ σ.get 4 = .int .u64 (own : Nat) ∧ σ.get 5 = .bool may ∧ σ.get 6 = .ptr (0 :: 8 :: q) 0 ∧ σ.get 7 = .ptr (0 :: 9 :: q) 0 ∧ σ.get 8 = .ptr (0 :: 10 :: q) 0 ∧ σ.get 9 = .ptr (0 :: 11 :: q) 0 ∧ σ.M (0 :: 8 :: q) = some (.cells (encC a)) ∧ σ.M (0 :: 9 :: q) = some (.cells (encC b)) ∧ σ.M (0 :: 10 :: q) = some (.cells (encC t)) ∧ σ.M (0 :: 11 :: q) = some (.cells (encC u))) → K1 σ by
      clear hK1
      rcases hcase with q1 | ⟨q1, q2⟩ | ⟨q1, q2, q3⟩
      all_goals (
        repeat' (first | (with_reducible refine T.sq fun K hK => ?_) | ((first | ((with_reducible refine T.reg hE ?hd ?_); (case hd => kernel_rfl)) | ((with_reducible refine T.any hE mixed ?hd ?hok ?_); (case hd => kernel_rfl); (case hok => kernel_rfl))); simp [*]; (repeat' (split; all_goals (rename_i hc; try simp [*])))) | ((with_reducible refine T.ret ?_); refine fin_pure ?_; simp [*]; try (change Hold _)) | (with_reducible refine T.block ?_) | ((with_reducible refine T.skip ?_); simp [*]) | ((with_reducible refine T.exit ?_); simp [*]) | ((with_reducible refine T.br fun K1 K2 hK1 hK2 => ?_); simp [*]; try ((refine Br.intro (fun hc => ?_) (fun hc => ?_)) <;> (try simp at hc))) | (with_reducible refine Cont.go (by assumption) _ ?_) | (with_reducible refine Cnt.go (by assumption) ?_))
        all_goals (refine j1 _ ⟨?_, ?_, ?_, ?_, ?_, ?_, ?_, ?_, ?_, ?_, ?_⟩ <;> simp [*, encC_eq]))
    rintro σ ⟨b1, b4, b5, b6, b7, b8, b9, n1, n2, n3, n4⟩
    refine hK1.go σ ?_
    clear hK1 hK0 hcase
    rw [encC_eq] at n1 n2 n3 n4
    by_cases c1 : b.k = a.k
    rotate_left
    · have c1' : ¬ a.k = b.k := fun h => c1 h.symm
      have hn : Hold (swE t u own a b may = false) := sw_len_false t u own a b may hh (.inl c1)
      repeat' (first | (with_reducible refine T.sq fun K hK => ?_) | ((first | ((with_reducible refine T.reg hE ?hd ?_); (case hd => kernel_rfl)) | ((with_reducible refine T.any hE mixed ?hd ?hok ?_); (case hd => kernel_rfl); (case hok => kernel_rfl))); simp [*]; (repeat' (split; all_goals (rename_i hc; try simp [*])))) | ((with_reducible refine T.ret ?_); refine fin_pure ?_; simp [*]; try (change Hold _)) | (with_reducible refine T.block ?_) | ((with_reducible refine T.skip ?_); simp [*]) | ((with_reducible refine T.exit ?_); simp [*]) | ((with_reducible refine T.br fun K1 K2 hK1 hK2 => ?_); simp [*]; try ((refine Br.intro (fun hc => ?_) (fun hc => ?_)) <;> (try simp at hc))) | (with_reducible refine Cont.go (by assumption) _ ?_) | (with_reducible refine Cnt.go (by assumption) ?_))
      all_goals (unfold Hold at *; rw [hn])
    by_cases c2 : b.i = a.i
    rotate_left
    · have c2' : ¬ a.i = b.i := fun h => c2 h.symm
      have hn : Hold (swE t u own a b may = false) := sw_len_false t u own a b may hh (.inr (.inl c2))
      repeat' (first | (with_reducible refine T.sq fun K hK => ?_) | ((first | ((with_reducible refine T.reg hE ?hd ?_); (case hd => kernel_rfl)) | ((with_reducible refine T.any hE mixed ?hd ?hok ?_); (case hd => kernel_rfl); (case hok => kernel_rfl))); simp [*]; (repeat' (split; all_goals (rename_i hc; try simp [*])))) | ((with_reducible refine T.ret ?_); refine fin_pure ?_; simp [*]; try (change Hold _)) | (with_reducible refine T.block ?_) | ((with_reducible refine T.skip ?_); simp [*]) | ((with_reducible refine T.exit ?_); simp [*]) | ((with_reducible refine T.br fun K1 K2 hK1 hK2 => ?_); simp [*]; try ((refine Br.intro (fun hc => ?_) (fun hc => ?_)) <;> (try simp at hc))) | (with_reducible refine Cont.go (by assumption) _ ?_) | (with_reducible refine Cnt.go (by assumption) ?_))
      all_goals (unfold Hold at *; rw [hn])
    by_cases c3 : b.kids.length = a.kids.length
    rotate_left
    · have c3' : ¬ (a.kids.length : Int) = (b.kids.length : Int) := by omega
      have hn : Hold (swE t u own a b may = false) := sw_len_false t u own a b may hh (.inr (.inr c3))
      repeat' (first | (with_reducible refine T.sq fun K hK => ?_) | ((first | ((with_reducible refine T.reg hE ?hd ?_); (case hd => kernel_rfl)) | ((with_reducible refine T.any hE mixed ?hd ?hok ?_); (case hd => kernel_rfl); (case hok => kernel_rfl))); simp [*]; (repeat' (split; all_goals (rename_i hc; try simp [*])))) | ((with_reducible refine T.ret ?_); refine fin_pure ?_; simp [*]; try (change Hold _)) | (with_reducible refine T.block ?_) | ((with_reducible refine T.skip ?_); simp [*]) | ((with_reducible refine T.exit ?_); simp [*]) | ((with_reducible refine T.br fun K1 K2 hK1 hK2 => ?_); simp [*]; try ((refine Br.intro (fun hc => ?_) (fun hc => ?_)) <;> (try simp at hc))) | (with_reducible refine Cont.go (by assumption) _ ?_) | (with_reducible refine Cnt.go (by assumption) ?_))
      all_goals (unfold Hold at *; rw [hn])
    have hn : Hold (swE t u own a b may = all2 (fun x y => swE t u own x y (nxM a own may)) a.kids b.kids) := sw_kids t u own a b may hh c1 c2 c3
    have hokk : ∀ (j : Nat) (hj : j < a.kids.length), okSwP a.kids[j] (b.kids[j]'(by omega)) t u (own : Int) := fun j hj => ⟨right_kid' ha0 (List.getElem_mem hj), right_kid' hb0 (List.getElem_mem (by omega)), ht0, hx0, hu0⟩
    have hqk : isQ a = true → ∃ n : Nat, a.i = (n : Int) ∧ n < 64 ∧ hasB own a.i = own.testBit n ∧ (a.k = 7 ∨ ¬ a.k = 7 ∧ a.k = 10) := fun h => by
      have h' : a.k = 7 ∨ a.k = 10 := by simpa [isQ] using h
      have := shaped_var ha (.inr h')
      refine ⟨a.i.toNat, by omega, by omega, ?_, by omega⟩
      unfold hasB
      rw [decide_eq_true this.1, decide_eq_true (show a.i < 64 by omega)]; rfl
    obtain ⟨W, hW⟩ : ∃ W, W = nxM a own may := ⟨_, rfl⟩
    obtain ⟨F, hF⟩ : ∃ F : Ex → Ex → Bool, ∀ x y, swE t u own x y W = F x y := ⟨_, fun _ _ => rfl⟩
    have hn2 : Hold (swE t u own a b may = all2 F a.kids b.kids) := by
      unfold Hold at *
      rw [hn, ← hW]
      congr 1
      funext x y; exact hF x y
    clear hn hh
    refine T.sq fun K hK => ?_
    obtain ⟨hgo⟩ := hK
    repeat' (first | (with_reducible refine T.sq fun K hK => ?_) | ((first | ((with_reducible refine T.reg hE ?hd ?_); (case hd => kernel_rfl)) | ((with_reducible refine T.any hE mixed ?hd ?hok ?_); (case hd => kernel_rfl); (case hok => kernel_rfl))); simp [*]; (repeat' (split; all_goals (rename_i hc; try simp [*])))) | ((with_reducible refine T.ret ?_); refine fin_pure ?_; simp [*]; try (change Hold _)) | (with_reducible refine T.block ?_) | ((with_reducible refine T.skip ?_); simp [*]) | ((with_reducible refine T.exit ?_); simp [*]) | ((with_reducible refine T.br fun K1 K2 hK1 hK2 => ?_); simp [*]; try ((refine Br.intro (fun hc => ?_) (fun hc => ?_)) <;> (try simp at hc))) | (with_reducible refine Cont.go (by assumption) _ ?_) | (with_reducible refine Cnt.go (by assumption) ?_))
    refine hgo _ ?_
    clear hgo
    refine T.sq fun K6 hK6 => ?_
    obtain ⟨h6⟩ := hK6
    suffices j2 : ∀ σ : St, (σ.get 5 = .bool W ∧ σ.get 4 = .int .u64 (own : Nat) ∧ σ.get 6 = .ptr (0 :: 8 :: q) 0 ∧ σ.get 7 = .ptr (0 :: 9 :: q) 0 ∧ σ.get 8 = .ptr (0 :: 10 :: q) 0 ∧ σ.get 9 = .ptr (0 :: 11 :: q) 0 ∧ σ.M (0 :: 8 :: q) = some (.cells (encC a)) ∧ σ.M (0 :: 9 :: q) = some (.cells (encC b)) ∧ σ.M (0 :: 10 :: q) = some (.cells (encC t)) ∧ σ.M (0 :: 11 :: q) = some (.cells (encC u))) → K6 σ by
      clear h6 hF hn2
      have hqc : (may = false ∧ W = false ∧ ((a.k = 7) ∨ (¬ a.k = 7 ∧ a.k = 10) ∨ (¬ a.k = 7 ∧ ¬ a.k = 10))) ∨ (may = true ∧ W = true ∧ (¬ a.k = 7 ∧ ¬ a.k = 10)) ∨
          (∃ m : Nat, may = true ∧ a.i = (m : Int) ∧ IntKind.u64.wrap (m : Int) = m ∧ ((own : Nat) : Int).fdiv (2 ^ min m IntKind.u64.bits) = ((shrN own m : Nat) : Int) ∧ ((a.k = 7) ∨ (¬ a.k = 7 ∧ a.k = 10)) ∧ ((bits .and .u64 ((shrN own m : Nat) : Int) 1 = 1 ∧ W = false) ∨ (bits .and .u64 ((shrN own m : Nat) : Int) 1 = 0 ∧ W = true))) := by
        unfold nxM at hW
        cases hmay : may with
        | false => refine .inl ⟨rfl, by rw [hW, hmay]; rfl, by omega⟩
        | true =>
          cases hz : isQ a with
          | false =>
            refine .inr (.inl ⟨rfl, by rw [hW, hmay, hz]; rfl, ?_⟩)
            simpa [isQ] using hz
          | true =>
            obtain ⟨m, y1, y2, y3, y4⟩ := hqk hz
            refine .inr (.inr ⟨m, rfl, y1, wrap64u (by omega), shr_eq y2, y4, ?_⟩)
            have y5 := shr_one (s := own) (j := m) hown
            rw [hmay, hz, y3] at hW
            cases hb : own.testBit m with
            | true => rw [hb] at hW y5; exact .inl ⟨y5, hW⟩
            | false => rw [hb] at hW y5; exact .inr ⟨y5, hW⟩
      clear hW
      rcases hqc with ⟨q1, z3, z1 | z1 | z1⟩ | ⟨q1, z3, z1⟩ | ⟨m, q1, y1, y2, y3, z1 | z1, ⟨y5, z3⟩ | ⟨y5, z3⟩⟩
      all_goals (
        repeat' (first | (with_reducible refine T.sq fun K hK => ?_) | ((first | ((with_reducible refine T.reg hE ?hd ?_); (case hd => kernel_rfl)) | ((with_reducible refine T.any hE mixed ?hd ?hok ?_); (case hd => kernel_rfl); (case hok => kernel_rfl))); simp [*]; (repeat' (split; all_goals (rename_i hc; try simp [*])))) | ((with_reducible refine T.ret ?_); refine fin_pure ?_; simp [*]; try (change Hold _)) | (with_reducible refine T.block ?_) | ((with_reducible refine T.skip ?_); simp [*]) | ((with_reducible refine T.exit ?_); simp [*]) | ((with_reducible refine T.br fun K1 K2 hK1 hK2 => ?_); simp [*]; try ((refine Br.intro (fun hc => ?_) (fun hc => ?_)) <;> (try simp at hc))) | (with_reducible refine Cont.go (by assumption) _ ?_) | (with_reducible refine Cnt.go (by assumption) ?_))
        all_goals (refine j2 _ ⟨?_, ?_, ?_, ?_, ?_, ?_, ?_, ?_, ?_, ?_⟩ <;> simp [*, encC_eq]))
    clear b1 b4 b5 b6 b7 b8 b9 n1 n2 n3 n4
    rintro σ ⟨b5, b4, b6, b7, b8, b9, n1, n2, n3, n4⟩
    refine h6 σ ?_
    clear h6 hW
    rw [encC_eq] at n1 n2 n3 n4
    repeat' (first | (with_reducible refine T.sq fun K hK => ?_) | ((first | ((with_reducible refine T.reg hE ?hd ?_); (case hd => kernel_rfl)) | ((with_reducible refine T.any hE mixed ?hd ?hok ?_); (case hd => kernel_rfl); (case hok => kernel_rfl))); simp [*]; (repeat' (split; all_goals (rename_i hc; try simp [*])))) | ((with_reducible refine T.ret ?_); refine fin_pure ?_; simp [*]; try (change Hold _)) | (with_reducible refine T.block ?_) | ((with_reducible refine T.skip ?_); simp [*]) | ((with_reducible refine T.exit ?_); simp [*]) | ((with_reducible refine T.br fun K1 K2 hK1 hK2 => ?_); simp [*]; try ((refine Br.intro (fun hc => ?_) (fun hc => ?_)) <;> (try simp at hc))) | (with_reducible refine Cont.go (by assumption) _ ?_) | (with_reducible refine Cnt.go (by assumption) ?_))
    refine T.len (t := 65) (els := encL a.kids) (tk := .no) (by simp [*]) fun hlen => ?_
    rw [encL_length] at hlen
    refine T.loop (fun n σ => ∃ (j : Nat), n = a.kids.length - j ∧ σ.get 4 = .int .u64 (own : Nat) ∧ σ.get 5 = .bool W ∧ σ.get 66 = .int .i64 a.kids.length ∧ σ.get 67 = .int .i64 j ∧ σ.get 6 = .ptr (0 :: 8 :: q) 0 ∧ σ.get 7 = .ptr (0 :: 9 :: q) 0 ∧ σ.get 8 = .ptr (0 :: 10 :: q) 0 ∧ σ.get 9 = .ptr (0 :: 11 :: q) 0 ∧ σ.M (0 :: 8 :: q) = some (.cells (encC a)) ∧ σ.M (0 :: 9 :: q) = some (.cells (encC b)) ∧ σ.M (0 :: 10 :: q) = some (.cells (encC t)) ∧ σ.M (0 :: 11 :: q) = some (.cells (encC u)) ∧ j ≤ a.kids.length ∧ Hold (all2 F (a.kids.take j) (b.kids.take j) = true)) a.kids.length ⟨0, by simp [*, encC_eq, Hold, all2]⟩ ?_
    clear c1 c2 b4 b5 b6 b7 b8 b9 n1 n2 n3 n4
    rintro n σ ⟨j, rfl, g0, gw, g1, g2, g3, g4, g5, g6, m1, m2, m3, m4, g10, g11⟩
    rw [encC_eq] at m1 m2 m3 m4
    by_cases hj : j < a.kids.length
    · have hj2 : j < b.kids.length := by omega
      have hw := wrap_succ hlen hj
      have hs := ex_kid_lt a j hj
      have hok := hokk j hj
      have c5 := all2_take F a.kids b.kids j hj hj2
      by_cases v : F a.kids[j] b.kids[j] = true
      · have c6 : Hold (all2 F (a.kids.take (j + 1)) (b.kids.take (j + 1)) = true) := by unfold Hold at *; rw [c5, g11, v]; rfl
        clear c5
        repeat' (first | (with_reducible refine T.sq fun K hK => ?_) | ((first | ((with_reducible refine T.reg hE ?hd ?_); (case hd => kernel_rfl)) | ((with_reducible refine T.any hE mixed ?hd ?hok ?_); (case hd => kernel_rfl); (case hok => kernel_rfl))); simp [*]; (repeat' (split; all_goals (rename_i hc; try simp [*])))) | ((with_reducible refine T.ret ?_); refine fin_pure ?_; simp [*]; try (change Hold _)) | (with_reducible refine T.block ?_) | ((with_reducible refine T.skip ?_); simp [*]) | ((with_reducible refine T.exit ?_); simp [*]) | ((with_reducible refine T.br fun K1 K2 hK1 hK2 => ?_); simp [*]; try ((refine Br.intro (fun hc => ?_) (fun hc => ?_)) <;> (try simp at hc))) | (with_reducible refine Cont.go (by assumption) _ ?_) | (with_reducible refine Cnt.go (by assumption) ?_))
        refine ⟨_, by omega, j + 1, rfl, ?_⟩
        (repeat' apply And.intro) <;> first | omega | exact c6 | (simp [encC_eq, *]; done)
      · rw [Bool.not_eq_true] at v
        have c6 : all2 F a.kids b.kids = false := all2_false _ _ _ j hj hj2 v
        unfold Hold at hn2
        rw [c6] at hn2
        clear c5 c6
        have hn3 : Hold _ := hn2
        clear hn2
        repeat' (first | (with_reducible refine T.sq fun K hK => ?_) | ((first | ((with_reducible refine T.reg hE ?hd ?_); (case hd => kernel_rfl)) | ((with_reducible refine T.any hE mixed ?hd ?hok ?_); (case hd => kernel_rfl); (case hok => kernel_rfl))); simp [*]; (repeat' (split; all_goals (rename_i hc; try simp [*])))) | ((with_reducible refine T.ret ?_); refine fin_pure ?_; simp [*]; try (change Hold _)) | (with_reducible refine T.block ?_) | ((with_reducible refine T.skip ?_); simp [*]) | ((with_reducible refine T.exit ?_); simp [*]) | ((with_reducible refine T.br fun K1 K2 hK1 hK2 => ?_); simp [*]; try ((refine Br.intro (fun hc => ?_) (fun hc => ?_)) <;> (try simp at hc))) | (with_reducible refine Cont.go (by assumption) _ ?_) | (with_reducible refine Cnt.go (by assumption) ?_))
        all_goals (unfold Hold at *; first | (rw [hn3]; done) | (rw [← hF, hn3]; done))
    · have w8 : j = a.kids.length := by omega
      have w9 : a.kids.take j = a.kids := by rw [w8, List.take_length]
      have w10 : b.kids.take j = b.kids := by rw [w8, ← c3, List.take_length]
      rw [w9, w10] at g11
      unfold Hold at hn2 g11
      rw [g11] at hn2
      have hn3 : Hold _ := hn2
      clear w9 w10 hn2
      repeat' (first | (with_reducible refine T.sq fun K hK => ?_) | ((first | ((with_reducible refine T.reg hE ?hd ?_); (case hd => kernel_rfl)) | ((with_reducible refine T.any hE mixed ?hd ?hok ?_); (case hd => kernel_rfl); (case hok => kernel_rfl))); simp [*]; (repeat' (split; all_goals (rename_i hc; try simp [*])))) | ((with_reducible refine T.ret ?_); refine fin_pure ?_; simp [*]; try (change Hold _)) | (with_reducible refine T.block ?_) | ((with_reducible refine T.skip ?_); simp [*]) | ((with_reducible refine T.exit ?_); simp [*]) | ((with_reducible refine T.br fun K1 K2 hK1 hK2 => ?_); simp [*]; try ((refine Br.intro (fun hc => ?_) (fun hc => ?_)) <;> (try simp at hc))) | (with_reducible refine Cont.go (by assumption) _ ?_) | (with_reducible refine Cnt.go (by assumption) ?_))
      all_goals (unfold Hold at *; first | (rw [hn3]; done) | (rw [← hF, hn3]; done))
  · cases hr
@[simp] noncomputable def gSwapd : List V → Option V := f4 kE kE kE kE fun a b t u => if okSwP a b t u 0 then some (.bool (swE t u (vaE t ||| vaE u) a b true)) else none
theorem ok_swapped : PureOk Tryz.prog 131 gSwapd := by
  intro args r h
  obtain ⟨a, b, t, u, rfl, hr⟩ := f4_inv h; clear h
  split at hr
  · rename_i hm
    cases hr
    obtain ⟨ha0, hb0, ht0, hx0, _⟩ := hm
    have h1 := vaE_lt (right_zero ht0).2.2
    have h2 := vaE_lt (right_zero hx0).2.2
    have v1 : setV vaE t = _ := setV_good ht0
    have v2 : setV vaE u = _ := setV_good hx0
    have h3 := or_lt h1 h2
    have hbt : bits .or .u64 (vaE t : Nat) (vaE u : Nat) = ((vaE t ||| vaE u : Nat) : Int) := bits_or rfl (by simpa [IntKind.bits] using h1) (by simpa [IntKind.bits] using h2)
    have hok : okSwP a b t u ((vaE t ||| vaE u : Nat) : Int) := ⟨ha0, hb0, ht0, hx0, u64_nat h3⟩
    have hE := (((EnvOk.nil (P := Tryz.prog) (eq := fun _ => false) (own := fun _ => false) (mem := fun _ => false) EqOk.none).addf ok_Vars).addf ok_sSwap)
    refine ⟨⟨Tryz.f131, Tryz.func131, by decide, rfl⟩, pure_of_T Tryz.func131 rfl (by simp [Tryz.ntmps131]) fun q => ?_⟩
    repeat' (first | (with_reducible refine T.sq fun K hK => ?_) | ((first | ((with_reducible refine T.reg hE ?hd ?_); (case hd => kernel_rfl)) | ((with_reducible refine T.any hE mixed ?hd ?hok ?_); (case hd => kernel_rfl); (case hok => kernel_rfl))); simp [*]; (repeat' (split; all_goals (rename_i hc; try simp [*])))) | ((with_reducible refine T.ret ?_); refine fin_pure ?_; simp [*]; try (change Hold _)) | (with_reducible refine T.block ?_) | ((with_reducible refine T.skip ?_); simp [*]) | ((with_reducible refine T.exit ?_); simp [*]) | ((with_reducible refine T.br fun K1 K2 hK1 hK2 => ?_); simp [*]; try ((refine Br.intro (fun hc => ?_) (fun hc => ?_)) <;> (try simp at hc))) | (with_reducible refine Cont.go (by assumption) _ ?_) | (with_reducible refine Cnt.go (by assumption) ?_))
    all_goals (unfold Hold; first | rfl | (simp [*]; done))
  · cases hr
def swErr (a b t u : Ex) : Int := sortE [a, b, t, u] ⟨#[102, 102, 116, 116]⟩
def swB (a b t u : Ex) : Bool := decide (swErr a b t u = 0) && swE t u (vaE t ||| vaE u) a b true
@[simp] noncomputable def gSwapped : List V → Option V := f4 kE kE kE kE fun a b t u => some (.tup [.bool (swB a b t u), .int .i64 (swErr a b t u)])
end Go.Proofs.YtibfdebhbibfpaaGreat.Ax
