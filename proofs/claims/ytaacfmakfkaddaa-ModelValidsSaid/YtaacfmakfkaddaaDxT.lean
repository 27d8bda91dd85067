/- Rows in boxes that are written no more; values of variables, one of them another one. -/
import Derived.Test.YtaacfmakfkaddaaCxQ
import Derived.Test.YtaacfmakfkaddaaAxY
set_option linter.unusedVariables false
set_option linter.unusedSimpArgs false
namespace Go.Proofs.Ytaacfmakfkaddaa.Ax
section
open Go
/-- Cells in records of so many. -/
def chunk (s : Nat) (cs : List V) (n : Nat) : List (List V) := (List.range n).map fun i => (cs.drop (i * s)).take s
theorem chunk_len (s : Nat) (cs : List V) (n : Nat) : (chunk s cs n).length = n := by simp [chunk]
/-- The row in a box that a slot points to is written no more. -/
def frzG (t : Nat) (σ : St) : St := match σ.get t with
  | .gs id len s => match σ.M id with
    | some (.cells cs) => if cs.length = len * s ∧ 0 < s then { σ with get := fun u => if u = t then .sl (chunk s cs len) .no else σ.get u, M := upd σ.M id none } else σ
    | _ => σ
  | _ => σ
theorem rep_chunk {G : Ghost} {id : Path} {b c s len : Nat} {arr : Array Value} {cs : List V} (hba : BoxAt G id b arr cs) (hle : G.le (G.frzB b arr)) (hcs : cs.length = len * s) (hc : len ≤ c) (hm : c ≤ 9223372036854775807) :
    Rep (G.frzB b arr) (.slice (some ⟨b, 0, none⟩) len c) (.sl (chunk s cs len) .no) := by
  have hget : ∀ (i j : Nat) el x, (chunk s cs len)[i]? = some el → el[j]? = some x → cs[i * s + j]? = some x := fun i j el x h1 h2 => by
    unfold chunk at h1
    rw [List.getElem?_map] at h1
    obtain ⟨i', hi, rfl⟩ := Option.map_eq_some_iff.1 h1
    have hi2 := (List.getElem?_eq_some_iff.1 hi)
    obtain ⟨hlt, e⟩ := hi2
    simp only [List.getElem_range] at e
    subst e
    rw [List.getElem?_take] at h2
    split at h2
    · rw [List.getElem?_drop] at h2; exact h2
    · cases h2
  have key := Rep.sl (G := G.frzB b arr) b 0 c s (chunk s cs len) .no (fun i j => arr[i * s + j]?.getD undef) (fun el hel => by
    unfold chunk at hel
    obtain ⟨i, hi, rfl⟩ := List.mem_map.1 hel
    have hi : i < len := by simpa using hi
    rw [List.length_take, List.length_drop, hcs]
    have : (i + 1) * s ≤ len * s := Nat.mul_le_mul_right _ hi
    rw [Nat.add_mul] at this
    omega) (by rw [chunk_len]; exact hc) hm (fun i j el x h1 h2 => by simpa using (hba.frz hle (hget i j el x h1 h2)).1) (fun i j el x h1 h2 => (hba.frz hle (hget i j el x h1 h2)).2) (by simp) (by simp)
  rw [chunk_len] at key
  exact key
theorem Rel.frzG {N : Nat} {p : Path} {σ : St} {ds : List Deferred} {G : Ghost} {a : Act} {w : World} (h : Rel N p ds G σ a w) (t : Nat) (ht : t < N) : Frzd N p ds G σ (Ax.frzG t σ) a w := by
  unfold Ax.frzG
  split
  · rename_i id len s hg
    split
    · rename_i cs hm
      split
      · rename_i hlc
        refine Frzd.box h t ht hm _ fun b arr v hl hba hle hv => ?_
        rw [hg] at hv
        cases hv with
        | gs _ _ _ c b' hb' hgw hcc hmx =>
          rw [hl] at hb'; cases hb'
          exact rep_chunk hba hle hlc.1 hcc hmx
      · exact .same h
    · exact .same h
  · exact .same h
theorem T.frzG {P : Program} {ro : Option Nat} {N : Nat} {p : Path} {σ : St} {Q : Post} {c : Code} (t : Nat) (ht : t < N) (h : T P ro N p c (Ax.frzG t σ) Q) : T P ro N p c σ Q := T.frzd (fun _ _ _ _ hR => hR.frzG t ht) h
theorem chunk_ints (k : IntKind) (l : List Int) {n : Nat} (h : l.length = n) : chunk 1 (l.map (V.int k)) n = encI k l := by
  subst h
  unfold chunk encI
  apply List.ext_getElem
  · simp
  · intro i h1 h2
    have hi : i < l.length := by simpa using h1
    simp only [List.getElem_map, List.getElem_range, Nat.mul_one]
    rw [List.drop_eq_getElem_cons (by simpa using hi)]
    simp
end
section
open Go Go.Proofs
def mEnvG : Path → List V → Mem → Toks → Option (V × Mem × Toks) := fun q args M K => match args with
  | [ev] => match (kIs .i64).dec ev with
    | some env => some (.gs (63 :: 24 :: q) 64 1, upd M (63 :: 24 :: q) (some (.cells (encA (envL env)))), K)
    | none => none
  | _ => none
@[simp] theorem mEnvG_ap (q : Path) (ev : V) (M : Mem) (K : Toks) : mEnvG q [ev] M K = match (kIs .i64).dec ev with
    | some env => some (.gs (63 :: 24 :: q) 64 1, upd M (63 :: 24 :: q) (some (.cells (encA (envL env)))), K)
    | none => none := rfl
theorem encA_snoc (l : List Int) (n : Int) : encA l ++ [V.int .i64 n] = encA (l ++ [n]) := by simp [encA]
set_option maxHeartbeats 2000000 in
theorem ok_rEnvG : MemOk Try.prog 15 mEnvG := by
  intro q args M K0 z M' K' h
  unfold mEnvG at h
  split at h
  · rename_i ev
    split at h
    · rename_i env he
      obtain rfl := (kIs .i64).inv _ _ he
      clear he
      simp only [Option.some.injEq, Prod.mk.injEq] at h
      obtain ⟨rfl, rfl, rfl⟩ := h
      refine ⟨⟨Try.f15, Try.func15, by decide, rfl⟩, fun id hid hn => ?_, ?_⟩
      · rw [upd_ne _ _ (fun e => hid (by rw [e]; exact own_suf q 63 24))]; exact hn
      have hE := ((EnvOk.nil (P := Try.prog) (eq := fun _ => false) (own := fun _ => false) (mem := fun _ => false) EqOk.none).withGd (fun d => d == 22))
      refine ctr_of_T Try.func15 rfl (by simp [Try.ntmps15]) fun hMq hKq => ?_
      have hr0 : List.range 0 = [] := rfl
      have hr1 : List.range 1 = [0] := rfl
      repeat' (first | (with_reducible refine T.sq fun K hK => ?_) | ((first | ((with_reducible refine T.reg hE ?hd ?_); (case hd => kernel_rfl)) | ((with_reducible refine T.any hE mixed ?hd ?hok ?_); (case hd => kernel_rfl); (case hok => kernel_rfl))); simp [*]; (repeat' (split; all_goals (rename_i hc; try simp [*])))) | ((with_reducible refine T.ret ?_); (refine fin_mem (by simp [*]) ?_ ?_)) | (with_reducible refine T.block ?_) | ((with_reducible refine T.skip ?_); simp [*]) | ((with_reducible refine T.exit ?_); simp [*]) | ((with_reducible refine T.br fun K1 K2 hK1 hK2 => ?_); simp [*]; try ((refine Br.intro (fun hc => ?_) (fun hc => ?_)) <;> (try simp at hc))) | (with_reducible refine Cont.go (by assumption) _ ?_) | (with_reducible refine Cnt.go (by assumption) ?_))
      refine T.len (t := 0) (els := encI .i64 env) (tk := .no) (by simp [*]) fun hlen => ?_
      rw [encI_length] at hlen
      refine T.loop (fun n σ => ∃ (j : Nat) (w : V), n = 64 - j ∧ σ.get 0 = .sl (encI .i64 env) .no ∧ σ.get 4 = .int .i64 j ∧ σ.get 3 = w ∧ j ≤ 64 ∧ σ.cnt 24 = j ∧ (∀ id, ¬ q <:+ id → σ.M id = M id) ∧ (∀ t, K0 t = true → σ.K t = true) ∧
        Hold ((j = 0 ∧ w = .sl [] .ex) ∨ ∃ i, j = i + 1 ∧ w = .gs (i :: 24 :: q) j 1 ∧ σ.M (i :: 24 :: q) = some (.cells (encA ((envL env).take j))))) 64 ⟨0, .sl [] .ex, by simp [Hold]⟩ ?_
      rintro n σ ⟨j, w, rfl, g0, g1, g2, g3, g5, gF, gK, g4⟩
      by_cases hj : j < 64
      · have hw : IntKind.i64.wrap ((j : Int) + 1) = (j : Int) + 1 := wrap64 (by omega) (by omega)
        have hw1 : IntKind.i64.wrap 1 = 1 := wrap64 (by omega) (by omega)
        have hji : (j : Int) < 64 := by omega
        have ht := envL_take env j hj
        have hl : ((envL env).take j).length = j := by rw [List.length_take, envL_len]; omega
        have hcap : (j + 1) * 8 ≤ 140737488355328 := by omega
        have hsn : encA ((envL env).take j) ++ [V.int .i64 (env.getD j 0)] = encA ((envL env).take (j + 1)) := by rw [ht]; exact encA_snoc _ _
        have hn : ∀ id : Path, ¬ q <:+ id → ∀ c d, ¬ id = c :: d :: q := fun id h1 c d e => h1 (by rw [e]; exact own_suf q c d)
        clear ht
        by_cases hjl : j < env.length
        · have hjli : (j : Int) < (env.length : Int) := by omega
          have hg : env.getD j 0 = env[j] := by simp [List.getD_eq_getElem?_getD, hjl]
          rw [hg] at hsn
          clear hg
          rcases g4 with ⟨rfl, rfl⟩ | ⟨i, rfl, rfl, g6⟩
          · have hsn2 : Hold ([V.int .i64 env[0]] = encA ((envL env).take 1)) := hsn
            clear hsn
            repeat' (first | (with_reducible refine T.sq fun K hK => ?_) | ((first | ((with_reducible refine T.reg hE ?hd ?_); (case hd => kernel_rfl)) | ((with_reducible refine T.any hE mixed ?hd ?hok ?_); (case hd => kernel_rfl); (case hok => kernel_rfl))); simp [*]; (repeat' (split; all_goals (rename_i hc; try simp [*])))) | ((with_reducible refine T.ret ?_); (refine fin_mem (by simp [*]) ?_ ?_)) | (with_reducible refine T.block ?_) | ((with_reducible refine T.skip ?_); simp [*]) | ((with_reducible refine T.exit ?_); simp [*]) | ((with_reducible refine T.br fun K1 K2 hK1 hK2 => ?_); simp [*]; try ((refine Br.intro (fun hc => ?_) (fun hc => ?_)) <;> (try simp at hc))) | (with_reducible refine Cont.go (by assumption) _ ?_) | (with_reducible refine Cnt.go (by assumption) ?_))
            refine ⟨64 - 1, by omega, 1, rfl, by omega, by omega, by simp, fun id h1 => by simp [hn id h1, gF id h1], gK, ?_⟩
            unfold Hold at *
            exact ⟨0, rfl, ⟨rfl, rfl⟩, by simp [hsn2]⟩
          · have hji2 : (i : Int) + 1 < 64 := by omega
            have hw2 : IntKind.i64.wrap ((i : Int) + 1 + 1) = (i : Int) + 1 + 1 := wrap64 (by omega) (by omega)
            have hjl2 : (i : Int) + 1 < (env.length : Int) := by omega
            have hi0 : (0 : Int) ≤ (i : Int) + 1 := by omega
            repeat' (first | (with_reducible refine T.sq fun K hK => ?_) | ((first | ((with_reducible refine T.reg hE ?hd ?_); (case hd => kernel_rfl)) | ((with_reducible refine T.any hE mixed ?hd ?hok ?_); (case hd => kernel_rfl); (case hok => kernel_rfl))); simp [*]; (repeat' (split; all_goals (rename_i hc; try simp [*])))) | ((with_reducible refine T.ret ?_); (refine fin_mem (by simp [*]) ?_ ?_)) | (with_reducible refine T.block ?_) | ((with_reducible refine T.skip ?_); simp [*]) | ((with_reducible refine T.exit ?_); simp [*]) | ((with_reducible refine T.br fun K1 K2 hK1 hK2 => ?_); simp [*]; try ((refine Br.intro (fun hc => ?_) (fun hc => ?_)) <;> (try simp at hc))) | (with_reducible refine Cont.go (by assumption) _ ?_) | (with_reducible refine Cnt.go (by assumption) ?_))
            refine ⟨64 - (i + 1 + 1), by omega, i + 1 + 1, rfl, by omega, by omega, rfl, fun id h1 => by simp [hn id h1, gF id h1], gK, ?_⟩
            unfold Hold at *
            exact ⟨i + 1, rfl, ⟨rfl, rfl⟩, by simp⟩
        · have hjli : ¬ (j : Int) < (env.length : Int) := by omega
          have hg : env.getD j 0 = 0 := by rw [List.getD_eq_getElem?_getD, List.getElem?_eq_none (by omega)]; rfl
          rw [hg] at hsn
          clear hg
          rcases g4 with ⟨rfl, rfl⟩ | ⟨i, rfl, rfl, g6⟩
          · have hjl0 : ¬ (0 : Int) < (env.length : Int) := by omega
            have hsn2 : Hold ([V.int .i64 0] = encA ((envL env).take 1)) := hsn
            clear hsn
            repeat' (first | (with_reducible refine T.sq fun K hK => ?_) | ((first | ((with_reducible refine T.reg hE ?hd ?_); (case hd => kernel_rfl)) | ((with_reducible refine T.any hE mixed ?hd ?hok ?_); (case hd => kernel_rfl); (case hok => kernel_rfl))); simp [*]; (repeat' (split; all_goals (rename_i hc; try simp [*])))) | ((with_reducible refine T.ret ?_); (refine fin_mem (by simp [*]) ?_ ?_)) | (with_reducible refine T.block ?_) | ((with_reducible refine T.skip ?_); simp [*]) | ((with_reducible refine T.exit ?_); simp [*]) | ((with_reducible refine T.br fun K1 K2 hK1 hK2 => ?_); simp [*]; try ((refine Br.intro (fun hc => ?_) (fun hc => ?_)) <;> (try simp at hc))) | (with_reducible refine Cont.go (by assumption) _ ?_) | (with_reducible refine Cnt.go (by assumption) ?_))
            refine ⟨64 - 1, by omega, 1, rfl, by omega, by omega, by simp, fun id h1 => by simp [hn id h1, gF id h1], gK, ?_⟩
            unfold Hold at *
            exact ⟨0, rfl, ⟨rfl, rfl⟩, by simp [hsn2]⟩
          · have hji2 : (i : Int) + 1 < 64 := by omega
            have hw2 : IntKind.i64.wrap ((i : Int) + 1 + 1) = (i : Int) + 1 + 1 := wrap64 (by omega) (by omega)
            have hjl2 : ¬ (i : Int) + 1 < (env.length : Int) := by omega
            repeat' (first | (with_reducible refine T.sq fun K hK => ?_) | ((first | ((with_reducible refine T.reg hE ?hd ?_); (case hd => kernel_rfl)) | ((with_reducible refine T.any hE mixed ?hd ?hok ?_); (case hd => kernel_rfl); (case hok => kernel_rfl))); simp [*]; (repeat' (split; all_goals (rename_i hc; try simp [*])))) | ((with_reducible refine T.ret ?_); (refine fin_mem (by simp [*]) ?_ ?_)) | (with_reducible refine T.block ?_) | ((with_reducible refine T.skip ?_); simp [*]) | ((with_reducible refine T.exit ?_); simp [*]) | ((with_reducible refine T.br fun K1 K2 hK1 hK2 => ?_); simp [*]; try ((refine Br.intro (fun hc => ?_) (fun hc => ?_)) <;> (try simp at hc))) | (with_reducible refine Cont.go (by assumption) _ ?_) | (with_reducible refine Cnt.go (by assumption) ?_))
            refine ⟨64 - (i + 1 + 1), by omega, i + 1 + 1, rfl, by omega, by omega, rfl, fun id h1 => by simp [hn id h1, gF id h1], gK, ?_⟩
            unfold Hold at *
            exact ⟨i + 1, rfl, ⟨rfl, rfl⟩, by simp⟩
      · have hj2 : j = 64 := by omega
        subst hj2
        rcases g4 with ⟨g5, rfl⟩ | ⟨i, hi, rfl, g6⟩
        · exact absurd g5 (by omega)
        · obtain rfl : i = 63 := by omega
          have hv : (envL env).take 64 = envL env := List.take_of_length_le (by rw [envL_len]; omega)
          rw [hv] at g6
          clear hv
          repeat' (first | (with_reducible refine T.sq fun K hK => ?_) | ((first | ((with_reducible refine T.reg hE ?hd ?_); (case hd => kernel_rfl)) | ((with_reducible refine T.any hE mixed ?hd ?hok ?_); (case hd => kernel_rfl); (case hok => kernel_rfl))); simp [*]; (repeat' (split; all_goals (rename_i hc; try simp [*])))) | ((with_reducible refine T.ret ?_); (refine fin_mem (by simp [*]) ?_ ?_)) | (with_reducible refine T.block ?_) | ((with_reducible refine T.skip ?_); simp [*]) | ((with_reducible refine T.exit ?_); simp [*]) | ((with_reducible refine T.br fun K1 K2 hK1 hK2 => ?_); simp [*]; try ((refine Br.intro (fun hc => ?_) (fun hc => ?_)) <;> (try simp at hc))) | (with_reducible refine Cont.go (by assumption) _ ?_) | (with_reducible refine Cnt.go (by assumption) ?_))
          · intro id hid
            by_cases e1 : id = 63 :: 24 :: q
            · subst e1; simp [g6]
            · have hm : M id ≠ none := by rwa [upd_ne _ _ e1] at hid
              simp [e1, gF id (fun h => hm (hMq id h))]
          · intro u hu; simpa using gK u hu
    · cases h
  · cases h
end
end Go.Proofs.Ytaacfmakfkaddaa.Ax
