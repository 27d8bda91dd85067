/- Contracts: the common form, made by the program. -/
import Derived.Test.YtaacfmakfkaddaaDoorDxY
import Derived.Test.YtaacfmakfkaddaaDoorCxR
import Derived.Test.YtaacfmakfkaddaaDoorBxM
import Derived.Test.YtaacfmakfkaddaaDoorBxZ
set_option linter.unusedVariables false
set_option linter.unusedSimpArgs false
namespace Go.Proofs.YtaacfmakfkaddaaDoor.Ax
open Go Go.Proofs

def cnV (o : Option Ex) : V := match o with
  | some e => .tup [enc e, .int .i64 0]
  | none => .tup [enc ex0, .int .i64 51]
theorem optL_head {α β : Type} {f : α → Option β} {l : List α} {j : Nat} (h : j < l.length) {L : List β} (h1 : optL f (l.take j) = some L) : (∃ y, f l[j] = some y ∧ optL f (l.take (j + 1)) = some (L ++ [y])) ∨ (f l[j] = none ∧ optL f l = none) := by
  cases hf : f l[j] with
  | none => exact .inr ⟨rfl, optL_none f l j h hf⟩
  | some y => exact .inl ⟨y, rfl, optL_take f l j h h1 hf⟩
def Nm (x : List Int) : Prop := ∀ z ∈ x, 0 ≤ z ∧ z ≤ 64
def okPc (e : Ex) (x : List Int) (u : Int) : Prop := allX e = true ∧ x.length = 64 ∧ Nm x ∧ isU64 u
noncomputable instance (e : Ex) (x : List Int) (u : Int) : Decidable (okPc e x u) := Classical.propDecidable _
@[simp] noncomputable def gPc : List V → Option V := f3 kE kA (kI .u64) fun e x u => if okPc e x u then some (cnV (pcE e x u.toNat)) else none
theorem nm_get {x : List Int} (h : Nm x) {i : Nat} (hi : i < x.length) : 0 ≤ x[i] ∧ x[i] ≤ 64 := h _ (List.getElem_mem hi)
theorem nm_set {x : List Int} (h : Nm x) (i : Nat) {z : Int} (h0 : 0 ≤ z) (h1 : z ≤ 64) : Nm (x.set i z) := fun y hy => by
  rcases List.mem_or_eq_of_mem_set hy with h2 | h2
  · exact h y h2
  · rw [h2]; exact ⟨h0, h1⟩
/-- What is done with the kids. -/
def pcK (F : Ex → Option Ex) (k i : Int) (l : List Ex) : Option Ex := (optL F l).map (.mk k i)
set_option maxHeartbeats 4000000 in
theorem ok_canon : PureOk Tryd.prog 33 gPc := by
  refine rec3 fun e ih x u r hr => ?_
  split at hr
  · rename_i hm
    obtain ⟨ha, hx, hnm, hu0⟩ := hm
    cases hr
    obtain ⟨u, rfl, hu⟩ := u64_of hu0
    simp only [Int.toNat_natCast] at *
    have hE := (((((EnvOk.nil (P := Tryd.prog) (eq := fun _ => false) (own := fun _ => false) (mem := fun _ => false) EqOk.none).addf ok_sBinds).addf ok_sLeast).addf ok_wWith).addf ih)
    refine ⟨⟨Tryd.f33, Tryd.func33, by decide, rfl⟩, pure_of_T Tryd.func33 rfl (by simp [Tryd.ntmps33]) fun q => ?_⟩
    have hpe := pcE_eq e x u
    have hsm := small_all ha
    rw [smE_eq, Bool.and_eq_true, decide_eq_true_eq] at hsm
    have hsm1 := hsm.1
    clear hsm
    have hokk : ∀ (j : Nat) (hj : j < e.kids.length), allX e.kids[j] = true := fun j hj => allX_kid ha j hj
    have hxl : ∀ {z : Int}, 0 ≤ z → z ≤ 63 → z.toNat < x.length := fun h0 h1 => by omega
    refine T.sq fun K hK => ?_
    obtain ⟨hgo⟩ := hK
    repeat' (first | (with_reducible refine T.sq fun K hK => ?_) | ((first | ((with_reducible refine T.reg hE ?hd ?_); (case hd => kernel_rfl)) | ((with_reducible refine T.any hE mixed ?hd ?hok ?_); (case hd => kernel_rfl); (case hok => kernel_rfl))); simp [*]; (repeat' (split; all_goals (rename_i hc; try simp [*])))) | ((with_reducible refine T.ret ?_); refine fin_pure ?_; simp [*]; try (change Hold _)) | (with_reducible refine T.block ?_) | ((with_reducible refine T.skip ?_); simp [*]) | ((with_reducible refine T.exit ?_); simp [*]) | ((with_reducible refine T.br fun K1 K2 hK1 hK2 => ?_); simp [*]; try ((refine Br.intro (fun hc => ?_) (fun hc => ?_)) <;> (try simp at hc))) | (with_reducible refine Cont.go (by assumption) _ ?_) | (with_reducible refine Cnt.go (by assumption) ?_))
    refine hgo _ ?_
    clear hgo
    refine T.sq fun K hK => ?_
    obtain ⟨hgo⟩ := hK
    repeat' (first | (with_reducible refine T.sq fun K hK => ?_) | ((first | ((with_reducible refine T.reg hE ?hd ?_); (case hd => kernel_rfl)) | ((with_reducible refine T.any hE mixed ?hd ?hok ?_); (case hd => kernel_rfl); (case hok => kernel_rfl))); simp [*]; (repeat' (split; all_goals (rename_i hc; try simp [*])))) | ((with_reducible refine T.ret ?_); refine fin_pure ?_; simp [*]; try (change Hold _)) | (with_reducible refine T.block ?_) | ((with_reducible refine T.skip ?_); simp [*]) | ((with_reducible refine T.exit ?_); simp [*]) | ((with_reducible refine T.br fun K1 K2 hK1 hK2 => ?_); simp [*]; try ((refine Br.intro (fun hc => ?_) (fun hc => ?_)) <;> (try simp at hc))) | (with_reducible refine Cont.go (by assumption) _ ?_) | (with_reducible refine Cnt.go (by assumption) ?_))
    refine hgo _ ?_
    clear hgo
    refine T.sq fun K0 hK0 => ?_
    suffices j0 : ∀ (I : Int) (σ : St), (Hold (I = if e.k = 1 ∧ 0 < x.getD e.i.toNat 0 then x.getD e.i.toNat 0 - 1 else e.i) ∧ σ.get 2 = .int .u64 (u : Nat) ∧ σ.get 3 = .ptr (0 :: 5 :: q) 0 ∧ σ.get 4 = .ptr (0 :: 6 :: q) 0 ∧ σ.get 6 = .ptr (0 :: 8 :: q) 0 ∧ σ.get 8 = .ptr (0 :: 10 :: q) 0 ∧ σ.M (0 :: 5 :: q) = some (.cells (encC e)) ∧ σ.M (0 :: 6 :: q) = some (.cells (encA x)) ∧ (∃ c0 c1 c2, σ.M (0 :: 8 :: q) = some (.cells [c0, c1, c2])) ∧ σ.M (0 :: 10 :: q) = some (.cells [.int .i64 e.k, .int .i64 I, .nils])) → K0 σ by
      clear hK0
      have hxe : x.getD e.i.toNat 0 = x.getD e.i.toNat 0 := rfl
      by_cases c1 : e.k = 1
      · have va := shaped_var ha (.inl c1)
        have hi : e.i.toNat < x.length := hxl va.1 va.2
        have va1 : 0 ≤ e.i := va.1
        have va2 : e.i ≤ 63 := va.2
        have va3 : e.i < 64 := by omega
        have hg : x.getD e.i.toNat 0 = x[e.i.toNat] := by rw [List.getD_eq_getElem?_getD, List.getElem?_eq_getElem hi]; rfl
        have hn := nm_get hnm hi
        obtain ⟨z, hz⟩ : ∃ z, x[e.i.toNat] = z := ⟨_, rfl⟩
        rw [hz] at hg hn
        by_cases c2 : 0 < z
        · have hI : Hold (z - 1 = if e.k = 1 ∧ 0 < x.getD e.i.toNat 0 then x.getD e.i.toNat 0 - 1 else e.i) := by unfold Hold; rw [hg, if_pos ⟨c1, c2⟩]
          have hw : IntKind.i64.wrap (z - 1) = z - 1 := wrap64 (by omega) (by omega)
          clear hg hn va hxe
          repeat' (first | (with_reducible refine T.sq fun K hK => ?_) | ((first | ((with_reducible refine T.reg hE ?hd ?_); (case hd => kernel_rfl)) | ((with_reducible refine T.any hE mixed ?hd ?hok ?_); (case hd => kernel_rfl); (case hok => kernel_rfl))); simp [*]; (repeat' (split; all_goals (rename_i hc; try simp [*])))) | ((with_reducible refine T.ret ?_); refine fin_pure ?_; simp [*]; try (change Hold _)) | (with_reducible refine T.block ?_) | ((with_reducible refine T.skip ?_); simp [*]) | ((with_reducible refine T.exit ?_); simp [*]) | ((with_reducible refine T.br fun K1 K2 hK1 hK2 => ?_); simp [*]; try ((refine Br.intro (fun hc => ?_) (fun hc => ?_)) <;> (try simp at hc))) | (with_reducible refine Cont.go (by assumption) _ ?_) | (with_reducible refine Cnt.go (by assumption) ?_))
          all_goals (refine j0 _ _ ⟨hI, ?_, ?_, ?_, ?_, ?_, ?_, ?_, ?_, ?_⟩ <;> simp [*, encC_eq])
        · have hI : Hold (e.i = if e.k = 1 ∧ 0 < x.getD e.i.toNat 0 then x.getD e.i.toNat 0 - 1 else e.i) := by unfold Hold; rw [hg, if_neg (fun h => c2 h.2)]
          clear hg hn va hxe
          repeat' (first | (with_reducible refine T.sq fun K hK => ?_) | ((first | ((with_reducible refine T.reg hE ?hd ?_); (case hd => kernel_rfl)) | ((with_reducible refine T.any hE mixed ?hd ?hok ?_); (case hd => kernel_rfl); (case hok => kernel_rfl))); simp [*]; (repeat' (split; all_goals (rename_i hc; try simp [*])))) | ((with_reducible refine T.ret ?_); refine fin_pure ?_; simp [*]; try (change Hold _)) | (with_reducible refine T.block ?_) | ((with_reducible refine T.skip ?_); simp [*]) | ((with_reducible refine T.exit ?_); simp [*]) | ((with_reducible refine T.br fun K1 K2 hK1 hK2 => ?_); simp [*]; try ((refine Br.intro (fun hc => ?_) (fun hc => ?_)) <;> (try simp at hc))) | (with_reducible refine Cont.go (by assumption) _ ?_) | (with_reducible refine Cnt.go (by assumption) ?_))
          all_goals (refine j0 _ _ ⟨hI, ?_, ?_, ?_, ?_, ?_, ?_, ?_, ?_, ?_⟩ <;> simp [*, encC_eq])
      · have hI : Hold (e.i = if e.k = 1 ∧ 0 < x.getD e.i.toNat 0 then x.getD e.i.toNat 0 - 1 else e.i) := by unfold Hold; rw [if_neg (fun h => c1 h.1)]
        clear hxe
        repeat' (first | (with_reducible refine T.sq fun K hK => ?_) | ((first | ((with_reducible refine T.reg hE ?hd ?_); (case hd => kernel_rfl)) | ((with_reducible refine T.any hE mixed ?hd ?hok ?_); (case hd => kernel_rfl); (case hok => kernel_rfl))); simp [*]; (repeat' (split; all_goals (rename_i hc; try simp [*])))) | ((with_reducible refine T.ret ?_); refine fin_pure ?_; simp [*]; try (change Hold _)) | (with_reducible refine T.block ?_) | ((with_reducible refine T.skip ?_); simp [*]) | ((with_reducible refine T.exit ?_); simp [*]) | ((with_reducible refine T.br fun K1 K2 hK1 hK2 => ?_); simp [*]; try ((refine Br.intro (fun hc => ?_) (fun hc => ?_)) <;> (try simp at hc))) | (with_reducible refine Cont.go (by assumption) _ ?_) | (with_reducible refine Cnt.go (by assumption) ?_))
        all_goals (refine j0 _ _ ⟨hI, ?_, ?_, ?_, ?_, ?_, ?_, ?_, ?_, ?_⟩ <;> simp [*, encC_eq])
    rintro I σ ⟨hI, b2, b3, b4, b6, b8, n3, n4, ⟨c0, c1, c2, n6⟩, n8⟩
    refine hK0.go σ ?_
    clear hK0
    rw [encC_eq] at n3
    refine T.sq fun K1 hK1 => ?_
    suffices j1 : ∀ (F : Ex → Option Ex) (I : Int) (x' : List Int) (u' : Nat) (σ : St), (Hold (pcE e x u = pcK F e.k I e.kids) ∧ Hold (∀ y, F y = pcE y x' u') ∧ Hold (x'.length = 64 ∧ Nm x' ∧ u' < 18446744073709551616) ∧ σ.get 2 = .int .u64 (u' : Nat) ∧ σ.get 3 = .ptr (0 :: 5 :: q) 0 ∧ σ.get 4 = .ptr (0 :: 6 :: q) 0 ∧ σ.get 6 = .ptr (0 :: 8 :: q) 0 ∧ σ.get 8 = .ptr (0 :: 10 :: q) 0 ∧ σ.M (0 :: 5 :: q) = some (.cells (encC e)) ∧ σ.M (0 :: 6 :: q) = some (.cells (encA x')) ∧ (∃ c0 c1 c2, σ.M (0 :: 8 :: q) = some (.cells [c0, c1, c2])) ∧ σ.M (0 :: 10 :: q) = some (.cells [.int .i64 e.k, .int .i64 I, .nils])) → K1 σ by
      clear hK1
      have hlv : lsV u = .tup [.int .i64 (leastN u), .bool (decide (0 ≤ leastN u))] := rfl
      have hlr := least_range u
      by_cases c1 : isQ e = true
      · have c1' : e.k = 7 ∨ e.k = 10 := by simpa [isQ] using c1
        have va := shaped_var ha (.inr c1')
        rw [if_pos c1'] at hpe
        have hi : e.i.toNat < x.length := hxl va.1 va.2
        have s1 := encA_set x e.i.toNat (leastN u + 1) hi
        have va1 : 0 ≤ e.i := va.1
        have va2 : e.i ≤ 63 := va.2
        have va3 : e.i < 64 := by omega
        obtain ⟨z, hz⟩ : ∃ z, leastN u = z := ⟨_, rfl⟩
        rw [hz] at hlv hlr hpe s1
        by_cases c2 : z < 0
        · rw [if_pos c2] at hpe
          have hn : Hold (pcE e x u = none) := hpe
          have c3 : ¬ 0 ≤ z := by omega
          clear hpe va
          repeat' (first | (with_reducible refine T.sq fun K hK => ?_) | ((first | ((with_reducible refine T.reg hE ?hd ?_); (case hd => kernel_rfl)) | ((with_reducible refine T.any hE mixed ?hd ?hok ?_); (case hd => kernel_rfl); (case hok => kernel_rfl))); simp [*]; (repeat' (split; all_goals (rename_i hc; try simp [*])))) | ((with_reducible refine T.ret ?_); refine fin_pure ?_; simp [*]; try (change Hold _)) | (with_reducible refine T.block ?_) | ((with_reducible refine T.skip ?_); simp [*]) | ((with_reducible refine T.exit ?_); simp [*]) | ((with_reducible refine T.br fun K1 K2 hK1 hK2 => ?_); simp [*]; try ((refine Br.intro (fun hc => ?_) (fun hc => ?_)) <;> (try simp at hc))) | (with_reducible refine Cont.go (by assumption) _ ?_) | (with_reducible refine Cnt.go (by assumption) ?_))
          all_goals (unfold Hold at *; rw [hn]; rfl)
        · rw [if_neg c2] at hpe
          have c3 : 0 ≤ z := by omega
          have hw : IntKind.i64.wrap (z + 1) = z + 1 := wrap64 (by omega) (by omega)
          have hn : Hold (pcE e x u = pcK (fun y => pcE y (x.set e.i.toNat (z + 1)) (withN u z)) e.k z e.kids) := hpe
          have hf : Hold (∀ y, (fun y => pcE y (x.set e.i.toNat (z + 1)) (withN u z)) y = pcE y (x.set e.i.toNat (z + 1)) (withN u z)) := fun _ => rfl
          have hh : Hold ((x.set e.i.toNat (z + 1)).length = 64 ∧ Nm (x.set e.i.toNat (z + 1)) ∧ withN u z < 18446744073709551616) := ⟨by simpa using hx, nm_set hnm _ (by omega) (by omega), withN_lt hu⟩
          clear hpe va hI
          repeat' (first | (with_reducible refine T.sq fun K hK => ?_) | ((first | ((with_reducible refine T.reg hE ?hd ?_); (case hd => kernel_rfl)) | ((with_reducible refine T.any hE mixed ?hd ?hok ?_); (case hd => kernel_rfl); (case hok => kernel_rfl))); simp [*]; (repeat' (split; all_goals (rename_i hc; try simp [*])))) | ((with_reducible refine T.ret ?_); refine fin_pure ?_; simp [*]; try (change Hold _)) | (with_reducible refine T.block ?_) | ((with_reducible refine T.skip ?_); simp [*]) | ((with_reducible refine T.exit ?_); simp [*]) | ((with_reducible refine T.br fun K1 K2 hK1 hK2 => ?_); simp [*]; try ((refine Br.intro (fun hc => ?_) (fun hc => ?_)) <;> (try simp at hc))) | (with_reducible refine Cont.go (by assumption) _ ?_) | (with_reducible refine Cnt.go (by assumption) ?_))
          all_goals (refine j1 _ _ _ _ _ ⟨hn, hf, hh, ?_, ?_, ?_, ?_, ?_, ?_, ?_, ?_, ?_⟩ <;> simp [*, encC_eq])
      · have c1' : ¬ (e.k = 7 ∨ e.k = 10) := by simpa [isQ] using c1
        rw [Bool.not_eq_true] at c1
        rw [if_neg c1'] at hpe
        have hn : Hold (pcE e x u = pcK (fun y => pcE y x u) e.k I e.kids) := by unfold Hold at *; rw [hpe, hI]; rfl
        have hf : Hold (∀ y, (fun y => pcE y x u) y = pcE y x u) := fun _ => rfl
        have hh : Hold (x.length = 64 ∧ Nm x ∧ u < 18446744073709551616) := ⟨hx, hnm, hu⟩
        clear hpe hI hlv
        repeat' (first | (with_reducible refine T.sq fun K hK => ?_) | ((first | ((with_reducible refine T.reg hE ?hd ?_); (case hd => kernel_rfl)) | ((with_reducible refine T.any hE mixed ?hd ?hok ?_); (case hd => kernel_rfl); (case hok => kernel_rfl))); simp [*]; (repeat' (split; all_goals (rename_i hc; try simp [*])))) | ((with_reducible refine T.ret ?_); refine fin_pure ?_; simp [*]; try (change Hold _)) | (with_reducible refine T.block ?_) | ((with_reducible refine T.skip ?_); simp [*]) | ((with_reducible refine T.exit ?_); simp [*]) | ((with_reducible refine T.br fun K1 K2 hK1 hK2 => ?_); simp [*]; try ((refine Br.intro (fun hc => ?_) (fun hc => ?_)) <;> (try simp at hc))) | (with_reducible refine Cont.go (by assumption) _ ?_) | (with_reducible refine Cnt.go (by assumption) ?_))
        all_goals (refine j1 _ _ _ _ _ ⟨hn, hf, hh, ?_, ?_, ?_, ?_, ?_, ?_, ?_, ?_, ?_⟩ <;> simp [*, encC_eq])
    clear b2 b3 b4 b6 b8 n3 n4 n6 n8 hI hpe c0 c1 c2
    rintro F I x' u' σ ⟨hn, hf, hh, b2, b3, b4, b6, b8, n3, n4, ⟨c0, c1, c2, n6⟩, n8⟩
    refine hK1.go σ ?_
    clear hK1
    rw [encC_eq] at n3
    obtain ⟨hx1, hx2, hx3⟩ := hh
    have htk : List.take 64 (encA x') = encA x' := List.take_of_length_le (by rw [encA_length]; omega)
    have hokp : ∀ (j : Nat) (hj : j < e.kids.length), okPc e.kids[j] x' (u' : Nat) := fun j hj => ⟨hokk j hj, hx1, hx2, u64_nat hx3⟩
    clear hx hnm hu hu0 hxl hokk hx2
    repeat' (first | (with_reducible refine T.sq fun K hK => ?_) | ((first | ((with_reducible refine T.reg hE ?hd ?_); (case hd => kernel_rfl)) | ((with_reducible refine T.any hE mixed ?hd ?hok ?_); (case hd => kernel_rfl); (case hok => kernel_rfl))); simp [*]; (repeat' (split; all_goals (rename_i hc; try simp [*])))) | ((with_reducible refine T.ret ?_); refine fin_pure ?_; simp [*]; try (change Hold _)) | (with_reducible refine T.block ?_) | ((with_reducible refine T.skip ?_); simp [*]) | ((with_reducible refine T.exit ?_); simp [*]) | ((with_reducible refine T.br fun K1 K2 hK1 hK2 => ?_); simp [*]; try ((refine Br.intro (fun hc => ?_) (fun hc => ?_)) <;> (try simp at hc))) | (with_reducible refine Cont.go (by assumption) _ ?_) | (with_reducible refine Cnt.go (by assumption) ?_))
    refine T.len (t := 57) (els := encL e.kids) (tk := .no) (by simp [*]) fun hlen => ?_
    rw [encL_length] at hlen
    refine T.loop (fun n σ => ∃ (j : Nat) (w : V) (L : List Ex), n = e.kids.length - j ∧ σ.get 57 = .sl (encL e.kids) .no ∧ σ.get 58 = .int .i64 e.kids.length ∧ σ.get 59 = .int .i64 j ∧ j ≤ e.kids.length ∧ σ.get 2 = .int .u64 (u' : Nat) ∧ σ.get 4 = .ptr (0 :: 6 :: q) 0 ∧ σ.get 6 = .ptr (0 :: 8 :: q) 0 ∧ σ.get 8 = .ptr (0 :: 10 :: q) 0 ∧ σ.M (0 :: 6 :: q) = some (.cells (encA x')) ∧ (∃ c0 c1 c2, σ.M (0 :: 8 :: q) = some (.cells [c0, c1, c2])) ∧ σ.M (0 :: 10 :: q) = some (.cells [.int .i64 e.k, .int .i64 I, w]) ∧ Hold (optL F (e.kids.take j) = some L ∧ L.length = j) ∧ Hold ((L = [] ∧ w = .nils) ∨ (L ≠ [] ∧ ∃ id, w = .sl (encL L) (.own id 3) ∧ σ.K id = true))) e.kids.length ⟨0, .nils, [], by simp [*], by simp [*], by simp [*], by simp [*], by omega, by simp [*], by simp [*], by simp [*], by simp [*], by simp [*], ⟨c0, c1, c2, by simp [*]⟩, by simp [*], ⟨by rw [List.take_zero]; rfl, rfl⟩, .inl ⟨rfl, rfl⟩⟩ ?_
    clear b2 b3 b4 b6 b8 n3 n4 n6 n8 c0 c1 c2
    rintro n σ ⟨j, w, L, rfl, g1, g2, g3, g4, b2, b4, b6, b8, n4, ⟨c0, c1, c2, n6⟩, n8, g8, g9⟩
    obtain ⟨hL, hLj⟩ := g8
    by_cases hj : j < e.kids.length
    · have hw := wrap_succ hlen hj
      have hs := ex_kid_lt e j hj
      have hok := hokp j hj
      have u1 : (j + 1) * 40 ≤ 140737488355328 := by omega
      rcases optL_head hj hL with ⟨y, hy, hL2⟩ | ⟨hy, hno⟩
      · have hcv : cnV (pcE e.kids[j] x' u') = .tup [enc y, .int .i64 0] := by rw [← hf, hy]; rfl
        have hL2' : Hold (optL F (e.kids.take (j + 1)) = some (L ++ [y])) := hL2
        clear hy hL hL2 hf hokp
        rcases g9 with ⟨rfl, rfl⟩ | ⟨hj0, id, rfl, hK⟩
        · have hj1 : j = 0 := by rw [← hLj]; rfl
          subst hj1
          have hw1 : IntKind.i64.wrap 1 = 1 := wrap64 (by omega) (by omega)
          repeat' (first | (with_reducible refine T.sq fun K hK => ?_) | ((first | ((with_reducible refine T.reg hE ?hd ?_); (case hd => kernel_rfl)) | ((with_reducible refine T.any hE mixed ?hd ?hok ?_); (case hd => kernel_rfl); (case hok => kernel_rfl))); simp [*]; (repeat' (split; all_goals (rename_i hc; try simp [*])))) | ((with_reducible refine T.ret ?_); refine fin_pure ?_; simp [*]; try (change Hold _)) | (with_reducible refine T.block ?_) | ((with_reducible refine T.skip ?_); simp [*]) | ((with_reducible refine T.exit ?_); simp [*]) | ((with_reducible refine T.br fun K1 K2 hK1 hK2 => ?_); simp [*]; try ((refine Br.intro (fun hc => ?_) (fun hc => ?_)) <;> (try simp at hc))) | (with_reducible refine Cont.go (by assumption) _ ?_) | (with_reducible refine Cnt.go (by assumption) ?_))
          exact ⟨_, by omega, 1, rfl, rfl, by omega, [y], ⟨hL2', rfl⟩, by simp, _, ⟨by simp, rfl⟩, .inl rfl⟩
        · have hl3 : (∀ el : List V, el ∈ encL L → el.length = 3) = True := eq_true (encL_len3 L)
          have hll : (encL L).length = j := by rw [encL_length, hLj]
          have c4 : Hold (encL (L ++ [y]) = encL L ++ [[.int .i64 y.k, .int .i64 y.i, .sl (encL y.kids) .no]]) := by unfold Hold; rw [encL_append]; simp
          repeat' (first | (with_reducible refine T.sq fun K hK => ?_) | ((first | ((with_reducible refine T.reg hE ?hd ?_); (case hd => kernel_rfl)) | ((with_reducible refine T.any hE mixed ?hd ?hok ?_); (case hd => kernel_rfl); (case hok => kernel_rfl))); simp [*]; (repeat' (split; all_goals (rename_i hc; try simp [*])))) | ((with_reducible refine T.ret ?_); refine fin_pure ?_; simp [*]; try (change Hold _)) | (with_reducible refine T.block ?_) | ((with_reducible refine T.skip ?_); simp [*]) | ((with_reducible refine T.exit ?_); simp [*]) | ((with_reducible refine T.br fun K1 K2 hK1 hK2 => ?_); simp [*]; try ((refine Br.intro (fun hc => ?_) (fun hc => ?_)) <;> (try simp at hc))) | (with_reducible refine Cont.go (by assumption) _ ?_) | (with_reducible refine Cnt.go (by assumption) ?_))
          exact ⟨_, by omega, j + 1, rfl, by omega, by omega, L ++ [y], ⟨hL2', by simp [hLj]⟩, by simp, _, ⟨c4.symm, rfl⟩, .inl rfl⟩
      · have hcv : cnV (pcE e.kids[j] x' u') = .tup [enc ex0, .int .i64 51] := by rw [← hf, hy]; rfl
        have hn2 : Hold (pcE e x u = none) := by unfold Hold at *; rw [hn, pcK, hno]; rfl
        clear hy hno hL hf hokp g9 hn
        repeat' (first | (with_reducible refine T.sq fun K hK => ?_) | ((first | ((with_reducible refine T.reg hE ?hd ?_); (case hd => kernel_rfl)) | ((with_reducible refine T.any hE mixed ?hd ?hok ?_); (case hd => kernel_rfl); (case hok => kernel_rfl))); simp [*]; (repeat' (split; all_goals (rename_i hc; try simp [*])))) | ((with_reducible refine T.ret ?_); refine fin_pure ?_; simp [*]; try (change Hold _)) | (with_reducible refine T.block ?_) | ((with_reducible refine T.skip ?_); simp [*]) | ((with_reducible refine T.exit ?_); simp [*]) | ((with_reducible refine T.br fun K1 K2 hK1 hK2 => ?_); simp [*]; try ((refine Br.intro (fun hc => ?_) (fun hc => ?_)) <;> (try simp at hc))) | (with_reducible refine Cont.go (by assumption) _ ?_) | (with_reducible refine Cnt.go (by assumption) ?_))
        all_goals (unfold Hold at *; rw [hn2]; rfl)
    · have w8 : j = e.kids.length := by omega
      have hn2 : Hold (pcE e x u = some (.mk e.k I L)) := by unfold Hold at *; rw [w8, List.take_length] at hL; rw [hn, pcK, hL]; rfl
      clear hL hf hokp hn
      rcases g9 with ⟨rfl, rfl⟩ | ⟨hj0, id, rfl, hK⟩
      · repeat' (first | (with_reducible refine T.sq fun K hK => ?_) | ((first | ((with_reducible refine T.reg hE ?hd ?_); (case hd => kernel_rfl)) | ((with_reducible refine T.any hE mixed ?hd ?hok ?_); (case hd => kernel_rfl); (case hok => kernel_rfl))); simp [*]; (repeat' (split; all_goals (rename_i hc; try simp [*])))) | ((with_reducible refine T.ret ?_); refine fin_pure ?_; simp [*]; try (change Hold _)) | (with_reducible refine T.block ?_) | ((with_reducible refine T.skip ?_); simp [*]) | ((with_reducible refine T.exit ?_); simp [*]) | ((with_reducible refine T.br fun K1 K2 hK1 hK2 => ?_); simp [*]; try ((refine Br.intro (fun hc => ?_) (fun hc => ?_)) <;> (try simp at hc))) | (with_reducible refine Cont.go (by assumption) _ ?_) | (with_reducible refine Cnt.go (by assumption) ?_))
        all_goals (unfold Hold at *; rw [hn2]; simp [cnV])
      · repeat' (first | (with_reducible refine T.sq fun K hK => ?_) | ((first | ((with_reducible refine T.reg hE ?hd ?_); (case hd => kernel_rfl)) | ((with_reducible refine T.any hE mixed ?hd ?hok ?_); (case hd => kernel_rfl); (case hok => kernel_rfl))); simp [*]; (repeat' (split; all_goals (rename_i hc; try simp [*])))) | ((with_reducible refine T.ret ?_); refine fin_pure ?_; simp [*]; try (change Hold _)) | (with_reducible refine T.block ?_) | ((with_reducible refine T.skip ?_); simp [*]) | ((with_reducible refine T.exit ?_); simp [*]) | ((with_reducible refine T.br fun K1 K2 hK1 hK2 => ?_); simp [*]; try ((refine Br.intro (fun hc => ?_) (fun hc => ?_)) <;> (try simp at hc))) | (with_reducible refine Cont.go (by assumption) _ ?_) | (with_reducible refine Cnt.go (by assumption) ?_))
        all_goals (unfold Hold at *; rw [hn2]; simp [cnV])
  · cases hr
end Go.Proofs.YtaacfmakfkaddaaDoor.Ax
