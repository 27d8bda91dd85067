/- Contracts: expressions encoded; the law ExprBytes. -/
import Derived.Test.YtdpphpdjimmpbaaBxJ
set_option linter.unusedVariables false
set_option linter.unusedSimpArgs false
namespace Go.Proofs.Ytdpphpdjimmpbaa.Ax
open Go Go.Proofs

def byts (l : List (Int × Ex)) : List Int := l.flatMap fun x => sev (headN x.2)
theorem byts_append (l m : List (Int × Ex)) : byts (l ++ m) = byts l ++ byts m := by simp [byts]
mutual
theorem preE_byts : ∀ (e : Ex) (d : Int), byts (preE e d) = bytE e
  | .mk k i l, d => by
    rw [preE, bytE_eq]
    show sev (headN _) ++ byts (preL l _) = _
    rw [preL_byts l]; rfl
theorem preL_byts : ∀ (l : List Ex) (d : Int), byts (preL l d) = bytL l
  | [], d => by rw [preL, bytL]; rfl
  | e :: l, d => by rw [preL, bytL, byts_append, preE_byts e, preL_byts l]
end
theorem byts_take (l : List (Int × Ex)) (n : Nat) (x : Int × Ex) (h : l[n]? = some x) : byts (l.take (n + 1)) = byts (l.take n) ++ sev (headN x.2) := by
  rw [List.take_add_one, byts_append, h]; simp [byts]
theorem byts_len (l : List (Int × Ex)) (h : (l.all fun x => shapedX x.2) = true) : (byts l).length ≤ 5 * l.length := by
  induction l with
  | nil => simp [byts]
  | cons x l ih =>
    rw [List.all_cons, Bool.and_eq_true] at h
    have h1 := sev_len5 (head_lt h.1)
    have h2 := ih h.2
    show (sev (headN x.2) ++ byts l).length ≤ _
    rw [List.length_append, List.length_cons]; omega
def encodeV (e : Ex) : V := .tup [if rightE e = 0 then .sl (encI .u8 (bytE e)) .no else .sl [] .no, .int .i64 (rightE e)]
@[simp] def gEncode : List V → Option V := f1 kE fun e => some (encodeV e)
set_option maxHeartbeats 1000000 in
theorem ok_Encode : PureOk Try.prog 27 gEncode := by
  intro args r h
  obtain ⟨e, rfl, ⟨⟩⟩ := f1_inv h
  clear h
  have hE := (((((EnvOk.nil (P := Try.prog) (eq := fun _ => false) (own := fun _ => false) (mem := fun _ => false) EqOk.none).addf ok_nodes).addf ok_Right).addf ok_wPack).addf ok_wPut)
  refine ⟨⟨Try.f27, Try.func27, by decide, rfl⟩, pure_of_T Try.func27 rfl (by simp [Try.ntmps27]) fun q => ?_⟩
  by_cases v : rightE e = 0
  rotate_left
  · repeat' (first
      | (with_reducible refine T.sq fun K hK => ?_)
      | ((first | ((with_reducible refine T.reg hE ?hd ?_); (case hd => kernel_rfl)) | ((with_reducible refine T.any hE mixed ?hd ?hok ?_); (case hd => kernel_rfl); (case hok => kernel_rfl))); simp [*]; (repeat' (split; all_goals (rename_i hc; try simp [*]))))
      | ((with_reducible refine T.ret ?_); refine fin_pure ?_; simp [*]; try (change Hold _))
      | (with_reducible refine T.block ?_)
      | ((with_reducible refine T.skip ?_); simp [*])
      | ((with_reducible refine T.exit ?_); simp [*])
      | ((with_reducible refine T.br fun K1 K2 hK1 hK2 => ?_); simp [*]; try ((refine Br.intro (fun hc => ?_) (fun hc => ?_)) <;> (try simp at hc)))
      | (with_reducible refine Cont.go (by assumption) _ ?_)
      | (with_reducible refine Cnt.go (by assumption) ?_))
    unfold Hold encodeV; simp [v]
  obtain ⟨z1, z2, z3⟩ := right_zero v
  repeat' (first
    | (with_reducible refine T.sq fun K hK => ?_)
    | ((first | ((with_reducible refine T.reg hE ?hd ?_); (case hd => kernel_rfl)) | ((with_reducible refine T.any hE mixed ?hd ?hok ?_); (case hd => kernel_rfl); (case hok => kernel_rfl))); simp [*]; (repeat' (split; all_goals (rename_i hc; try simp [*]))))
    | ((with_reducible refine T.ret ?_); refine fin_pure ?_; simp [*]; try (change Hold _))
    | (with_reducible refine T.block ?_)
    | ((with_reducible refine T.skip ?_); simp [*])
    | ((with_reducible refine T.exit ?_); simp [*])
    | ((with_reducible refine T.br fun K1 K2 hK1 hK2 => ?_); simp [*]; try ((refine Br.intro (fun hc => ?_) (fun hc => ?_)) <;> (try simp at hc)))
    | (with_reducible refine Cont.go (by assumption) _ ?_)
    | (with_reducible refine Cnt.go (by assumption) ?_))
  refine T.range (gf := 121) (caps := [.cptr (encC e) 0]) (by simp) (iter_nodes e) (plain_caps e) (fun x hx => by obtain ⟨y, _, rfl⟩ := List.mem_map.1 hx; rfl) (fun n σ' => ∃ x, σ'.M (0 :: 7 :: q) = some (.cells [x]) ∧ Hold ((n = 0 ∧ x = .nils) ∨ (∃ c d, x = .sl (encI .u8 (byts ((preE e 1).take n))) (.own (c :: d :: q) 1) ∧ σ'.K (c :: d :: q) = true))) ⟨.nils, by simp, .inl ⟨rfl, rfl⟩⟩ ?_ ?_
  · rintro l n x σ' hx ⟨y, hM, hy⟩ hg
    rw [List.getElem?_map] at hx
    obtain ⟨⟨d1, e1⟩, hx1, rfl⟩ := Option.map_eq_some_iff.1 hx
    have hn : n < (preE e 1).length := (List.getElem?_eq_some_iff.1 hx1).1
    have hs1 : shapedX e1 = true := List.all_eq_true.1 z3 (d1, e1) (List.mem_of_getElem? hx1)
    have hf := shaped_fits hs1
    have hp : packV e1.k e1.i e1.kids.length = .tup [.int .u32 (e1.k * 16777216 + e1.i * 256 + e1.kids.length), .int .i64 0] := by unfold packV; rw [if_pos hf]
    have hh := head_lt hs1
    have he : ((headN e1 : Nat) : Int) = e1.k * 16777216 + e1.i * 256 + e1.kids.length := by unfold headN; omega
    have hu : IntKind.u64.wrap (e1.k * 16777216 + e1.i * 256 + e1.kids.length) = headN e1 := by rw [← he]; exact wrap64u (by omega)
    clear he
    have hu2 : isU64 (headN e1) := ⟨by omega, by omega⟩
    have hl5 := sev_len5 hh
    obtain ⟨a, al, has⟩ := sev_ne (headN e1)
    have hb : Hold (byts ((preE e 1).take (n + 1)) = byts ((preE e 1).take n) ++ (a :: al)) := by unfold Hold; rw [byts_take _ _ _ hx1, has]
    have hlen := byts_len _ (all_take _ _ n z3)
    rw [List.length_take] at hlen
    have z4 : (preE e 1).length ≤ 1000 := z1
    have hcap : (byts ((preE e 1).take n)).length + (al.length + 1) ≤ 140737488355328 := by rw [has] at hl5; simp at hl5; omega
    have hcap2 : al.length + 1 ≤ 140737488355328 := by omega
    simp only [encP]
    rcases hy with ⟨rfl, rfl⟩ | ⟨c, d, rfl, hK⟩
    · repeat' (first
        | (with_reducible refine T.sq fun K hK => ?_)
        | ((first | ((with_reducible refine T.reg hE ?hd ?_); (case hd => kernel_rfl)) | ((with_reducible refine T.any hE mixed ?hd ?hok ?_); (case hd => kernel_rfl); (case hok => kernel_rfl))); simp [*]; (repeat' (split; all_goals (rename_i hc; try simp [*]))))
        | ((with_reducible refine T.ret ?_); refine fin_pure ?_; simp [*]; try (change Hold _))
        | (with_reducible refine T.block ?_)
        | ((with_reducible refine T.skip ?_); simp [*])
        | ((with_reducible refine T.exit ?_); simp [*])
        | ((with_reducible refine T.br fun K1 K2 hK1 hK2 => ?_); simp [*]; try ((refine Br.intro (fun hc => ?_) (fun hc => ?_)) <;> (try simp at hc)))
        | (with_reducible refine Cont.go (by assumption) _ ?_)
        | (with_reducible refine Cnt.go (by assumption) ?_))
      unfold Hold at *
      exact ⟨_, _, ⟨by rw [hb, List.take_zero]; simp [byts], rfl, rfl⟩, .inl ⟨rfl, rfl⟩⟩
    · repeat' (first
        | (with_reducible refine T.sq fun K hK => ?_)
        | ((first | ((with_reducible refine T.reg hE ?hd ?_); (case hd => kernel_rfl)) | ((with_reducible refine T.any hE mixed ?hd ?hok ?_); (case hd => kernel_rfl); (case hok => kernel_rfl))); simp [*]; (repeat' (split; all_goals (rename_i hc; try simp [*]))))
        | ((with_reducible refine T.ret ?_); refine fin_pure ?_; simp [*]; try (change Hold _))
        | (with_reducible refine T.block ?_)
        | ((with_reducible refine T.skip ?_); simp [*])
        | ((with_reducible refine T.exit ?_); simp [*])
        | ((with_reducible refine T.br fun K1 K2 hK1 hK2 => ?_); simp [*]; try ((refine Br.intro (fun hc => ?_) (fun hc => ?_)) <;> (try simp at hc)))
        | (with_reducible refine Cont.go (by assumption) _ ?_)
        | (with_reducible refine Cnt.go (by assumption) ?_))
      unfold Hold at *
      exact ⟨_, _, ⟨by rw [hb, encI_append, encI_cons], rfl, rfl⟩, .inl ⟨rfl, rfl⟩⟩
  · rintro σ' ⟨y, hM, hy⟩ hg
    rcases hy with ⟨h0, rfl⟩ | ⟨c, d, rfl, hK⟩
    · rw [List.length_map, preE_eq] at h0; cases h0
    · rw [List.length_map, List.take_length, preE_byts] at hM
      simp
      repeat' (first
        | (with_reducible refine T.sq fun K hK => ?_)
        | ((first | ((with_reducible refine T.reg hE ?hd ?_); (case hd => kernel_rfl)) | ((with_reducible refine T.any hE mixed ?hd ?hok ?_); (case hd => kernel_rfl); (case hok => kernel_rfl))); simp [*]; (repeat' (split; all_goals (rename_i hc; try simp [*]))))
        | ((with_reducible refine T.ret ?_); refine fin_pure ?_; simp [*]; try (change Hold _))
        | (with_reducible refine T.block ?_)
        | ((with_reducible refine T.skip ?_); simp [*])
        | ((with_reducible refine T.exit ?_); simp [*])
        | ((with_reducible refine T.br fun K1 K2 hK1 hK2 => ?_); simp [*]; try ((refine Br.intro (fun hc => ?_) (fun hc => ?_)) <;> (try simp at hc)))
        | (with_reducible refine Cont.go (by assumption) _ ?_)
        | (with_reducible refine Cnt.go (by assumption) ?_))
      unfold Hold encodeV; simp [v]
theorem isByte_encI (l : List Int) : (∀ el ∈ encI .u8 l, isByteV el = true) = True := eq_true fun el h => by
  obtain ⟨n, _, rfl⟩ := List.mem_map.1 h; rfl
end Go.Proofs.Ytdpphpdjimmpbaa.Ax
