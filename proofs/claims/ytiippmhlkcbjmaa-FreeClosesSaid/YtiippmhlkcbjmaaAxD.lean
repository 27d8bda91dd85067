/- Abstract execution, part D: the other operations that make a value. -/
import Derived.Test.YtiippmhlkcbjmaaAxC
set_option linter.unusedVariables false
set_option linter.unusedSimpArgs false
namespace Go.Proofs.Ytiippmhlkcbjmaa.Ax
open Go

/-- '==' at a type whose cells are all ints. -/
def EqOk (P : Program) (eq : TypeId → Bool) : Prop := ∀ t, eq t = true → ∀ (xs ys : List Int) (op : BinOp) (x y : Operand) (w : World), xs.length = P.cellsOf t → ys.length = P.cellsOf t →
  (do eqGuard .eql t x y (.agg (xs.map (Value.int .i64)).toArray) (.agg (ys.map (Value.int .i64)).toArray); binOp .eql t (.agg (xs.map (Value.int .i64)).toArray) (.agg (ys.map (Value.int .i64)).toArray) : Sem Value).run P w = .ok (.bool (decide (xs = ys))) w ∧
  (do eqGuard .neq t x y (.agg (xs.map (Value.int .i64)).toArray) (.agg (ys.map (Value.int .i64)).toArray); binOp .neq t (.agg (xs.map (Value.int .i64)).toArray) (.agg (ys.map (Value.int .i64)).toArray) : Sem Value).run P w = .ok (.bool (!decide (xs = ys))) w

theorem intsOf_rep {G : Ghost} : ∀ {cs : List V} {xs : List Int} {arr : List Value}, intsOf cs = some xs → RepL G arr cs → arr = xs.map (Value.int .i64)
  | [], xs, arr, h, hr => by
    cases (show some ([] : List Int) = some xs from h)
    exact List.eq_nil_of_length_eq_zero hr.1
  | c :: cs, xs, arr, h, hr => by
    cases c <;> try (simp [intsOf] at h; done)
    rename_i k n
    cases k <;> simp [intsOf] at h
    obtain ⟨ys, hy, rfl⟩ := h
    cases arr with
    | nil => exact absurd hr.1 (by simp)
    | cons a arr =>
      have h0 := hr.2 0 a _ rfl rfl
      have ht : RepL G arr cs := ⟨by simpa using hr.1, fun i v c hv hc => hr.2 (i + 1) v c (by simpa using hv) (by simpa using hc)⟩
      rw [rep_int_inv h0, intsOf_rep hy ht]
      rfl
theorem run_guard_plain {P : Program} {w : World} (op : BinOp) (t : TypeId) (x y : Operand) {a b : Value} (h : ∀ c d, a = .agg c → b = .agg d → False) (h' : a = .nilIface → b = .nilIface → False) : (eqGuard op t x y a b).run P w = .ok () w := by
  unfold eqGuard
  cases op <;> simp only [Bool.not_false, Bool.not_true, if_true, Bool.false_eq_true, if_false] <;> try rfl
  all_goals
    split
    · exact (h' rfl rfl).elim
    · exact (h _ _ rfl rfl).elim
    · rfl
theorem run_equal_bool {P : Program} {t : TypeId} (h : P.underlying t = some .bool) (a b : Bool) (w : World) : (Op.equal t (.bool a) (.bool b)).run P w = .ok (a == b) w := by
  have gen : ∀ d, (Op.equalIn (d + 1) t (.bool a) (.bool b)).run P w = .ok (a == b) w := fun d => by
    simp only [Op.equalIn, Sem.run_bind, run_underlying h, Result.andThen_ok]
    rfl
  exact gen 9999
theorem sv_bin {P : Program} {eq : TypeId → Bool} (hq : EqOk P eq) {G : Ghost} {w : World} (op : BinOp) (t : TypeId) (x y : Operand) {a b : Value} {a' b' : V} (ha : Rep G a a') (hb : Rep G b b') :
    SV P G w (do eqGuard op t x y a b; binOp op t a b) (rBin P eq op t a' b') := by
  cases ha with
  | int k n =>
    cases hb with
    | int k' m =>
      have hg := run_guard_plain (P := P) (w := w) op t x y (a := .int k n) (b := .int k' m) (by simp) (by simp)
      have key : ∀ v, (binOp op t (.int k n) (.int k' m)).run P w = .ok v w → (do eqGuard op t x y (.int k n) (.int k' m); binOp op t (.int k n) (.int k' m) : Sem Value).run P w = .ok v w := fun v hv => by simp only [Sem.run_bind, hg, Result.andThen_ok, hv]
      cases op <;> simp only [rBin] <;> intro hp
      case shl => exact ⟨_, key _ (by have hp' : ¬ m < 0 := by simp only at hp; omega
                                      simp [binOp, Op.shift, hp'] <;> rfl), .int _ _⟩
      case shr => exact ⟨_, key _ (by have hp' : ¬ m < 0 := by simp only at hp; omega
                                      simp [binOp, Op.shift, hp'] <;> rfl), .int _ _⟩
      case quo => obtain ⟨rfl, h0⟩ := hp; exact ⟨_, key _ (by simp [binOp, Op.intDiv, h0] <;> rfl), .int _ _⟩
      case rem => obtain ⟨rfl, h0⟩ := hp; exact ⟨_, key _ (by simp [binOp, Op.intDiv, h0] <;> rfl), .int _ _⟩
      all_goals
        simp only at hp
        subst hp
        first
          | exact ⟨_, key _ (by simp [binOp, Op.intArith] <;> rfl), .int _ _⟩
          | exact ⟨_, key _ (by simp [binOp, intBits_and, intBits_or, intBits_xor, intBits_andNot] <;> rfl), .int _ _⟩
          | exact ⟨_, key _ (by simp [binOp, Op.intCmp] <;> rfl), .bool _⟩
    | _ => exact fun h => h.elim
  | bool c =>
    cases hb with
    | bool d =>
      have hg := run_guard_plain (P := P) (w := w) op t x y (a := .bool c) (b := .bool d) (by simp) (by simp)
      cases op <;> simp only [rBin] <;> intro hp
      case eql => exact ⟨.bool (c == d), by simp only [Sem.run_bind, hg, Result.andThen_ok, binOp, run_equal_bool hp]; rfl, .bool _⟩
      case neq => exact ⟨.bool (!(c == d)), by simp only [Sem.run_bind, hg, Result.andThen_ok, binOp, run_equal_bool hp]; rfl, .bool _⟩
      all_goals exact hp.elim
    | _ => exact fun h => h.elim
  | str c =>
    cases hb with
    | str d =>
      have hg := run_guard_plain (P := P) (w := w) op t x y (a := .string c) (b := .string d) (by simp) (by simp)
      cases op <;> simp only [rBin] <;> intro hp
      case eql => exact ⟨_, by simp [hg, binOp, Op.stringOp] <;> rfl, .bool _⟩
      case neq => exact ⟨_, by simp [hg, binOp, Op.stringOp] <;> rfl, .bool _⟩
      all_goals exact hp.elim
    | _ => exact fun h => h.elim
  | agg arr cs hl h =>
    cases hb with
    | agg arr' ds hl' h' =>
      simp only [rBin]
      split
      · rename_i xs ys he hx hy
        rintro ⟨h1, h2⟩
        have e1 := intsOf_rep hx (arr := arr.toList) (G := G) ⟨by simpa using hl, fun i v c hv hc => h i v c (by simpa using hv) hc⟩
        have e2 := intsOf_rep hy (arr := arr'.toList) (G := G) ⟨by simpa using hl', fun i v c hv hc => h' i v c (by simpa using hv) hc⟩
        have := (hq t he xs ys .eql x y w h1 h2).1
        rw [← e1, ← e2] at this
        exact ⟨_, this, .bool _⟩
      · rename_i xs ys he hx hy
        rintro ⟨h1, h2⟩
        have e1 := intsOf_rep hx (arr := arr.toList) (G := G) ⟨by simpa using hl, fun i v c hv hc => h i v c (by simpa using hv) hc⟩
        have e2 := intsOf_rep hy (arr := arr'.toList) (G := G) ⟨by simpa using hl', fun i v c hv hc => h' i v c (by simpa using hv) hc⟩
        have := (hq t he xs ys .eql x y w h1 h2).2
        rw [← e1, ← e2] at this
        exact ⟨_, this, .bool _⟩
      · exact fun h => h.elim
    | _ => exact fun h => h.elim
  | _ => exact fun h => h.elim
theorem sv_un {P : Program} {G : Ghost} {w : World} (op : UnOp) {a : Value} {a' : V} (ha : Rep G a a') : SV P G w (Op.unary op a) (rUn op a') := by
  cases ha with
  | bool b => cases op <;> simp only [rUn] <;> first | exact fun h => h.elim | exact fun _ => ⟨_, by simp [Op.unary] <;> rfl, .bool _⟩
  | int k n => cases op <;> simp only [rUn] <;> first | exact fun h => h.elim | exact fun _ => ⟨.int k (k.wrap (0 - n)), rfl, .int _ _⟩ | exact fun _ => ⟨_, by simp [Op.unary, intBits_xor] <;> rfl, .int _ _⟩
  | _ => exact fun h => h.elim
theorem sv_extract {P : Program} {G : Ghost} {w : World} (i : Nat) {a : Value} {a' : V} (ha : Rep G a a') : SV P G w (Instr.extract a i) (rExtract i a') := by
  cases ha with
  | tup arr cs hl h =>
    intro hp
    simp only [rExtract] at hp ⊢
    have hi : i < arr.size := by omega
    exact ⟨arr[i], by simp [Instr.extract, hi], h i _ _ (by simp [hi]) (by simp [List.getD, hp])⟩
  | _ => exact fun h => h.elim
theorem sv_iface {P : Program} {G : Ghost} {w : World} (t : TypeId) {a : Value} {a' : V} (ha : Rep G a a') : SV P G w (Instr.makeInterface t a) (rIface P t a') := by
  unfold rIface
  split
  · exact fun h => h.elim
  · exact fun h => h.elim
  · rename_i d hd hu
    intro _
    refine ⟨.iface t a, ?_, .ifc t a _ ha⟩
    simp only [Instr.makeInterface, Sem.run_bind, run_underlying hu, Result.andThen_ok]
    first | rfl | (split <;> first | rfl | (rename_i ms; exact absurd hu (hd ms)))
theorem zval_some {P : Program} {t : TypeId} {z : V} (h : zval P t = some z) (G : Ghost) (w : World) : ∃ v, (zeroValue t).run P w = .ok v w ∧ Rep G v z ∧ z = ofVal v := by
  unfold zval at h
  obtain ⟨v, hv, rfl⟩ := Option.map_eq_some_iff.1 h
  obtain ⟨i, hi, hz⟩ := Option.bind_eq_some_iff.1 hv
  exact ⟨v, by simp [zeroValue, typeInfo, hi, hz], rep_ofVal G v, rfl⟩
theorem sv_assert {P : Program} {G : Ghost} {w : World} (xt t : TypeId) (ok : Bool) {a : Value} {a' : V} (ha : Rep G a a') : SV P G w (Instr.typeAssert a xt t ok) (rAssert P t ok a') := by
  unfold rAssert
  split
  · exact fun h => h.elim
  · rename_i d t' v hd hu
    cases ha with | ifc _ v0 _ hv =>
    have hni : ∀ ms, d ≠ .interface ms := fun ms e => hd ms e
    have run : ∀ r, (if t' = t then (pure (if ok then .tuple #[v0, .bool true] else v0) : Sem Value) else (if ok then (do pure (.tuple #[← zeroValue t, .bool false])) else runtimePanic (.typeAssertion (some xt) (some t') t ""))).run P w = .ok r w →
        (Instr.typeAssert (.iface t' v0) xt t ok).run P w = .ok r w := fun r hr => by
      simp only [Instr.typeAssert, Sem.run_bind, run_underlying hu, Result.andThen_ok]
      cases d <;> first | exact absurd rfl (hni _) | (simpa using hr)
    cases ok with
    | true =>
      simp only
      split
      · rename_i e
        intro _
        exact ⟨_, run _ (by rw [if_pos e] <;> rfl), rep_tup (.cons hv (.cons (.bool true) (.nil G)))⟩
      · rename_i e
        split
        · rename_i z hz
          intro _
          obtain ⟨z0, hz0, hr, _⟩ := zval_some hz G w
          exact ⟨_, run _ (by rw [if_neg e]; simp [hz0] <;> rfl), rep_tup (.cons hr (.cons (.bool false) (.nil G)))⟩
        · exact fun h => h.elim
    | false =>
      simp only
      split
      · rename_i e
        intro _
        exact ⟨_, run _ (by rw [if_pos e] <;> rfl), hv⟩
      · exact fun h => h.elim
  · rename_i d hd hu
    cases ha
    have hni : ∀ ms, d ≠ .interface ms := fun ms e => hd ms e
    split
    · rename_i z hz
      intro _
      obtain ⟨z0, hz0, hr, _⟩ := zval_some hz G w
      refine ⟨.tuple #[z0, .bool false], ?_, rep_tup (.cons hr (.cons (.bool false) (.nil G)))⟩
      simp only [Instr.typeAssert, Sem.run_bind, run_underlying hu, Result.andThen_ok]
      cases d <;> first | exact absurd rfl (hni _) | simp [hz0]
    · exact fun h => h.elim
  · exact fun h => h.elim

theorem bytes_of {els : List (List V)} (h : ∀ el ∈ els, isByteV el = true) : ∃ ns : List Int, els = ns.map fun n => [V.int .u8 n] := by
  induction els with
  | nil => exact ⟨[], rfl⟩
  | cons e es ih =>
    obtain ⟨ns, hn⟩ := ih fun el hel => h el (by simp [hel])
    have he := h e (by simp)
    unfold isByteV at he
    split at he
    · rename_i n; exact ⟨n :: ns, by simp [hn]⟩
    · cases he
theorem foldl_push (ns : List Int) : ∀ s : ByteArray, ns.foldl (fun r n => r.push (UInt8.ofNat n.toNat)) s = ⟨(s.data.toList ++ ns.map fun n => UInt8.ofNat n.toNat).toArray⟩ := by
  induction ns with
  | nil => intro s; simp
  | cons n ns ih =>
    intro s
    rw [List.foldl_cons, ih]
    congr 1
    apply Array.ext'
    simp [ByteArray.push]
theorem sv_conv {P : Program} {G : Ghost} {w : World} {M : Mem} {K : Toks} (hs : Sim G M K w) (src dst : TypeId) {a : Value} {a' : V} (ha : Rep G a a') : SV P G w (convert src dst a) (rConv P src dst a') := by
  unfold rConv
  split
  · rename_i d k k' n h1 h2
    obtain rfl := rep_int_inv ha
    intro _
    exact ⟨_, by simp [convert, run_underlying h1, run_underlying h2, Conv.intToInt] <;> rfl, .int _ _⟩
  · rename_i d s h1 h2
    cases ha
    intro _
    refine ⟨.string s, ?_, .str s⟩
    simp only [convert, Sem.run_bind, run_underlying h1, run_underlying h2, Result.andThen_ok]
    cases d <;> rfl
  · rename_i e els tk h1 h2
    rintro ⟨h3, h4, h5⟩
    obtain ⟨ns, rfl⟩ := bytes_of h5
    have hv : ((ns.map fun n => [V.int .u8 n]).map byteV) = ns.map fun n => UInt8.ofNat n.toNat := by simp [byteV]
    rw [hv]
    generalize hels : (ns.map fun n => [V.int .u8 n]) = els at ha
    cases ha with
    | sl0 A c =>
      obtain rfl : ns = [] := by
        cases ns with
        | nil => rfl
        | cons n ns => simp at hels
      refine ⟨.string ⟨#[]⟩, ?_, .str _⟩
      cases A with
      | none => simp [convert, run_underlying h1, run_underlying h2, run_underlying h3, Conv.bytesToString] <;> rfl
      | some A =>
        have := run_bytesToString (P := P) w A 0 c [] (by simp [loadCells, loadCellsFrom])
        simp [convert, run_underlying h1, run_underlying h2, run_underlying h3, this] <;> rfl
    | sl b o c s _ _ vs hs' hc hm hfx hrep hex htk =>
      subst hels
      cases ns with
      | nil =>
        have := run_bytesToString (P := P) w ⟨b, o, none⟩ 0 c [] (by simp [loadCells, loadCellsFrom])
        refine ⟨.string ⟨#[]⟩, ?_, .str _⟩
        simp [convert, run_underlying h1, run_underlying h2, run_underlying h3, this] <;> rfl
      | cons n0 ns0 =>
        generalize hns : n0 :: ns0 = ns at *
        have hs1 : s = 1 := by
          have := hs' [V.int .u8 n0] (by rw [← hns]; simp)
          simpa using this.symm
        subst hs1
        have hl : (loadCells ⟨b, o, none⟩ ns.length).run P w = .ok (ns.map (Value.int .u8)).toArray w := by
          have := run_loadCells_list (P := P) w ⟨b, o, none⟩ (ns.map (Value.int .u8)) (fun j v hv => by
            rw [List.getElem?_map] at hv
            obtain ⟨n, hn, rfl⟩ := Option.map_eq_some_iff.1 hv
            rw [Addr.add_lit]
            have e1 : (ns.map fun n => [V.int .u8 n])[j]? = some [V.int .u8 n] := by simp [hn]
            have := hs.fx _ _ _ (hfx j 0 _ (V.int .u8 n) e1 rfl)
            rw [rep_int_inv (hrep j 0 _ (V.int .u8 n) e1 rfl)] at this
            simpa using this)
          simpa using this
        have := run_bytesToString (P := P) w ⟨b, o, none⟩ ns.length c ns hl
        rw [foldl_push] at this
        refine ⟨.string ⟨(ns.map fun n => UInt8.ofNat n.toNat).toArray⟩, ?_, .str _⟩
        simp only [List.length_map]
        simp [convert, run_underlying h1, run_underlying h2, run_underlying h3, this]
  · rename_i e h1 h2
    cases ha
    intro h3
    exact ⟨.string ⟨#[]⟩, by simp [convert, run_underlying h1, run_underlying h2, run_underlying h3, Conv.bytesToString] <;> rfl, .str _⟩
  · exact fun h => h.elim
theorem sv_builtin {P : Program} {G : Ghost} {w : World} (b : Builtin) (ts : Array TypeId) (ty : TypeId) (cb : Array Bool) {args : List Value} {args' : List V} (ha : RepL G args args') (hp : (rBuiltin P b ts args').pre) :
    ∃ v, (builtin b ts ty cb args.toArray).run P w = .ok (.value v) w ∧ Rep G v (rBuiltin P b ts args').v := by
  unfold rBuiltin at hp ⊢
  split at hp
  · rename_i t x ht
    obtain ⟨a, rfl⟩ : ∃ a, args = [a] := by
      have := ha.1
      match args, this with
      | [a], _ => exact ⟨a, rfl⟩
    have hx := ha.2 0 a x rfl rfl
    try simp only [ht]
    split at hp
    · rename_i e els tk hu
      try simp only [hu]
      cases hx with
      | sl0 A c => exact ⟨_, by simp [builtin, Builtin.len_, ht, run_underlying hu, goInt] <;> rfl, .int _ _⟩
      | sl => exact ⟨_, by simp [builtin, Builtin.len_, ht, run_underlying hu, goInt] <;> rfl, .int _ _⟩
    · rename_i e hu
      try simp only [hu]
      cases hx
      exact ⟨_, by simp [builtin, Builtin.len_, ht, run_underlying hu, goInt] <;> rfl, .int _ _⟩
    · rename_i e id off len cap hu
      try simp only [hu]
      cases hx
      exact ⟨_, by simp [builtin, Builtin.len_, ht, run_underlying hu, goInt] <;> rfl, .int _ _⟩
    · rename_i s hu
      try simp only [hu]
      cases hx
      exact ⟨_, by simp [builtin, Builtin.len_, ht, run_underlying hu, goInt] <;> rfl, .int _ _⟩
    · rename_i n e hu
      try simp only [hu]
      exact ⟨_, by simp [builtin, Builtin.len_, ht, run_underlying hu, goInt] <;> rfl, .int _ _⟩
    · exact hp.elim
  · rename_i k x k' y
    obtain ⟨a, c, rfl⟩ : ∃ a c, args = [a, c] := by
      have := ha.1
      match args, this with
      | [a, c], _ => exact ⟨a, c, rfl⟩
    obtain rfl := rep_int_inv (ha.2 0 a _ rfl rfl)
    obtain rfl := rep_int_inv (ha.2 1 c _ rfl rfl)
    exact ⟨_, by simp [builtin, Builtin.max_, Builtin.max2] <;> rfl, .int _ _⟩
  · rename_i k x k' y
    obtain ⟨a, c, rfl⟩ : ∃ a c, args = [a, c] := by
      have := ha.1
      match args, this with
      | [a, c], _ => exact ⟨a, c, rfl⟩
    obtain rfl := rep_int_inv (ha.2 0 a _ rfl rfl)
    obtain rfl := rep_int_inv (ha.2 1 c _ rfl rfl)
    exact ⟨_, by simp [builtin, Builtin.min_, Builtin.min2] <;> rfl, .int _ _⟩
  · exact hp.elim

/-! ### A value that is put together -/
theorem foldl_set (xs : List Value) : ∀ (arr : Array Value) (off : Nat), off + xs.length ≤ arr.size →
    (xs.zipIdx.foldl (fun cs (c, j) => cs.setIfInBounds (off + j) c) arr) = (arr.toList.take off ++ xs ++ arr.toList.drop (off + xs.length)).toArray := by
  have gen : ∀ (xs : List Value) (k : Nat) (arr : Array Value) (off : Nat), off + k + xs.length ≤ arr.size →
      ((xs.zipIdx k).foldl (fun cs (c, j) => cs.setIfInBounds (off + j) c) arr) = (arr.toList.take (off + k) ++ xs ++ arr.toList.drop (off + k + xs.length)).toArray := by
    intro xs
    induction xs with
    | nil => intro k arr off h; simp
    | cons x xs ih =>
      intro k arr off h
      simp only [List.length_cons] at h
      rw [List.zipIdx_cons, List.foldl_cons, ih (k + 1) _ off (by simp; omega)]
      congr 1
      have e := list_seg_step arr.toList (off + k) x xs (by simp; omega)
      simpa [Array.toList_setIfInBounds, Nat.add_assoc] using e
  intro arr off h
  have := gen xs 0 arr off (by simpa using h)
  simpa using this
theorem repL_splice {G : Ghost} {a x : List Value} {cs xs : List V} (h : RepL G a cs) (hx : RepL G x xs) (off : Nat) : RepL G (a.take off ++ x ++ a.drop (off + x.length)) (splice cs off xs) := by
  unfold splice
  rw [hx.1]
  exact ((h.take off).append hx).append (h.drop _)
theorem fill_rep {G : Ghost} (place : Nat → Option (Nat × Nat)) : ∀ (parts : List (Nat × V)) (parts0 : List (Nat × Value)) (cs : List V) (arr : Array Value) (r : List V),
    parts0.length = parts.length → (∀ (i : Nat) x x', parts0[i]? = some x → parts[i]? = some x' → x.1 = x'.1 ∧ Rep G x.2 x'.2) → RepL G arr.toList cs → fillV place cs parts = some r →
    ∃ out, Instr.fill place arr parts0 = some out ∧ RepL G out.toList r
  | [], [], cs, arr, r, _, _, hr, h => by cases (show some cs = some r from h); exact ⟨arr, rfl, hr⟩
  | (i, v) :: rest, (i0, v0) :: rest0, cs, arr, r, hl, hp, hr, h => by
    obtain ⟨e, hv⟩ := hp 0 _ _ rfl rfl
    simp only at e hv
    subst e
    unfold fillV at h
    split at h
    · cases h
    · rename_i off size hpl
      split at h
      · rename_i hc
        obtain ⟨hj, hs, hf⟩ := hc
        have hcl := rep_cells hv hj
        have hsz : v0.cells.size = size := by have := hcl.1; simp at this; omega
        have har : arr.size = cs.length := by have := hr.1; simpa using this
        have hfit : off + v0.cells.toList.length ≤ arr.size := by simp; omega
        have e2 := foldl_set v0.cells.toList arr off hfit
        have hz : (v0.cells.zipIdx.foldl (fun cs (c, j) => cs.setIfInBounds (off + j) c) arr) = (arr.toList.take off ++ v0.cells.toList ++ arr.toList.drop (off + v0.cells.toList.length)).toArray := by
          rw [← e2, ← Array.foldl_toList]
          simp
        obtain ⟨out, ho, hro⟩ := fill_rep place rest rest0 (splice cs off v.cells) (arr.toList.take off ++ v0.cells.toList ++ arr.toList.drop (off + v0.cells.toList.length)).toArray r (by simpa using hl)
          (fun i x x' h1 h2 => hp (i + 1) x x' (by simpa using h1) (by simpa using h2)) (by simpa using repL_splice hr hcl off) h
        refine ⟨out, ?_, hro⟩
        simp only [Instr.fill, hpl, hsz, ne_eq, not_true_eq_false, decide_false, Bool.false_or, hz]
        rw [if_neg (by simp; omega)]
        exact ho
      · cases h
  | [], _ :: _, _, _, _, hl, _, _, _ => by simp at hl
  | _ :: _, [], _, _, _, hl, _, _, _ => by simp at hl
theorem run_places {P : Program} {w : World} (fs : List Field) (h : fs.all (fun f => (P.info? f.type).isSome) = true) :
    (fs.mapM (fun f => do pure (f.offset, ← sizeOf f.type) : Field → Sem (Nat × Nat))).run P w = .ok (fs.map fun f => (f.offset, P.cellsOf f.type)) w := by
  induction fs with
  | nil => simp
  | cons f fs ih =>
    simp only [List.all_cons, Bool.and_eq_true] at h
    obtain ⟨i, hi⟩ := Option.isSome_iff_exists.1 h.1
    simp only [List.mapM_cons, Sem.run_bind, run_sizeOf hi, Result.andThen_ok, Sem.run_pure, ih h.2, List.map_cons]
theorem sv_build {P : Program} {G : Ghost} {w : World} (t : TypeId) {parts0 : Array (Nat × Value)} {parts : List (Nat × V)} (hl : parts0.toList.length = parts.length)
    (hp : ∀ (i : Nat) x x', parts0.toList[i]? = some x → parts[i]? = some x' → x.1 = x'.1 ∧ Rep G x.2 x'.2) : SV P G w (Instr.build t parts0) (rBuild P t parts) := by
  unfold rBuild
  split
  · rename_i fs z hu hz
    split
    · rename_i cs hf
      rintro ⟨h1, h2⟩
      obtain ⟨z0, hz0, hr, _⟩ := zval_some hz G w
      obtain ⟨out, ho, hro⟩ := fill_rep _ parts parts0.toList z.cells z0.cells cs hl hp (rep_cells hr h2) hf
      have hpl := run_places (P := P) (w := w) fs.toList h1
      refine ⟨.agg out, ?_, rep_agg hro⟩
      have hm : (fs.mapM (fun f => do pure (f.offset, ← sizeOf f.type) : Field → Sem (Nat × Nat))).run P w = .ok (fs.toList.map fun f => (f.offset, P.cellsOf f.type)).toArray w := by
        rw [Array.mapM_eq_mapM_toList, Sem.run_map, hpl]
        rfl
      have hfn : (fun i : Nat => (fs.toList.map fun f => (f.offset, P.cellsOf f.type)).toArray[i]?) = fun i => fs[i]?.map fun f => (f.offset, P.cellsOf f.type) := by
        funext i; simp
      simp only [Instr.build, Sem.run_bind, hz0, Result.andThen_ok, run_underlying hu, hm, hfn, ho]
      rfl
    · exact fun h => h.elim
  · rename_i n e z hu hz
    split
    · rename_i cs hf
      rintro ⟨h1, h2⟩
      obtain ⟨z0, hz0, hr, _⟩ := zval_some hz G w
      obtain ⟨inf, hi, _⟩ := info_of_cells h1
      obtain ⟨out, ho, hro⟩ := fill_rep _ parts parts0.toList z.cells z0.cells cs hl hp (rep_cells hr h2) hf
      refine ⟨.agg out, ?_, rep_agg hro⟩
      simp only [Instr.build, Sem.run_bind, hz0, Result.andThen_ok, run_underlying hu, run_sizeOf hi, ho]
      rfl
    · exact fun h => h.elim
  · exact fun h => h.elim

end Go.Proofs.Ytiippmhlkcbjmaa.Ax
