/- Abstract execution, part D: the other operations that make a value. -/
import Derived.Test.YtaacfmakfkaddaaDoorAxC
set_option linter.unusedVariables false
set_option linter.unusedSimpArgs false
namespace Go.Proofs.YtaacfmakfkaddaaDoor.Ax
section
open Go

/-- '==' at a type whose cells are all ints. -/
def EqOk (P : Program) (eq : TypeId → Bool) : Prop := ∀ t, eq t = true → ∀ (xs ys : List Int) (op : BinOp) (x y : Operand) (w : World), xs.length = P.cellsOf t → ys.length = P.cellsOf t →
  (do eqGuard .eql t x y (.agg (xs.map (Value.int .i64)).toArray) (.agg (ys.map (Value.int .i64)).toArray); binOp .eql t (.agg (xs.map (Value.int .i64)).toArray) (.agg (ys.map (Value.int .i64)).toArray) : Sem Value).run P w = .ok (.bool (decide (xs = ys))) w ∧
  (do eqGuard .neq t x y (.agg (xs.map (Value.int .i64)).toArray) (.agg (ys.map (Value.int .i64)).toArray); binOp .neq t (.agg (xs.map (Value.int .i64)).toArray) (.agg (ys.map (Value.int .i64)).toArray) : Sem Value).run P w = .ok (.bool (!decide (xs = ys))) w

theorem intsOf_rep {G : Ghost} : ∀ {cs : List V} {xs : List Int} {arr : List Value}, intsOf cs = some xs → RepL G arr cs → arr = xs.map (Value.int .i64)
  | [], xs, arr, h, hr => by
    cases (show some ([] : List Int) = some xs from h)
    exact List.eq_nil_of_length_eq_zero hr.1
  | c :: cs, xs, arr, h, hr => by
    cases c <;> try (simp [intsOf] at h; done)
    rename_i k n
    cases k <;> simp [intsOf] at h
    obtain ⟨ys, hy, rfl⟩ := h
    cases arr with
    | nil => exact absurd hr.1 (by simp)
    | cons a arr =>
      have h0 := hr.2 0 a _ rfl rfl
      have ht : RepL G arr cs := ⟨by simpa using hr.1, fun i v c hv hc => hr.2 (i + 1) v c (by simpa using hv) (by simpa using hc)⟩
      rw [rep_int_inv h0, intsOf_rep hy ht]
      rfl
theorem run_guard_plain {P : Program} {w : World} (op : BinOp) (t : TypeId) (x y : Operand) {a b : Value} (h : ∀ c d, a = .agg c → b = .agg d → False) (h' : a = .nilIface → b = .nilIface → False) : (eqGuard op t x y a b).run P w = .ok () w := by
  unfold eqGuard
  cases op <;> simp only [Bool.not_false, Bool.not_true, if_true, Bool.false_eq_true, if_false] <;> try rfl
  all_goals
    split
    · exact (h' rfl rfl).elim
    · exact (h _ _ rfl rfl).elim
    · rfl
theorem run_equal_bool {P : Program} {t : TypeId} (h : P.underlying t = some .bool) (a b : Bool) (w : World) : (Op.equal t (.bool a) (.bool b)).run P w = .ok (a == b) w := by
  have gen : ∀ d, (Op.equalIn (d + 1) t (.bool a) (.bool b)).run P w = .ok (a == b) w := fun d => by
    simp only [Op.equalIn, Sem.run_bind, run_underlying h, Result.andThen_ok]
    rfl
  exact gen 9999
theorem sv_bin {P : Program} {eq : TypeId → Bool} (hq : EqOk P eq) {G : Ghost} {w : World} (op : BinOp) (t : TypeId) (x y : Operand) {a b : Value} {a' b' : V} (ha : Rep G a a') (hb : Rep G b b') :
    SV P G w (do eqGuard op t x y a b; binOp op t a b) (rBin P eq op t a' b') := by
  cases ha with
  | int k n =>
    cases hb with
    | int k' m =>
      have hg := run_guard_plain (P := P) (w := w) op t x y (a := .int k n) (b := .int k' m) (by simp) (by simp)
      have key : ∀ v, (binOp op t (.int k n) (.int k' m)).run P w = .ok v w → (do eqGuard op t x y (.int k n) (.int k' m); binOp op t (.int k n) (.int k' m) : Sem Value).run P w = .ok v w := fun v hv => by simp only [Sem.run_bind, hg, Result.andThen_ok, hv]
      cases op <;> simp only [rBin] <;> intro hp
      case shl => exact ⟨_, key _ (by have hp' : ¬ m < 0 := by simp only at hp; omega
                                      simp [binOp, Op.shift, hp'] <;> rfl), .int _ _⟩
      case shr => exact ⟨_, key _ (by have hp' : ¬ m < 0 := by simp only at hp; omega
                                      simp [binOp, Op.shift, hp'] <;> rfl), .int _ _⟩
      case quo => obtain ⟨rfl, h0⟩ := hp; exact ⟨_, key _ (by simp [binOp, Op.intDiv, h0] <;> rfl), .int _ _⟩
      case rem => obtain ⟨rfl, h0⟩ := hp; exact ⟨_, key _ (by simp [binOp, Op.intDiv, h0] <;> rfl), .int _ _⟩
      all_goals
        simp only at hp
        subst hp
        first
          | exact ⟨_, key _ (by simp [binOp, Op.intArith] <;> rfl), .int _ _⟩
          | exact ⟨_, key _ (by simp [binOp, intBits_and, intBits_or, intBits_xor, intBits_andNot] <;> rfl), .int _ _⟩
          | exact ⟨_, key _ (by simp [binOp, Op.intCmp] <;> rfl), .bool _⟩
    | _ => exact fun h => h.elim
  | bool c =>
    cases hb with
    | bool d =>
      have hg := run_guard_plain (P := P) (w := w) op t x y (a := .bool c) (b := .bool d) (by simp) (by simp)
      cases op <;> simp only [rBin] <;> intro hp
      case eql => exact ⟨.bool (c == d), by simp only [Sem.run_bind, hg, Result.andThen_ok, binOp, run_equal_bool hp]; rfl, .bool _⟩
      case neq => exact ⟨.bool (!(c == d)), by simp only [Sem.run_bind, hg, Result.andThen_ok, binOp, run_equal_bool hp]; rfl, .bool _⟩
      all_goals exact hp.elim
    | _ => exact fun h => h.elim
  | str c =>
    cases hb with
    | str d =>
      have hg := run_guard_plain (P := P) (w := w) op t x y (a := .string c) (b := .string d) (by simp) (by simp)
      cases op <;> simp only [rBin] <;> intro hp
      case eql => exact ⟨_, by simp [hg, binOp, Op.stringOp] <;> rfl, .bool _⟩
      case neq => exact ⟨_, by simp [hg, binOp, Op.stringOp] <;> rfl, .bool _⟩
      all_goals exact hp.elim
    | _ => exact fun h => h.elim
  | agg arr cs hl h =>
    cases hb with
    | agg arr' ds hl' h' =>
      simp only [rBin]
      split
      · rename_i xs ys he hx hy
        rintro ⟨h1, h2⟩
        have e1 := intsOf_rep hx (arr := arr.toList) (G := G) ⟨by simpa using hl, fun i v c hv hc => h i v c (by simpa using hv) hc⟩
        have e2 := intsOf_rep hy (arr := arr'.toList) (G := G) ⟨by simpa using hl', fun i v c hv hc => h' i v c (by simpa using hv) hc⟩
        have := (hq t he xs ys .eql x y w h1 h2).1
        rw [← e1, ← e2] at this
        exact ⟨_, this, .bool _⟩
      · rename_i xs ys he hx hy
        rintro ⟨h1, h2⟩
        have e1 := intsOf_rep hx (arr := arr.toList) (G := G) ⟨by simpa using hl, fun i v c hv hc => h i v c (by simpa using hv) hc⟩
        have e2 := intsOf_rep hy (arr := arr'.toList) (G := G) ⟨by simpa using hl', fun i v c hv hc => h' i v c (by simpa using hv) hc⟩
        have := (hq t he xs ys .eql x y w h1 h2).2
        rw [← e1, ← e2] at this
        exact ⟨_, this, .bool _⟩
      · exact fun h => h.elim
    | _ => exact fun h => h.elim
  | _ => exact fun h => h.elim
theorem sv_un {P : Program} {G : Ghost} {w : World} (op : UnOp) {a : Value} {a' : V} (ha : Rep G a a') : SV P G w (Op.unary op a) (rUn op a') := by
  cases ha with
  | bool b => cases op <;> simp only [rUn] <;> first | exact fun h => h.elim | exact fun _ => ⟨_, by simp [Op.unary] <;> rfl, .bool _⟩
  | int k n => cases op <;> simp only [rUn] <;> first | exact fun h => h.elim | exact fun _ => ⟨.int k (k.wrap (0 - n)), rfl, .int _ _⟩ | exact fun _ => ⟨_, by simp [Op.unary, intBits_xor] <;> rfl, .int _ _⟩
  | _ => exact fun h => h.elim
theorem sv_extract {P : Program} {G : Ghost} {w : World} (i : Nat) {a : Value} {a' : V} (ha : Rep G a a') : SV P G w (Instr.extract a i) (rExtract i a') := by
  cases ha with
  | tup arr cs hl h =>
    intro hp
    simp only [rExtract] at hp ⊢
    have hi : i < arr.size := by omega
    exact ⟨arr[i], by simp [Instr.extract, hi], h i _ _ (by simp [hi]) (by simp [List.getD, hp])⟩
  | _ => exact fun h => h.elim
theorem sv_iface {P : Program} {G : Ghost} {w : World} (t : TypeId) {a : Value} {a' : V} (ha : Rep G a a') : SV P G w (Instr.makeInterface t a) (rIface P t a') := by
  unfold rIface
  split
  · exact fun h => h.elim
  · exact fun h => h.elim
  · rename_i d hd hu
    intro _
    refine ⟨.iface t a, ?_, .ifc t a _ ha⟩
    simp only [Instr.makeInterface, Sem.run_bind, run_underlying hu, Result.andThen_ok]
    first | rfl | (split <;> first | rfl | (rename_i ms; exact absurd hu (hd ms)))
theorem zval_some {P : Program} {t : TypeId} {z : V} (h : zval P t = some z) (G : Ghost) (w : World) : ∃ v, (zeroValue t).run P w = .ok v w ∧ Rep G v z ∧ z = ofVal v := by
  unfold zval at h
  obtain ⟨v, hv, rfl⟩ := Option.map_eq_some_iff.1 h
  obtain ⟨i, hi, hz⟩ := Option.bind_eq_some_iff.1 hv
  exact ⟨v, by simp [zeroValue, typeInfo, hi, hz], rep_ofVal G v, rfl⟩
theorem sv_assert {P : Program} {G : Ghost} {w : World} (xt t : TypeId) (ok : Bool) {a : Value} {a' : V} (ha : Rep G a a') : SV P G w (Instr.typeAssert a xt t ok) (rAssert P t ok a') := by
  unfold rAssert
  split
  · exact fun h => h.elim
  · rename_i d t' v hd hu
    cases ha with | ifc _ v0 _ hv =>
    have hni : ∀ ms, d ≠ .interface ms := fun ms e => hd ms e
    have run : ∀ r, (if t' = t then (pure (if ok then .tuple #[v0, .bool true] else v0) : Sem Value) else (if ok then (do pure (.tuple #[← zeroValue t, .bool false])) else runtimePanic (.typeAssertion (some xt) (some t') t ""))).run P w = .ok r w →
        (Instr.typeAssert (.iface t' v0) xt t ok).run P w = .ok r w := fun r hr => by
      simp only [Instr.typeAssert, Sem.run_bind, run_underlying hu, Result.andThen_ok]
      cases d <;> first | exact absurd rfl (hni _) | (simpa using hr)
    cases ok with
    | true =>
      simp only
      split
      · rename_i e
        intro _
        exact ⟨_, run _ (by rw [if_pos e] <;> rfl), rep_tup (.cons hv (.cons (.bool true) (.nil G)))⟩
      · rename_i e
        split
        · rename_i z hz
          intro _
          obtain ⟨z0, hz0, hr, _⟩ := zval_some hz G w
          exact ⟨_, run _ (by rw [if_neg e]; simp [hz0] <;> rfl), rep_tup (.cons hr (.cons (.bool false) (.nil G)))⟩
        · exact fun h => h.elim
    | false =>
      simp only
      split
      · rename_i e
        intro _
        exact ⟨_, run _ (by rw [if_pos e] <;> rfl), hv⟩
      · exact fun h => h.elim
  · rename_i d hd hu
    cases ha
    have hni : ∀ ms, d ≠ .interface ms := fun ms e => hd ms e
    split
    · rename_i z hz
      intro _
      obtain ⟨z0, hz0, hr, _⟩ := zval_some hz G w
      refine ⟨.tuple #[z0, .bool false], ?_, rep_tup (.cons hr (.cons (.bool false) (.nil G)))⟩
      simp only [Instr.typeAssert, Sem.run_bind, run_underlying hu, Result.andThen_ok]
      cases d <;> first | exact absurd rfl (hni _) | simp [hz0]
    · exact fun h => h.elim
  · exact fun h => h.elim

theorem bytes_of {els : List (List V)} (h : ∀ el ∈ els, isByteV el = true) : ∃ ns : List Int, els = ns.map fun n => [V.int .u8 n] := by
  induction els with
  | nil => exact ⟨[], rfl⟩
  | cons e es ih =>
    obtain ⟨ns, hn⟩ := ih fun el hel => h el (by simp [hel])
    have he := h e (by simp)
    unfold isByteV at he
    split at he
    · rename_i n; exact ⟨n :: ns, by simp [hn]⟩
    · cases he
theorem foldl_push (ns : List Int) : ∀ s : ByteArray, ns.foldl (fun r n => r.push (UInt8.ofNat n.toNat)) s = ⟨(s.data.toList ++ ns.map fun n => UInt8.ofNat n.toNat).toArray⟩ := by
  induction ns with
  | nil => intro s; simp
  | cons n ns ih =>
    intro s
    rw [List.foldl_cons, ih]
    congr 1
    apply Array.ext'
    simp [ByteArray.push]
theorem sv_conv {P : Program} {G : Ghost} {w : World} {M : Mem} {K : Toks} (hs : Sim G M K w) (src dst : TypeId) {a : Value} {a' : V} (ha : Rep G a a') : SV P G w (convert src dst a) (rConv P src dst a') := by
  unfold rConv
  split
  · rename_i d k k' n h1 h2
    obtain rfl := rep_int_inv ha
    intro _
    exact ⟨_, by simp [convert, run_underlying h1, run_underlying h2, Conv.intToInt] <;> rfl, .int _ _⟩
  · rename_i d s h1 h2
    cases ha
    intro _
    refine ⟨.string s, ?_, .str s⟩
    simp only [convert, Sem.run_bind, run_underlying h1, run_underlying h2, Result.andThen_ok]
    cases d <;> rfl
  · rename_i e els tk h1 h2
    rintro ⟨h3, h4, h5⟩
    obtain ⟨ns, rfl⟩ := bytes_of h5
    have hv : ((ns.map fun n => [V.int .u8 n]).map byteV) = ns.map fun n => UInt8.ofNat n.toNat := by simp [byteV]
    rw [hv]
    generalize hels : (ns.map fun n => [V.int .u8 n]) = els at ha
    cases ha with
    | sl0 A c =>
      obtain rfl : ns = [] := by
        cases ns with
        | nil => rfl
        | cons n ns => simp at hels
      refine ⟨.string ⟨#[]⟩, ?_, .str _⟩
      cases A with
      | none => simp [convert, run_underlying h1, run_underlying h2, run_underlying h3, Conv.bytesToString] <;> rfl
      | some A =>
        have := run_bytesToString (P := P) w A 0 c [] (by simp [loadCells, loadCellsFrom])
        simp [convert, run_underlying h1, run_underlying h2, run_underlying h3, this] <;> rfl
    | sl b o c s _ _ vs hs' hc hm hfx hrep hex htk =>
      subst hels
      cases ns with
      | nil =>
        have := run_bytesToString (P := P) w ⟨b, o, none⟩ 0 c [] (by simp [loadCells, loadCellsFrom])
        refine ⟨.string ⟨#[]⟩, ?_, .str _⟩
        simp [convert, run_underlying h1, run_underlying h2, run_underlying h3, this] <;> rfl
      | cons n0 ns0 =>
        generalize hns : n0 :: ns0 = ns at *
        have hs1 : s = 1 := by
          have := hs' [V.int .u8 n0] (by rw [← hns]; simp)
          simpa using this.symm
        subst hs1
        have hl : (loadCells ⟨b, o, none⟩ ns.length).run P w = .ok (ns.map (Value.int .u8)).toArray w := by
          have := run_loadCells_list (P := P) w ⟨b, o, none⟩ (ns.map (Value.int .u8)) (fun j v hv => by
            rw [List.getElem?_map] at hv
            obtain ⟨n, hn, rfl⟩ := Option.map_eq_some_iff.1 hv
            rw [Addr.add_lit]
            have e1 : (ns.map fun n => [V.int .u8 n])[j]? = some [V.int .u8 n] := by simp [hn]
            have := hs.fx _ _ _ (hfx j 0 _ (V.int .u8 n) e1 rfl)
            rw [rep_int_inv (hrep j 0 _ (V.int .u8 n) e1 rfl)] at this
            simpa using this)
          simpa using this
        have := run_bytesToString (P := P) w ⟨b, o, none⟩ ns.length c ns hl
        rw [foldl_push] at this
        refine ⟨.string ⟨(ns.map fun n => UInt8.ofNat n.toNat).toArray⟩, ?_, .str _⟩
        simp only [List.length_map]
        simp [convert, run_underlying h1, run_underlying h2, run_underlying h3, this]
  · rename_i e h1 h2
    cases ha
    intro h3
    exact ⟨.string ⟨#[]⟩, by simp [convert, run_underlying h1, run_underlying h2, run_underlying h3, Conv.bytesToString] <;> rfl, .str _⟩
  · exact fun h => h.elim
theorem sv_builtin {P : Program} {G : Ghost} {w : World} (b : Builtin) (ts : Array TypeId) (ty : TypeId) (cb : Array Bool) {args : List Value} {args' : List V} (ha : RepL G args args') (hp : (rBuiltin P b ts args').pre) :
    ∃ v, (builtin b ts ty cb args.toArray).run P w = .ok (.value v) w ∧ Rep G v (rBuiltin P b ts args').v := by
  unfold rBuiltin at hp ⊢
  split at hp
  · rename_i t x ht
    obtain ⟨a, rfl⟩ : ∃ a, args = [a] := by
      have := ha.1
      match args, this with
      | [a], _ => exact ⟨a, rfl⟩
    have hx := ha.2 0 a x rfl rfl
    try simp only [ht]
    split at hp
    · rename_i e els tk hu
      try simp only [hu]
      cases hx with
      | sl0 A c => exact ⟨_, by simp [builtin, Builtin.len_, ht, run_underlying hu, goInt] <;> rfl, .int _ _⟩
      | sl => exact ⟨_, by simp [builtin, Builtin.len_, ht, run_underlying hu, goInt] <;> rfl, .int _ _⟩
    · rename_i e hu
      try simp only [hu]
      cases hx
      exact ⟨_, by simp [builtin, Builtin.len_, ht, run_underlying hu, goInt] <;> rfl, .int _ _⟩
    · rename_i e id off len cap hu
      try simp only [hu]
      cases hx
      exact ⟨_, by simp [builtin, Builtin.len_, ht, run_underlying hu, goInt] <;> rfl, .int _ _⟩
    · rename_i e id len s hu
      try simp only [hu]
      cases hx
      exact ⟨_, by simp [builtin, Builtin.len_, ht, run_underlying hu, goInt] <;> rfl, .int _ _⟩
    · rename_i s hu
      try simp only [hu]
      cases hx
      exact ⟨_, by simp [builtin, Builtin.len_, ht, run_underlying hu, goInt] <;> rfl, .int _ _⟩
    · rename_i n e hu
      try simp only [hu]
      exact ⟨_, by simp [builtin, Builtin.len_, ht, run_underlying hu, goInt] <;> rfl, .int _ _⟩
    · exact hp.elim
  · rename_i k x k' y
    obtain ⟨a, c, rfl⟩ : ∃ a c, args = [a, c] := by
      have := ha.1
      match args, this with
      | [a, c], _ => exact ⟨a, c, rfl⟩
    obtain rfl := rep_int_inv (ha.2 0 a _ rfl rfl)
    obtain rfl := rep_int_inv (ha.2 1 c _ rfl rfl)
    exact ⟨_, by simp [builtin, Builtin.max_, Builtin.max2] <;> rfl, .int _ _⟩
  · rename_i k x k' y
    obtain ⟨a, c, rfl⟩ : ∃ a c, args = [a, c] := by
      have := ha.1
      match args, this with
      | [a, c], _ => exact ⟨a, c, rfl⟩
    obtain rfl := rep_int_inv (ha.2 0 a _ rfl rfl)
    obtain rfl := rep_int_inv (ha.2 1 c _ rfl rfl)
    exact ⟨_, by simp [builtin, Builtin.min_, Builtin.min2] <;> rfl, .int _ _⟩
  · exact hp.elim

/-! ### A value that is put together -/
theorem foldl_set (xs : List Value) : ∀ (arr : Array Value) (off : Nat), off + xs.length ≤ arr.size →
    (xs.zipIdx.foldl (fun cs (c, j) => cs.setIfInBounds (off + j) c) arr) = (arr.toList.take off ++ xs ++ arr.toList.drop (off + xs.length)).toArray := by
  have gen : ∀ (xs : List Value) (k : Nat) (arr : Array Value) (off : Nat), off + k + xs.length ≤ arr.size →
      ((xs.zipIdx k).foldl (fun cs (c, j) => cs.setIfInBounds (off + j) c) arr) = (arr.toList.take (off + k) ++ xs ++ arr.toList.drop (off + k + xs.length)).toArray := by
    intro xs
    induction xs with
    | nil => intro k arr off h; simp
    | cons x xs ih =>
      intro k arr off h
      simp only [List.length_cons] at h
      rw [List.zipIdx_cons, List.foldl_cons, ih (k + 1) _ off (by simp; omega)]
      congr 1
      have e := list_seg_step arr.toList (off + k) x xs (by simp; omega)
      simpa [Array.toList_setIfInBounds, Nat.add_assoc] using e
  intro arr off h
  have := gen xs 0 arr off (by simpa using h)
  simpa using this
theorem repL_splice {G : Ghost} {a x : List Value} {cs xs : List V} (h : RepL G a cs) (hx : RepL G x xs) (off : Nat) : RepL G (a.take off ++ x ++ a.drop (off + x.length)) (splice cs off xs) := by
  unfold splice
  rw [hx.1]
  exact ((h.take off).append hx).append (h.drop _)
theorem fill_rep {G : Ghost} (place : Nat → Option (Nat × Nat)) : ∀ (parts : List (Nat × V)) (parts0 : List (Nat × Value)) (cs : List V) (arr : Array Value) (r : List V),
    parts0.length = parts.length → (∀ (i : Nat) x x', parts0[i]? = some x → parts[i]? = some x' → x.1 = x'.1 ∧ Rep G x.2 x'.2) → RepL G arr.toList cs → fillV place cs parts = some r →
    ∃ out, Instr.fill place arr parts0 = some out ∧ RepL G out.toList r
  | [], [], cs, arr, r, _, _, hr, h => by cases (show some cs = some r from h); exact ⟨arr, rfl, hr⟩
  | (i, v) :: rest, (i0, v0) :: rest0, cs, arr, r, hl, hp, hr, h => by
    obtain ⟨e, hv⟩ := hp 0 _ _ rfl rfl
    simp only at e hv
    subst e
    unfold fillV at h
    split at h
    · cases h
    · rename_i off size hpl
      split at h
      · rename_i hc
        obtain ⟨hj, hs, hf⟩ := hc
        have hcl := rep_cells hv hj
        have hsz : v0.cells.size = size := by have := hcl.1; simp at this; omega
        have har : arr.size = cs.length := by have := hr.1; simpa using this
        have hfit : off + v0.cells.toList.length ≤ arr.size := by simp; omega
        have e2 := foldl_set v0.cells.toList arr off hfit
        have hz : (v0.cells.zipIdx.foldl (fun cs (c, j) => cs.setIfInBounds (off + j) c) arr) = (arr.toList.take off ++ v0.cells.toList ++ arr.toList.drop (off + v0.cells.toList.length)).toArray := by
          rw [← e2, ← Array.foldl_toList]
          simp
        obtain ⟨out, ho, hro⟩ := fill_rep place rest rest0 (splice cs off v.cells) (arr.toList.take off ++ v0.cells.toList ++ arr.toList.drop (off + v0.cells.toList.length)).toArray r (by simpa using hl)
          (fun i x x' h1 h2 => hp (i + 1) x x' (by simpa using h1) (by simpa using h2)) (by simpa using repL_splice hr hcl off) h
        refine ⟨out, ?_, hro⟩
        simp only [Instr.fill, hpl, hsz, ne_eq, not_true_eq_false, decide_false, Bool.false_or, hz]
        rw [if_neg (by simp; omega)]
        exact ho
      · cases h
  | [], _ :: _, _, _, _, hl, _, _, _ => by simp at hl
  | _ :: _, [], _, _, _, hl, _, _, _ => by simp at hl
theorem run_places {P : Program} {w : World} (fs : List Field) (h : fs.all (fun f => (P.info? f.type).isSome) = true) :
    (fs.mapM (fun f => do pure (f.offset, ← sizeOf f.type) : Field → Sem (Nat × Nat))).run P w = .ok (fs.map fun f => (f.offset, P.cellsOf f.type)) w := by
  induction fs with
  | nil => simp
  | cons f fs ih =>
    simp only [List.all_cons, Bool.and_eq_true] at h
    obtain ⟨i, hi⟩ := Option.isSome_iff_exists.1 h.1
    simp only [List.mapM_cons, Sem.run_bind, run_sizeOf hi, Result.andThen_ok, Sem.run_pure, ih h.2, List.map_cons]
theorem sv_build {P : Program} {G : Ghost} {w : World} (t : TypeId) {parts0 : Array (Nat × Value)} {parts : List (Nat × V)} (hl : parts0.toList.length = parts.length)
    (hp : ∀ (i : Nat) x x', parts0.toList[i]? = some x → parts[i]? = some x' → x.1 = x'.1 ∧ Rep G x.2 x'.2) : SV P G w (Instr.build t parts0) (rBuild P t parts) := by
  unfold rBuild
  split
  · rename_i fs z hu hz
    split
    · rename_i cs hf
      rintro ⟨h1, h2⟩
      obtain ⟨z0, hz0, hr, _⟩ := zval_some hz G w
      obtain ⟨out, ho, hro⟩ := fill_rep _ parts parts0.toList z.cells z0.cells cs hl hp (rep_cells hr h2) hf
      have hpl := run_places (P := P) (w := w) fs.toList h1
      refine ⟨.agg out, ?_, rep_agg hro⟩
      have hm : (fs.mapM (fun f => do pure (f.offset, ← sizeOf f.type) : Field → Sem (Nat × Nat))).run P w = .ok (fs.toList.map fun f => (f.offset, P.cellsOf f.type)).toArray w := by
        rw [Array.mapM_eq_mapM_toList, Sem.run_map, hpl]
        rfl
      have hfn : (fun i : Nat => (fs.toList.map fun f => (f.offset, P.cellsOf f.type)).toArray[i]?) = fun i => fs[i]?.map fun f => (f.offset, P.cellsOf f.type) := by
        funext i; simp
      simp only [Instr.build, Sem.run_bind, hz0, Result.andThen_ok, run_underlying hu, hm, hfn, ho]
      rfl
    · exact fun h => h.elim
  · rename_i n e z hu hz
    split
    · rename_i cs hf
      rintro ⟨h1, h2⟩
      obtain ⟨z0, hz0, hr, _⟩ := zval_some hz G w
      obtain ⟨inf, hi, _⟩ := info_of_cells h1
      obtain ⟨out, ho, hro⟩ := fill_rep _ parts parts0.toList z.cells z0.cells cs hl hp (rep_cells hr h2) hf
      refine ⟨.agg out, ?_, rep_agg hro⟩
      simp only [Instr.build, Sem.run_bind, hz0, Result.andThen_ok, run_underlying hu, run_sizeOf hi, ho]
      rfl
    · exact fun h => h.elim
  · exact fun h => h.elim
end
section
open Go

structure St where
  get : Nat → V
  M : Mem
  K : Toks
  cnt : Nat → Nat

def St.put (σ : St) (N : Nat) (d : Option Nat) (v : V) : St := match d with
  | none => σ
  | some d => if d < N then { σ with get := fun t => if t = d then v else σ.get t } else σ
def St.ev (σ : St) : Operand → V
  | .tmp t => σ.get t
  | .const c => ofVal c
  | .global g => gval g
  | .func f => .fn f []
def key : Option Nat → Nat
  | none => 1
  | some d => d + 2
def nid (cnt : Nat → Nat) (p : Path) (d : Option Nat) : Path := cnt (key d) :: key d :: p
def bump (cnt : Nat → Nat) (d : Option Nat) : Nat → Nat := fun k => if k = key d then cnt k + 1 else cnt k

structure Env where
  eq : TypeId → Bool
  pf : FuncId → List V → Option V
  po : FuncId → List V → Option (Nat × List (List V))
  own : FuncId → Bool
  mf : FuncId → Path → List V → Mem → Toks → Option (V × Mem × Toks)
  mem : FuncId → Bool
  cl : Nat → Bool := fun _ => false
  tok : FuncId → Bool := fun _ => false
  gd : Nat → Bool := fun _ => false
/-- What a function that writes is handed: without the rows' tokens, but where its contract wants them. -/
def Env.hand (E : Env) (f : FuncId) (args : List V) : List V := if E.tok f = true then args else args.map V.erase
/-- Whether what lies at an address is known to be written no more. -/
def frozenA (E : Env) : Operand → Bool
  | .tmp n => E.cl n
  | _ => false
def rLoadC (P : Program) (t : TypeId) : V → R
  | .cptr cs off => cut P t cs off
  | _ => .bad

/-- What an operation comes to: its value, and the memory. -/
structure Core where
  pre : Prop
  v : V
  M : Mem
  K : Toks
  cnt : Nat → Nat

def V.one : V → Bool
  | .agg _ | .tup _ | .junk => false
  | _ => true
def elsOf : V → Option (List (List V))
  | .nils => some []
  | .sl els _ => some els
  | _ => none

section
variable (P : Program) (E : Env) (p : Path)
def rop (ρ : Operand → V) (M : Mem) : Op → R
  | .move x | .assign x => ⟨True, ρ x⟩
  | .pick c a b => rPick (ρ c) (ρ a) (ρ b)
  | .load t a => if frozenA E a = true then rLoadC P t (ρ a) else rLoad P M t (ρ a)
  | .build t ps => rBuild P t (ps.toList.map fun x => (x.1, ρ x.2))
  | .nilCheck x => rNil (ρ x)
  | .binOp op t x y _ => rBin P E.eq op t (ρ x) (ρ y)
  | .unOp op _ x => rUn op (ρ x)
  | .convert s d x => rConv P s d (ρ x)
  | .makeInterface t x => rIface P t (ρ x)
  | .makeFunc (.func f) first caps => ⟨first = #[], .fn f (caps.toList.map ρ)⟩
  | .slice t x lo hi none => rSlice P t (ρ x) (lo.map ρ) (hi.map ρ)
  | .fieldAddr s x f => rField P s f (ρ x)
  | .field s x f => rPart P s f (ρ x)
  | .indexAddr t x i => rIxAddr P t (ρ x) (ρ i)
  | .index t x i => rIx P t (ρ x) (ρ i)
  | .typeAssert x _ t ok => rAssert P t ok (ρ x)
  | .extract x i => rExtract i (ρ x)
  | .call { callee := .builtin b, args, argTypes } => rBuiltin P b argTypes (args.toList.map ρ)
  | _ => .bad

def coreBad (M : Mem) (K : Toks) (cnt : Nat → Nat) : Core := ⟨False, .junk, M, K, cnt⟩
def coreR (r : R) (M : Mem) (K : Toks) (cnt : Nat → Nat) : Core := ⟨r.pre, r.v, M, K, cnt⟩
def coreNew (pre : Prop) (d : Option Nat) (v : Path → V) (b : Option Box) (ow : Bool) (M : Mem) (K : Toks) (cnt : Nat → Nat) : Core :=
  ⟨pre, v (nid cnt p d), match b with | some b => upd M (nid cnt p d) (some b) | none => M, if ow = true then upd K (nid cnt p d) true else K, bump cnt d⟩
def coreStore (t : TypeId) (a x : V) (M : Mem) (K : Toks) (cnt : Nat → Nat) : Core := match a with
  | .ptr id off => match M id with
    | some (.cells cs) => ⟨0 < P.cellsOf t ∧ x.cells.length = P.cellsOf t ∧ x.cells.all V.one = true ∧ off + P.cellsOf t ≤ cs.length, .tup [], upd M id (some (.cells (splice cs off x.cells))), K, cnt⟩
    | _ => coreBad M K cnt
  | _ => coreBad M K cnt
def coreMake (t : TypeId) (len : Operand) (l c : V) (d : Option Nat) (M : Mem) (K : Toks) (cnt : Nat → Nat) : Core := match P.underlying t with
  | some (.slice e) => match l, c, zval P e with
    | .int _ l, .int _ c, some z => match len with
      | .const (.int _ 0) => coreNew p (0 ≤ c ∧ c ≤ 140737488355328 ∧ c * P.bytesOf e ≤ 140737488355328 ∧ l = 0 ∧ 0 < P.cellsOf e ∧ z.isJunk = false ∧ z.cells.length = P.cellsOf e) d (fun id => .sl [] (.own id (P.cellsOf e))) none true M K cnt
      | _ => coreNew p (0 ≤ l ∧ l ≤ c ∧ c ≤ 140737488355328 ∧ c * P.bytesOf e ≤ 140737488355328 ∧ 0 < P.cellsOf e ∧ z.isJunk = false ∧ z.cells.length = P.cellsOf e) d
          (fun id => .ms id 0 l.toNat c.toNat) (some (.cells (List.replicate c.toNat z.cells).flatten)) false M K cnt
    | _, _, _ => coreBad M K cnt
  | _ => coreBad M K cnt
def coreAppend (ts : Array TypeId) (s x : V) (d : Option Nat) (M : Mem) (K : Toks) (cnt : Nat → Nat) : Core := match ts.toList with
  | [t, t'] => match P.underlying t, elsOf x with
    | some (.slice e), some news => match zval P e with
      | some z => match news with
        | [] => ⟨t' = t ∧ (elsOf s).isSome = true ∧ 0 < P.cellsOf e, s, M, K, cnt⟩
        | _ => match s with
          | .nils => coreNew p (t' = t ∧ 0 < P.cellsOf e ∧ 0 < P.bytesOf e ∧ z.isJunk = false ∧ z.cells.length = P.cellsOf e ∧ news.all (fun el => el.length == P.cellsOf e && el.all V.one) = true ∧ news.length * P.bytesOf e ≤ 140737488355328)
              d (fun id => .sl (news.map (List.map V.er)) (.own id (P.cellsOf e))) none true M K cnt
          | .sl els .ex => coreNew p (t' = t ∧ 0 < P.cellsOf e ∧ 0 < P.bytesOf e ∧ z.isJunk = false ∧ z.cells.length = P.cellsOf e ∧ news.all (fun el => el.length == P.cellsOf e && el.all V.one) = true ∧ (∀ el ∈ els, el.length = P.cellsOf e) ∧ (els.length + news.length) * P.bytesOf e ≤ 140737488355328)
              d (fun id => .sl (els ++ news.map (List.map V.er)) (.own id (P.cellsOf e))) none true M K cnt
          | .sl els (.own q s) => coreNew p (K q = true ∧ s = P.cellsOf e ∧ t' = t ∧ 0 < P.cellsOf e ∧ 0 < P.bytesOf e ∧ z.isJunk = false ∧ z.cells.length = P.cellsOf e ∧ news.all (fun el => el.length == P.cellsOf e && el.all V.one) = true ∧ (∀ el ∈ els, el.length = P.cellsOf e) ∧ (els.length + news.length) * P.bytesOf e ≤ 140737488355328)
              d (fun id => .sl (els ++ news.map (List.map V.er)) (.own id (P.cellsOf e))) none true M (upd K q false) cnt
          | _ => coreBad M K cnt
      | none => coreBad M K cnt
    | _, _ => coreBad M K cnt
  | _ => coreBad M K cnt
/-- Whether what is appended goes into a row that may be written. -/
def Env.gs (E : Env) : Option Nat → Bool
  | some d => E.gd d
  | none => false
/-- A row in a box grows. -/
def coreGrow (ts : Array TypeId) (s x : V) (d : Option Nat) (M : Mem) (K : Toks) (cnt : Nat → Nat) : Core := match ts.toList with
  | [t, t'] => match P.underlying t, elsOf x with
    | some (.slice e), some news => match zval P e with
      | some z => match s with
        | .gs id len sz => match M id with
          | some (.cells cs) => ⟨news ≠ [] ∧ sz = P.cellsOf e ∧ t' = t ∧ 0 < P.cellsOf e ∧ 0 < P.bytesOf e ∧ z.isJunk = false ∧ z.cells.length = P.cellsOf e ∧ news.all (fun el => el.length == P.cellsOf e && el.all V.one) = true ∧ cs.length = len * P.cellsOf e ∧ (len + news.length) * P.bytesOf e ≤ 140737488355328,
              .gs (nid cnt p d) (len + news.length) sz, upd (upd M id none) (nid cnt p d) (some (.cells (cs ++ (news.map (List.map V.er)).flatten))), K, bump cnt d⟩
          | _ => coreBad M K cnt
        | .nils | .sl [] .ex => coreNew p (news ≠ [] ∧ t' = t ∧ 0 < P.cellsOf e ∧ 0 < P.bytesOf e ∧ z.isJunk = false ∧ z.cells.length = P.cellsOf e ∧ news.all (fun el => el.length == P.cellsOf e && el.all V.one) = true ∧ news.length * P.bytesOf e ≤ 140737488355328)
            d (fun id => .gs id news.length (P.cellsOf e)) (some (.cells (news.map (List.map V.er)).flatten)) false M K cnt
        | _ => coreBad M K cnt
      | none => coreBad M K cnt
    | _, _ => coreBad M K cnt
  | _ => coreBad M K cnt
def coreCall (f : FuncId) (args : List V) (d : Option Nat) (M : Mem) (K : Toks) (cnt : Nat → Nat) : Core :=
  if E.own f = true then match E.po f (args.map V.erase) with
    | some (s, els) => coreNew p True d (fun id => .sl els (.own id s)) none true M K cnt
    | none => coreBad M K cnt
  else if E.mem f = true then match E.mf f (nid cnt p d) (E.hand f args) M K with
    | some (x, M', K') => ⟨True, x, M', K', bump cnt d⟩
    | none => coreBad M K cnt
  else match E.pf f (args.map V.erase) with
    | some r => ⟨True, r, M, K, cnt⟩
    | none => coreBad M K cnt
def opCore (ρ : Operand → V) (M : Mem) (K : Toks) (cnt : Nat → Nat) (d : Option Nat) : Op → Core
  | .alloc t => match zval P t with
    | some z => coreNew p (z.isJunk = false) d (fun id => .ptr id 0) (some (.cells z.cells)) false M K cnt
    | none => coreBad M K cnt
  | .box t x => coreNew p ((ρ x).isJunk = false) d (fun id => .ptr id 0) (some (.cells (ρ x).cells)) false M K cnt
  | .buildSlice t len ps => match P.underlying t with
    | some (.slice e) => ⟨ps.toList.map (·.1) = List.range len ∧ 0 < P.cellsOf e ∧ len * P.cellsOf e ≤ 16777216 ∧ (zval P e).any (fun z => !z.isJunk && z.cells.length == P.cellsOf e) = true ∧ ps.toList.all (fun x => !(ρ x.2).isJunk && (ρ x.2).cells.length == P.cellsOf e) = true,
        .sl (ps.toList.map fun x => (ρ x.2).cells.map V.er) .ex, M, K, cnt⟩
    | _ => coreBad M K cnt
  | .store t a x => coreStore P t (ρ a) (ρ x) M K cnt
  | .makeSlice t l c => coreMake P p t l (ρ l) (ρ c) d M K cnt
  | .call c => match c.callee with
    | .builtin .append => match c.args.toList with
      | [s, x] => if E.gs d = true then coreGrow P p c.argTypes (ρ s) (ρ x) d M K cnt else coreAppend P p c.argTypes (ρ s) (ρ x) d M K cnt
      | _ => coreBad M K cnt
    | .builtin b => coreR (rBuiltin P b c.argTypes (c.args.toList.map ρ)) M K cnt
    | .value f => match ρ f with
      | .fn g caps => coreCall E p g (c.args.toList.map ρ ++ caps) d M K cnt
      | _ => coreBad M K cnt
    | _ => coreBad M K cnt
  | op => coreR (rop P E ρ M op) M K cnt
end

structure Out where
  pre : Prop
  st : St
def opStep (P : Program) (E : Env) (N : Nat) (p : Path) (o : Oper) (σ : St) : Out :=
  let c := opCore P E p σ.ev σ.M σ.K σ.cnt o.dst o.op
  ⟨c.pre, ({ σ with M := c.M, K := c.K, cnt := c.cnt } : St).put N o.dst c.v⟩

/-! ### The state stands for a frame and a world -/
structure Rel (N : Nat) (p : Path) (ds : List Deferred) (G : Ghost) (σ : St) (a : Act) (w : World) : Prop where
  n : a.tmps.size = N
  tm : ∀ (t : Nat) v, a.tmps[t]? = some v → Rep G v (σ.get t)
  rng : ∀ t, N ≤ t → σ.get t = .tup []
  df : a.defers = ds
  sim : Sim G σ.M σ.K w
  fr : ∀ k c id, 0 < k → σ.cnt k ≤ c → (c :: k :: p) <:+ id → G.loc id = none ∧ G.tl id = none
  hid : ∃ h, ∀ c id, h ≤ c → (c :: 0 :: p) <:+ id → G.loc id = none ∧ G.tl id = none

theorem Rel.eval {N : Nat} {p : Path} {ds : List Deferred} {G : Ghost} {σ : St} {a : Act} {w : World} (h : Rel N p ds G σ a w) (x : Operand) : Rep G (a.eval x) (σ.ev x) := by
  cases x with
  | tmp t =>
    show Rep G (a.tmps.getD t undef) (σ.get t)
    by_cases ht : t < a.tmps.size
    · simp only [Array.getD_eq_getD_getElem?]
      rw [show a.tmps[t]? = some a.tmps[t] by simp [ht]]
      exact h.tm t _ (by simp [ht])
    · have ht2 : a.tmps.size ≤ t := Nat.le_of_not_lt ht
      rw [h.rng t (by rw [← h.n]; exact ht2)]
      simp only [Array.getD_eq_getD_getElem?]
      rw [Array.getElem?_eq_none ht2]
      exact rep_tup (.nil G)
  | const c => exact rep_ofVal G c
  | global g => exact rep_gval h.sim.tb g
  | func f => exact rep_fn (.nil G)
theorem Rel.put {N : Nat} {p : Path} {ds : List Deferred} {G : Ghost} {σ : St} {a : Act} {w : World} (h : Rel N p ds G σ a w) {v : Value} {x : V} (hv : Rep G v x) (d : Option Nat) : Rel N p ds G (σ.put N d x) (a.put d v) w := by
  cases d with
  | none => exact h
  | some d =>
    by_cases hd : d < N
    · simp only [St.put, hd, if_true]
      refine ⟨by simp [Act.put, h.n], fun t u hu => ?_, fun t ht => ?_, h.df, h.sim, h.fr, h.hid⟩
      · simp only [Act.put, Array.getElem?_setIfInBounds] at hu
        by_cases e : t = d
        · subst e; simp [h.n, hd] at hu; subst hu; simpa using hv
        · rw [if_neg (fun e' => e e'.symm)] at hu; simp [e]; exact h.tm t u hu
      · have : ¬ t = d := by omega
        simp [this]; exact h.rng t ht
    · simp only [St.put, hd, if_false]
      have : a.put (some d) v = a := by
        simp only [Act.put]
        rw [Array.setIfInBounds_eq_of_size_le (by rw [h.n]; omega)]
      rw [this]; exact h
theorem suffix_eq {α : Type} {a b c : List α} (h1 : a <:+ c) (h2 : b <:+ c) (h : a.length = b.length) : a = b := by
  have := List.suffix_of_suffix_length_le h1 h2 (by omega)
  exact this.eq_of_length h
/-- Behind what has run in a new frame or made a new box. -/
theorem Rel.next {N : Nat} {p : Path} {ds : List Deferred} {G : Ghost} {σ : St} {a : Act} {w : World} (h : Rel N p ds G σ a w) (d : Option Nat) {G' : Ghost} {M' : Mem} {K' : Toks} {w' : World}
    (tr : Tr (nid σ.cnt p d) G σ.M σ.K w G' M' K' w') (hs : Sim G' M' K' w') : Rel N p ds G' { σ with M := M', K := K', cnt := bump σ.cnt d } a w' := by
  refine ⟨h.n, fun t v hv => (h.tm t v hv).mono tr.le, h.rng, h.df, hs, fun k c id hk hc hid => ?_, ?_⟩
  · have hns : ¬ nid σ.cnt p d <:+ id := fun hq => by
      have := suffix_eq hid hq (by simp [nid])
      simp only [nid, List.cons.injEq] at this
      obtain ⟨e1, e2, _⟩ := this
      simp only [bump] at hc
      rw [if_pos e2] at hc
      subst e2; omega
    rw [(tr.fr id hns).1, (tr.fr id hns).2]
    refine h.fr k c id hk ?_ hid
    simp only [bump] at hc
    split at hc <;> omega
  · obtain ⟨b, hb⟩ := h.hid
    refine ⟨b, fun c id hc hid => ?_⟩
    have hns : ¬ nid σ.cnt p d <:+ id := fun hq => by
      have := suffix_eq hid hq (by simp [nid])
      simp only [nid, List.cons.injEq] at this
      obtain ⟨_, e2, _⟩ := this
      cases d <;> simp [key] at e2
    rw [(tr.fr id hns).1, (tr.fr id hns).2]
    exact hb c id hc hid
/-- Behind what has run in a hidden frame. -/
theorem Rel.nexth {N : Nat} {p : Path} {ds : List Deferred} {G : Ghost} {σ : St} {a : Act} {w : World} (h : Rel N p ds G σ a w) {b : Nat} (hb : ∀ c id, b ≤ c → (c :: 0 :: p) <:+ id → G.loc id = none ∧ G.tl id = none) {G' : Ghost} {M' : Mem} {K' : Toks} {w' : World}
    (tr : Tr (b :: 0 :: p) G σ.M σ.K w G' M' K' w') (hs : Sim G' M' K' w') : Rel N p ds G' { σ with M := M', K := K' } a w' := by
  refine ⟨h.n, fun t v hv => (h.tm t v hv).mono tr.le, h.rng, h.df, hs, fun k c id hk hc hid => ?_, b + 1, fun c id hc hid => ?_⟩
  · have hns : ¬ (b :: 0 :: p) <:+ id := fun hq => by
      have := suffix_eq hid hq (by simp)
      simp only [List.cons.injEq] at this
      omega
    rw [(tr.fr id hns).1, (tr.fr id hns).2]
    exact h.fr k c id hk hc hid
  · have hns : ¬ (b :: 0 :: p) <:+ id := fun hq => by
      have := suffix_eq hid hq (by simp)
      simp only [List.cons.injEq] at this
      omega
    rw [(tr.fr id hns).1, (tr.fr id hns).2]
    exact hb c id (by omega) hid
/-- Behind what has made no box. -/
theorem Rel.same {N : Nat} {p : Path} {ds : List Deferred} {G : Ghost} {σ : St} {a : Act} {w : World} (h : Rel N p ds G σ a w) {G' : Ghost} {M' : Mem} {w' : World} (hle : G.le G') (hl : G'.loc = G.loc) (ht : G'.tl = G.tl)
    (hs : Sim G' M' σ.K w') : Rel N p ds G' { σ with M := M' } a w' :=
  ⟨h.n, fun t v hv => (h.tm t v hv).mono hle, h.rng, h.df, hs, fun k c id hk hc hid => by rw [hl, ht]; exact h.fr k c id hk hc hid, by rw [hl, ht]; exact h.hid⟩
theorem Rel.pre_suffix (cnt : Nat → Nat) (p : Path) (d : Option Nat) : p <:+ nid cnt p d := ⟨[cnt (key d), key d], rfl⟩
theorem Rel.hid_suffix (b : Nat) (p : Path) : p <:+ (b :: 0 :: p) := ⟨[b, 0], rfl⟩
theorem Rel.fresh {N : Nat} {p : Path} {ds : List Deferred} {G : Ghost} {σ : St} {a : Act} {w : World} (h : Rel N p ds G σ a w) (d : Option Nat) : ∀ id, nid σ.cnt p d <:+ id → G.loc id = none ∧ G.tl id = none :=
  fun id hid => h.fr (key d) (σ.cnt (key d)) id (by cases d <;> simp [key]) (Nat.le_refl _) hid

/-! ### Contracts -/
def Callable (P : Program) (f : FuncId) : Prop := ∃ fn, P.funcs[f]? = some fn ∧ (fn.name == "runtime.NumGoroutine") = false ∧ fn.body.isNone = false
def Fresh (q : Path) (G : Ghost) : Prop := ∀ id, q <:+ id → G.loc id = none ∧ G.tl id = none
def Ctr (P : Program) (f : FuncId) (q : Path) (args : List V) (M : Mem) (K : Toks) (Q : V → Mem → Toks → Prop) : Prop :=
  ∀ G w argsC, Sim G M K w → Fresh q G → RepL G argsC args → Calls P f argsC.toArray w fun e w' =>
    ∃ G' M' K' v x, e = .returned v ∧ Rep G' v x ∧ Sim G' M' K' w' ∧ Tr q G M K w G' M' K' w' ∧ Q x M' K'
structure EnvOk (P : Program) (E : Env) : Prop where
  eq : EqOk P E.eq
  pf : ∀ f args r, E.own f = false → E.mem f = false → E.pf f args = some r → Callable P f ∧ ∀ q M K, Ctr P f q args M K fun x M' K' => x = r ∧ M' = M ∧ K' = K
  po : ∀ f args s els, E.own f = true → E.po f args = some (s, els) → Callable P f ∧ ∀ q M K, Ctr P f q args M K fun x M' K' => M' = M ∧ ∃ t, x = .sl els (.own t s) ∧ q <:+ t ∧ K' = upd K t true
  mf : ∀ f q args M K x M' K', E.own f = false → E.mem f = true → E.mf f q args M K = some (x, M', K') → Callable P f ∧ (∀ id, ¬ q <:+ id → M id = none → M' id = none) ∧ Ctr P f q args M K fun y M1 K1 => y = x ∧ M1 = M' ∧ K1 = K'

theorem repL_eval {N : Nat} {p : Path} {ds : List Deferred} {G : Ghost} {σ : St} {a : Act} {w : World} (h : Rel N p ds G σ a w) (l : List Operand) : RepL G (l.map a.eval) (l.map σ.ev) :=
  ⟨by simp, fun i v c hv hc => by
    rw [List.getElem?_map] at hv hc
    obtain ⟨x, hx, rfl⟩ := Option.map_eq_some_iff.1 hv
    rw [hx] at hc; simp at hc; subst hc
    exact h.eval x⟩
theorem repL_erase {G : Ghost} {a : List Value} {c : List V} (h : RepL G a c) : RepL G a (c.map V.erase) :=
  ⟨by simp [h.1], fun i v x hv hx => by
    rw [List.getElem?_map] at hx
    obtain ⟨y, hy, rfl⟩ := Option.map_eq_some_iff.1 hx
    exact rep_erase (h.2 i v y hv hy)⟩
theorem repL_hand {G : Ghost} {a : List Value} {c : List V} (E : Env) (f : FuncId) (h : RepL G a c) : RepL G a (E.hand f c) := by
  unfold Env.hand; split
  · exact h
  · exact repL_erase h
theorem run_callFunc {P : Program} {f : FuncId} (h : Callable P f) (args : Array Value) (w : World) : (callFunc f args).run P w = .ok (.enter f args) w := by
  obtain ⟨fn, h1, h2, h3⟩ := h
  simp only [callFunc, Sem.run_bind, run_program, Result.andThen_ok, h1, h2, h3]
  rfl
end
section
open Go

section
variable {P : Program} {E : Env} {N : Nat} {p : Path} {ds : List Deferred} {G : Ghost} {σ : St} {a : Act} {w : World}

theorem run_v {s : Sem Value} {v : Value} {w' : World} (h : s.run P w = .ok v w') : (do pure (Next.value (← s)) : Sem Next).run P w = .ok (.value v) w' := by
  simp only [Sem.run_bind, h, Result.andThen_ok]; rfl
theorem of_sv {s : Sem Value} {r : R} (h : SV P G w s r) (hp : r.pre) : ∃ v, (do pure (Next.value (← s)) : Sem Next).run P w = .ok (.value v) w ∧ Rep G v r.v := by
  obtain ⟨v, hv, hr⟩ := h hp
  exact ⟨v, run_v hv, hr⟩
theorem rep_nil {x : Value} {x' : V} (hx : Rep G x x') (hp : (rNil x').pre) : ∃ v, (match x with
    | .pointer none | .nilIface | .nilFunc => runtimePanic .nilDeref
    | .func (.method name) first captured =>
      match (first[0]? : Option Value) with
      | some .nilIface => runtimePanic .nilDeref
      | some (.iface t w) => do
        if (← nilAhead ((← program).types.size + Made.depth) t w name) != some false then
          unsupported (.noEntry "op/nilCheck.the method's receiver behind this interface value is a nil pointer, or cannot be seen to be none, and the arguments act or may panic (ledger 612)")
        pure (.value (.func (.method name) first captured))
      | _ => pure (.value (.func (.method name) first captured))
    | x => pure (.value x) : Sem Next).run P w = .ok (.value v) w ∧ Rep G v (rNil x').v := by
  cases hx with
  | ptr id off b hl => exact ⟨_, rfl, .ptr id off b hl⟩
  | cptr b o cs off vs hfx hrep => exact ⟨_, rfl, .cptr b o cs off vs hfx hrep⟩
  | fn f arr cs hl h => exact ⟨_, rfl, .fn f arr cs hl h⟩
  | _ => exact hp.elim
theorem ivO_map (x : Option Operand) (hR : Rel N p ds G σ a w) : ivO (x.map a.eval) (x.map σ.ev) := by
  cases x with
  | none => trivial
  | some x => intro k n hx; have := hR.eval x; rw [hx] at this; exact rep_int_inv this

theorem rop_sound (hE : EnvOk P E) (h : Rel N p ds G σ a w) (o : Oper) (hp : (rop P E σ.ev σ.M o.op).pre) :
    ∃ v, (execOp a.eval o).run P w = .ok (.value v) w ∧ Rep G v (rop P E σ.ev σ.M o.op).v := by
  obtain ⟨dst, op, type, pos, after, guard⟩ := o
  cases op with
  | move x => exact ⟨_, rfl, h.eval x⟩
  | assign x => exact ⟨_, rfl, h.eval x⟩
  | pick c x y =>
    obtain ⟨v, hv, hr⟩ := sv_pick (P := P) (w := w) (h.eval c) (h.eval x) (h.eval y) hp
    refine ⟨v, ?_, hr⟩
    simp only [execOp]
    simp only [Sem.run_bind, Sem.run_pure] at hv ⊢
    cases hb : (asBool (a.eval c)).run P w with
    | ok t w' => rw [hb] at hv; simp only [Result.andThen_ok] at hv ⊢; cases hv; rfl
    | halt x w' => rw [hb] at hv; simp at hv
  | load t x =>
    have hs := sv_load (P := P) h.sim t (h.eval x)
    simp only [rop] at hp ⊢
    split at hp
    · rename_i hf
      simp only [if_pos hf]
      have hc : SV P G w (Instr.loadAt t (a.eval x)) (rLoadC P t (σ.ev x)) := fun hp' => by
        unfold rLoadC at hp' ⊢
        split at hp'
        · rename_i cs off e
          rw [e] at hs
          exact hs hp'
        · exact hp'.elim
      exact of_sv hc hp
    · rename_i hf
      simp only [if_neg hf]
      exact of_sv hs hp
  | build t ps =>
    refine of_sv (sv_build t (by simp) fun i x x' hx hx' => ?_) hp
    simp only [Array.toList_map, List.getElem?_map] at hx hx'
    obtain ⟨y, hy, rfl⟩ := Option.map_eq_some_iff.1 hx
    rw [hy] at hx'; simp at hx'; subst hx'
    exact ⟨rfl, h.eval y.2⟩
  | nilCheck x => exact rep_nil (h.eval x) hp
  | binOp op t x y yt => exact of_sv (sv_bin hE.eq op t x y (h.eval x) (h.eval y)) hp
  | unOp op t x => exact of_sv (sv_un op (h.eval x)) hp
  | convert s d x => exact of_sv (sv_conv h.sim s d (h.eval x)) hp
  | makeInterface t x => exact of_sv (sv_iface t (h.eval x)) hp
  | makeFunc fn first caps =>
    cases fn with
    | func f =>
      obtain rfl : first = #[] := hp
      refine ⟨.func (.func f) #[] (caps.map a.eval), by simp [execOp, Instr.makeFunc], rep_fn ?_⟩
      have := repL_eval h caps.toList
      simpa using this
    | _ => exact hp.elim
  | slice t x lo hi mx =>
    cases mx with
    | none => exact of_sv (sv_slice t (h.eval x) (ivO_map lo h) (ivO_map hi h)) hp
    | some m => exact hp.elim
  | fieldAddr s x f => exact of_sv (sv_field s f (h.eval x)) hp
  | field s x f => exact of_sv (sv_part s f (h.eval x)) hp
  | indexAddr t x i => exact of_sv (sv_ixAddr t (h.eval x) (h.eval i)) hp
  | index t x i => exact of_sv (sv_ix t (h.eval x) (h.eval i)) hp
  | typeAssert x xt t ok => exact of_sv (sv_assert xt t ok (h.eval x)) hp
  | extract x i => exact of_sv (sv_extract i (h.eval x)) hp
  | call c =>
    obtain ⟨callee, args, ts⟩ := c
    cases callee with
    | builtin b =>
      obtain ⟨v, hv, hr⟩ := sv_builtin (P := P) (w := w) b ts type (args.map fun | .const _ => true | _ => false) (repL_eval h args.toList) hp
      refine ⟨v, ?_, hr⟩
      have e : (args.toList.map a.eval).toArray = args.map a.eval := by apply Array.ext'; rw [Array.toList_map]
      rw [e] at hv
      show (do let d ← resolve a.eval ⟨.builtin b, args, ts⟩ type; invoke d.target d.args : Sem Next).run P w = _
      rw [Sem.run_bind]
      exact hv
    | _ => exact hp.elim
  | _ => exact hp.elim

/-- What an operation without a call comes to. -/
def Done (P : Program) (N : Nat) (p : Path) (ds : List Deferred) (G : Ghost) (σ : St) (a : Act) (w : World) (o : Oper) (c : Core) : Prop :=
  ∃ v w' G', ((execOp a.eval o).run P w = .ok (.value v) w' ∨ ((execOp a.eval o).run P w = .ok .skip w' ∧ v = undef)) ∧ Rep G' v c.v ∧ Tr p G σ.M σ.K w G' c.M c.K w' ∧
    Rel N p ds G' { σ with M := c.M, K := c.K, cnt := c.cnt } a w'
theorem Rel.eta (h : Rel N p ds G σ a w) : Rel N p ds G { σ with M := σ.M, K := σ.K, cnt := σ.cnt } a w := h
theorem done_reg (hE : EnvOk P E) (h : Rel N p ds G σ a w) (o : Oper) (hp : (rop P E σ.ev σ.M o.op).pre) : Done P N p ds G σ a w o (coreR (rop P E σ.ev σ.M o.op) σ.M σ.K σ.cnt) := by
  obtain ⟨v, hv, hr⟩ := rop_sound hE h o hp
  exact ⟨v, w, G, .inl hv, hr, .refl _ _ _ _ _, h⟩

theorem done_box (h : Rel N p ds G σ a w) (o : Oper) (t : TypeId) (x : Value) (x' : V) (hx : Rep G x x') (hj : x'.isJunk = false) (he : (execOp a.eval o).run P w = .ok (.value (.pointer (some ⟨w.heap.size, 0, none⟩))) (w.alloc (.cells x.cells t)))
    (pre : Prop) : Done P N p ds G σ a w o (coreNew p pre o.dst (fun id => .ptr id 0) (some (.cells x'.cells)) false σ.M σ.K σ.cnt) := by
  have hf := (h.fresh o.dst (nid σ.cnt p o.dst) (List.suffix_refl _)).1
  have hs := h.sim.alloc_box hf x.cells t x'.cells (rep_cells hx hj)
  have ht := Tr.alloc_box h.sim (p := nid σ.cnt p o.dst) (List.suffix_refl _) hf x.cells t x'.cells
  exact ⟨_, _, _, .inl he, .ptr _ 0 _ (by simp [Ghost.addGs]), ht.mono (Rel.pre_suffix _ _ _), h.next o.dst ht hs⟩
theorem done_alloc (h : Rel N p ds G σ a w) (o : Oper) (t : TypeId) (ho : o.op = .alloc t) (hp : (opCore P E p σ.ev σ.M σ.K σ.cnt o.dst o.op).pre) : Done P N p ds G σ a w o (opCore P E p σ.ev σ.M σ.K σ.cnt o.dst o.op) := by
  rw [ho] at hp ⊢
  simp only [opCore] at hp ⊢
  cases hz : zval P t with
  | none => rw [hz] at hp; exact hp.elim
  | some z =>
    rw [hz] at hp
    simp only at hp ⊢
    obtain ⟨z0, hz0, hr, _⟩ := zval_some hz G w
    refine done_box h o t z0 z hr hp ?_ _
    obtain ⟨dst, op, type, pos, after, guard⟩ := o
    simp only at ho; subst ho
    refine run_v ?_
    simp only [Instr.alloc, Sem.run_bind, hz0, Result.andThen_ok, newVar, newRow]
    rfl
theorem done_boxOp (h : Rel N p ds G σ a w) (o : Oper) (t : TypeId) (x : Operand) (ho : o.op = .box t x) (hp : (opCore P E p σ.ev σ.M σ.K σ.cnt o.dst o.op).pre) : Done P N p ds G σ a w o (opCore P E p σ.ev σ.M σ.K σ.cnt o.dst o.op) := by
  rw [ho] at hp ⊢
  refine done_box h o t (a.eval x) (σ.ev x) (h.eval x) hp ?_ _
  obtain ⟨dst, op, type, pos, after, guard⟩ := o
  simp only at ho; subst ho
  exact run_v rfl

theorem one_cell {v : Value} {x : V} (hr : Rep G v x) (hx : x.one = true) : v.oneCell' = true := by
  cases hr <;> first | rfl | (simp [V.one] at hx)
theorem isJunk_of_cells {x : V} (h : x.cells.all V.one = true) : x.isJunk = false := by
  cases x <;> first | rfl | (simp [V.cells, V.one] at h)
theorem BoxAt.splice {G : Ghost} {id : Path} {b : Nat} {arr : Array Value} {cs xs : List V} {x : List Value} (h : BoxAt G id b arr cs) (hx : RepL G x xs) (off : Nat) (hf : off + xs.length ≤ cs.length) :
    RepL G ((arr.toList.take off ++ x ++ arr.toList.drop (off + x.length)).toArray.toList.take (splice cs off xs).length) (Ax.splice cs off xs) := by
  have hsz := h.size
  have h1 := repL_splice h.1 hx off
  have hl : (Ax.splice cs off xs).length = cs.length := by simp [Ax.splice]; omega
  rw [hl]
  have hxl := hx.1
  have : (arr.toList.take off ++ x ++ arr.toList.drop (off + x.length)).toArray.toList.take cs.length = (arr.toList.take cs.length).take off ++ x ++ (arr.toList.take cs.length).drop (off + x.length) := by
    apply List.ext_getElem?
    intro i
    simp only [List.getElem?_take, List.getElem?_append, List.length_take, List.length_append, List.getElem?_drop, Array.length_toList]
    have e1 : min off (min cs.length arr.size) = off := by omega
    have e2 : min off arr.size = off := by omega
    rw [e1, e2]
    by_cases c1 : i < off
    · have : i < cs.length := by omega
      simp [c1, this, show i < off + x.length by omega]
    · by_cases c2 : i < off + x.length
      · simp [c1, c2, show i < cs.length by omega]
      · by_cases c3 : i < cs.length
        · simp [c1, c2, c3, show off + x.length + (i - (off + x.length)) < cs.length by omega]
        · simp [c1, c2, c3, show ¬ off + x.length + (i - (off + x.length)) < cs.length by omega]
  rw [this]
  exact h1
theorem done_store (h : Rel N p ds G σ a w) (o : Oper) (t : TypeId) (x y : Operand) (ho : o.op = .store t x y) (hp : (opCore P E p σ.ev σ.M σ.K σ.cnt o.dst o.op).pre) : Done P N p ds G σ a w o (opCore P E p σ.ev σ.M σ.K σ.cnt o.dst o.op) := by
  rw [ho] at hp ⊢
  simp only [opCore, coreStore] at hp ⊢
  have hx := h.eval x
  cases hx' : σ.ev x <;> rw [hx'] at hp hx <;> try exact hp.elim
  rename_i id off
  simp only at hp ⊢
  cases hm : σ.M id with
  | none => rw [hm] at hp; exact hp.elim
  | some bx =>
    cases bx with
    | mp es => rw [hm] at hp; exact hp.elim
    | cells cs =>
      rw [hm] at hp
      obtain ⟨h0, h1, h2, h3⟩ := hp
      obtain ⟨inf, hi, hsz⟩ := info_of_cells h0
      generalize hax : a.eval x = ax at hx
      cases hx with | ptr _ _ b hl =>
      obtain ⟨b', arr, T, hl', hh, hba⟩ := h.sim.box id cs hm
      rw [hl] at hl'; cases hl'
      have hrc := rep_cells (h.eval y) (isJunk_of_cells h2)
      have hlen : (a.eval y).cells.toList.length = P.cellsOf t := hrc.1.trans h1
      have har := hba.size
      have h1c : ∀ v ∈ (a.eval y).cells.toList, v.oneCell' = true := fun v hv => by
        obtain ⟨i, hi⟩ := List.mem_iff_getElem?.1 hv
        obtain ⟨c, hc, hrep⟩ := hrc.get' hi
        exact one_cell hrep (List.all_eq_true.1 h2 c (List.mem_of_getElem? hc))
      have hst := run_storeCells_at P b off T (a.eval y).cells.toList 0 arr w hh (by rw [hlen]; omega) h1c
      simp only [Nat.add_zero] at hst
      have hs := h.sim.store hm hl hh (arr.toList.take off ++ (a.eval y).cells.toList ++ arr.toList.drop (off + (a.eval y).cells.toList.length)).toArray (splice cs off (σ.ev y).cells) (hba.splice hrc off (by omega)) (by
        have hlen' := hlen
        simp only [Array.length_toList] at hlen'
        simp only [List.size_toArray, List.length_append, List.length_take, List.length_drop, Array.length_toList]; omega)
      have ht := Tr.store (K := σ.K) (w := w) p hm hl (arr.toList.take off ++ (a.eval y).cells.toList ++ arr.toList.drop (off + (a.eval y).cells.toList.length)).toArray (splice cs off (σ.ev y).cells)
      refine ⟨undef, _, G, .inr ⟨?_, rfl⟩, rep_tup (.nil G), ht, h.same (.refl G) rfl rfl hs⟩
      obtain ⟨dst, op, type, pos, after, guard⟩ := o
      simp only at ho; subst ho
      have hsz' : (a.eval y).cells.size = P.cellsOf t := by simpa using hlen
      simp only [execOp, Instr.storeAt, hax, Instr.sureAddr, storeVar, Sem.run_bind, Sem.run_pure, Result.andThen_ok, run_sizeOf hi, hsz', ne_eq, not_true_eq_false, if_false, hst]
/-- Cells that lie one behind the other. -/
theorem flat_get {α : Type} {s : Nat} : ∀ {ls : List (List α)}, (∀ l ∈ ls, l.length = s) → ∀ {i j : Nat} {l : List α} {x : α}, ls[i]? = some l → l[j]? = some x → ls.flatten[i * s + j]? = some x
  | l0 :: ls, hs, 0, j, l, x, hl, hx => by
    simp at hl; subst hl
    rw [List.flatten_cons, Nat.zero_mul, Nat.zero_add, List.getElem?_append_left (List.getElem?_eq_some_iff.1 hx).1]
    exact hx
  | l0 :: ls, hs, i + 1, j, l, x, hl, hx => by
    have h0 := hs l0 (by simp)
    rw [List.flatten_cons, List.getElem?_append_right (by rw [h0, Nat.add_mul]; omega), h0, show (i + 1) * s + j - s = i * s + j by rw [Nat.add_mul]; omega]
    exact flat_get (fun l hl => hs l (by simp [hl])) (by simpa using hl) hx
theorem flat_len {α : Type} {s : Nat} : ∀ {ls : List (List α)}, (∀ l ∈ ls, l.length = s) → ls.flatten.length = ls.length * s
  | [], _ => by simp
  | l :: ls, hs => by rw [List.flatten_cons, List.length_append, hs l (by simp), flat_len fun l hl => hs l (by simp [hl]), List.length_cons, Nat.add_mul]; omega
/-- A slice over cells that are fixed. -/
theorem rep_slice {b o c s : Nat} {els : List (List V)} {vs : List (List Value)} (tk : Tk) (hl : vs.length = els.length) (hs : ∀ el ∈ els, el.length = s) (hr : ∀ (i : Nat) v el, vs[i]? = some v → els[i]? = some el → RepL G v el)
    (hfx : ∀ (i : Nat) v, vs.flatten[i]? = some v → G.fx b (o + i) = some v) (hc : els.length ≤ c) (hm : c ≤ 9223372036854775807) (hex : tk = .ex → c = els.length) (htk : ∀ p s', tk = .own p s' → o = 0 ∧ s' = s ∧ G.tl p = some (b, c, s, els.length)) :
    Rep G (.slice (some ⟨b, o, none⟩) els.length c) (.sl els tk) := by
  have hvs : ∀ v ∈ vs, v.length = s := fun v hv => by
    obtain ⟨i, hi⟩ := List.mem_iff_getElem?.1 hv
    have hlt : i < els.length := by rw [← hl]; exact (List.getElem?_eq_some_iff.1 hi).1
    rw [(hr i v els[i] hi (by simp [hlt])).1]
    exact hs _ (by simp)
  have key : ∀ (i j : Nat) el x, els[i]? = some el → el[j]? = some x → ∃ v u, vs[i]? = some v ∧ v[j]? = some u ∧ Rep G u x := fun i j el x h1 h2 => by
    have hlt : i < vs.length := by rw [hl]; exact (List.getElem?_eq_some_iff.1 h1).1
    obtain ⟨u, hu, hru⟩ := (hr i vs[i] el (by simp [hlt]) h1).get h2
    exact ⟨vs[i], u, by simp [hlt], hu, hru⟩
  refine .sl b o c s els tk (fun i j => ((vs[i]?.getD [])[j]?).getD undef) hs hc hm (fun i j el x h1 h2 => ?_) (fun i j el x h1 h2 => ?_) hex htk
  · obtain ⟨v, u, e1, e2, _⟩ := key i j el x h1 h2
    simp only [e1, Option.getD_some, e2]
    rw [Nat.add_assoc]
    exact hfx _ _ (flat_get hvs e1 e2)
  · obtain ⟨v, u, e1, e2, hru⟩ := key i j el x h1 h2
    simp only [e1, Option.getD_some, e2]
    exact hru
end
end
end Go.Proofs.YtaacfmakfkaddaaDoor.Ax
