/- Abstract execution, part C: what an operation that makes a value comes to, and that the machine's comes to the same. -/
import Derived.Test.YtiippmhlkcbjmaaAxB
import Derived.Laws.BytesString
set_option linter.unusedVariables false
set_option linter.unusedSimpArgs false
namespace Go.Proofs.Ytiippmhlkcbjmaa.Ax
open Go

structure R where
  pre : Prop
  v : V
def R.bad : R := ⟨False, .junk⟩

def aggT (P : Program) (t : TypeId) : Option Bool := match P.underlying t with
  | some (.struct _) | some (.array _ _) => some true
  | some _ => some false
  | none => none
def cut (P : Program) (t : TypeId) (cs : List V) (off : Nat) : R := match aggT P t with
  | some true => ⟨off + P.cellsOf t ≤ cs.length, .agg ((cs.drop off).take (P.cellsOf t))⟩
  | some false => ⟨off < cs.length, cs.getD off .junk⟩
  | none => .bad
def zval (P : Program) (t : TypeId) : Option V := ((P.info? t).bind (·.zero)).map ofVal

def rPick : V → V → V → R
  | .bool t, a, b => ⟨True, if t then a else b⟩
  | _, _, _ => .bad
def rLoad (P : Program) (M : Mem) (t : TypeId) : V → R
  | .ptr id off => match M id with
    | some (.cells cs) => cut P t cs off
    | _ => .bad
  | .cptr cs off => cut P t cs off
  | _ => .bad
def rField (P : Program) (s : TypeId) (f : Nat) (x : V) : R := match P.underlying s with
  | some (.struct fs) => match fs[f]? with
    | some fd => match x with
      | .ptr id off => ⟨0 < P.cellsOf fd.type, .ptr id (off + fd.offset)⟩
      | .cptr cs off => ⟨0 < P.cellsOf fd.type, .cptr cs (off + fd.offset)⟩
      | _ => .bad
    | none => .bad
  | _ => .bad
def rPart (P : Program) (s : TypeId) (f : Nat) (x : V) : R := match P.underlying s with
  | some (.struct fs) => match fs[f]? with
    | some fd => match x with
      | .agg cs => cut P fd.type cs fd.offset
      | _ => .bad
    | none => .bad
  | _ => .bad
def rIxAddr (P : Program) (t : TypeId) (x i : V) : R := match P.underlying t, i with
  | some (.slice e), .int _ n => match x with
    | .sl els _ => ⟨0 ≤ n ∧ n < els.length ∧ 0 < P.cellsOf e ∧ (els[n.toNat]?.getD []).length = P.cellsOf e, .cptr (els[n.toNat]?.getD []) 0⟩
    | .ms id off len _ => ⟨0 ≤ n ∧ n < len ∧ 0 < P.cellsOf e, .ptr id (off + n.toNat * P.cellsOf e)⟩
    | _ => .bad
  | some (.array len e), .int _ n => match x with
    | .ptr id off => ⟨0 ≤ n ∧ n < len ∧ 0 < P.cellsOf e, .ptr id (off + n.toNat * P.cellsOf e)⟩
    | .cptr cs off => ⟨0 ≤ n ∧ n < len ∧ 0 < P.cellsOf e, .cptr cs (off + n.toNat * P.cellsOf e)⟩
    | _ => .bad
  | _, _ => .bad
def byteAt (s : ByteArray) (i : Int) : Option UInt8 := if 0 ≤ i then s[i.toNat]? else none
def rIx (P : Program) (t : TypeId) (x i : V) : R := match P.underlying t, i with
  | some .string, .int _ n => match x with
    | .str s => ⟨(byteAt s n).isSome = true, .int .u8 ((byteAt s n).getD 0).toNat⟩
    | _ => .bad
  | some (.array len e), .int _ n => match x with
    | .agg cs => ⟨0 ≤ n ∧ n < len ∧ 0 < P.cellsOf e ∧ (cut P e cs (n.toNat * P.cellsOf e)).pre, (cut P e cs (n.toNat * P.cellsOf e)).v⟩
    | _ => .bad
  | _, _ => .bad
def loOf : Option V → Option Int
  | none => some 0
  | some (.int _ n) => some n
  | _ => none
def hiOf (len : Nat) : Option V → Option Int
  | none => some len
  | some (.int _ n) => some n
  | _ => none
def rSlice (P : Program) (t : TypeId) (x : V) (lo hi : Option V) : R := match P.underlying t with
  | some (.slice e) => match x with
    | .sl els _ => match loOf lo, hiOf els.length hi with
      | some l, some h => ⟨0 ≤ l ∧ l ≤ h ∧ h ≤ els.length ∧ 0 < P.cellsOf e ∧ lenL (P.cellsOf e) els, .sl ((els.take h.toNat).drop l.toNat) .no⟩
      | _, _ => .bad
    | .nils => match loOf lo, hiOf 0 hi with
      | some l, some h => ⟨0 ≤ l ∧ l ≤ h ∧ h ≤ 0 ∧ 0 < P.cellsOf e, .nils⟩
      | _, _ => .bad
    | .ms id off len cap => match loOf lo, hiOf len hi with
      | some l, some h => ⟨0 ≤ l ∧ l ≤ h ∧ h ≤ cap ∧ l < cap ∧ 0 < P.cellsOf e, .ms id (off + l.toNat * P.cellsOf e) (h.toNat - l.toNat) (cap - l.toNat)⟩
      | _, _ => .bad
    | _ => .bad
  | some (.array n e) => match x with
    | .ptr id off => match loOf lo, hiOf n hi with
      | some l, some h => ⟨0 ≤ l ∧ l ≤ h ∧ h ≤ n ∧ l < n ∧ 0 < P.cellsOf e, .ms id (off + l.toNat * P.cellsOf e) (h.toNat - l.toNat) (n - l.toNat)⟩
      | _, _ => .bad
    | _ => .bad
  | some .string => match x with
    | .str s => match loOf lo, hiOf s.size hi with
      | some l, some h => ⟨0 ≤ l ∧ l ≤ h ∧ h ≤ s.size, .str (s.extract l.toNat h.toNat)⟩
      | _, _ => .bad
    | _ => .bad
  | _ => .bad
def intsOf : List V → Option (List Int)
  | [] => some []
  | .int .i64 n :: r => (intsOf r).map (n :: ·)
  | _ => none
def rBin (P : Program) (eq : TypeId → Bool) (op : BinOp) (t : TypeId) : V → V → R
  | .int k a, .int k' b => match op with
    | .shl => ⟨0 ≤ b, .int k (k.wrap (a * 2 ^ (min b.toNat k.bits)))⟩
    | .shr => ⟨0 ≤ b, .int k (a.fdiv (2 ^ (min b.toNat k.bits)))⟩
    | .add => ⟨k = k', .int k (k.wrap (a + b))⟩
    | .sub => ⟨k = k', .int k (k.wrap (a - b))⟩
    | .mul => ⟨k = k', .int k (k.wrap (a * b))⟩
    | .quo => ⟨k = k' ∧ b ≠ 0, .int k (k.wrap (a.tdiv b))⟩
    | .rem => ⟨k = k' ∧ b ≠ 0, .int k (a.tmod b)⟩
    | .and | .or | .xor | .andNot => ⟨k = k', .int k (bits op k a b)⟩
    | .eql => ⟨k = k', .bool (decide (a = b))⟩
    | .neq => ⟨k = k', .bool (!decide (a = b))⟩
    | .lss => ⟨k = k', .bool (decide (a < b))⟩
    | .leq => ⟨k = k', .bool (decide (a ≤ b))⟩
    | .gtr => ⟨k = k', .bool (decide (b < a))⟩
    | .geq => ⟨k = k', .bool (decide (b ≤ a))⟩
  | .bool a, .bool b => match op with
    | .eql => ⟨P.underlying t = some .bool, .bool (a == b)⟩
    | .neq => ⟨P.underlying t = some .bool, .bool (!(a == b))⟩
    | _ => .bad
  | .str a, .str b => match op with
    | .eql => ⟨True, .bool (a.toList == b.toList)⟩
    | .neq => ⟨True, .bool (!(a.toList == b.toList))⟩
    | _ => .bad
  | .agg cs, .agg ds => match op, eq t, intsOf cs, intsOf ds with
    | .eql, true, some xs, some ys => ⟨xs.length = P.cellsOf t ∧ ys.length = P.cellsOf t, .bool (decide (xs = ys))⟩
    | .neq, true, some xs, some ys => ⟨xs.length = P.cellsOf t ∧ ys.length = P.cellsOf t, .bool (!decide (xs = ys))⟩
    | _, _, _, _ => .bad
  | _, _ => .bad
def rUn (op : UnOp) : V → R
  | .bool b => match op with
    | .not => ⟨True, .bool (!b)⟩
    | _ => .bad
  | .int k n => match op with
    | .neg => ⟨True, .int k (k.wrap (0 - n))⟩
    | .xor => ⟨True, .int k (bits .xor k (if k.signed then -1 else k.max) n)⟩
    | _ => .bad
  | _ => .bad
def byteV : List V → UInt8
  | [.int .u8 n] => UInt8.ofNat n.toNat
  | _ => 0
def isByteV : List V → Bool
  | [.int .u8 _] => true
  | _ => false
def rConv (P : Program) (src dst : TypeId) (x : V) : R := match P.underlying src, P.underlying dst, x with
  | some _, some (.int k), .int _ n => ⟨True, .int k (k.wrap n)⟩
  | some _, some .string, .str s => ⟨True, .str s⟩
  | some (.slice e), some .string, .sl els _ => ⟨P.underlying e = some (.int .u8) ∧ P.cellsOf e = 1 ∧ ∀ el ∈ els, isByteV el = true, .str ⟨(els.map byteV).toArray⟩⟩
  | some (.slice e), some .string, .nils => ⟨P.underlying e = some (.int .u8), .str ⟨#[]⟩⟩
  | _, _, _ => .bad
def rExtract (i : Nat) : V → R
  | .tup vs => ⟨i < vs.length, vs.getD i .junk⟩
  | _ => .bad
def rNil : V → R
  | .ptr id off => ⟨True, .ptr id off⟩
  | .cptr cs off => ⟨True, .cptr cs off⟩
  | .fn f cs => ⟨True, .fn f cs⟩
  | _ => .bad
def rIface (P : Program) (t : TypeId) (x : V) : R := match P.underlying t with
  | some (.interface _) => .bad
  | none => .bad
  | some _ => ⟨True, .ifc t x⟩
def rAssert (P : Program) (asserted : TypeId) (commaOk : Bool) (x : V) : R := match P.underlying asserted, x with
  | some (.interface _), _ => .bad
  | some _, .ifc t v => match commaOk with
    | true => if t = asserted then ⟨True, .tup [v, .bool true]⟩ else match zval P asserted with
      | some z => ⟨True, .tup [z, .bool false]⟩
      | none => .bad
    | false => if t = asserted then ⟨True, v⟩ else .bad
  | some _, .nilif => match commaOk, zval P asserted with
    | true, some z => ⟨True, .tup [z, .bool false]⟩
    | _, _ => .bad
  | _, _ => .bad
def fillV (place : Nat → Option (Nat × Nat)) : List V → List (Nat × V) → Option (List V)
  | cs, [] => some cs
  | cs, (i, v) :: rest => match place i with
    | none => none
    | some (off, size) => if v.isJunk = false ∧ v.cells.length = size ∧ off + size ≤ cs.length then fillV place (splice cs off v.cells) rest else none
def rBuild (P : Program) (t : TypeId) (parts : List (Nat × V)) : R := match P.underlying t, zval P t with
  | some (.struct fs), some z => match fillV (fun i => fs[i]?.map fun f => (f.offset, P.cellsOf f.type)) z.cells parts with
    | some cs => ⟨fs.toList.all (fun f => (P.info? f.type).isSome) = true ∧ z.isJunk = false, .agg cs⟩
    | none => .bad
  | some (.array _ e), some z => match fillV (fun i => some (i * P.cellsOf e, P.cellsOf e)) z.cells parts with
    | some cs => ⟨0 < P.cellsOf e ∧ z.isJunk = false, .agg cs⟩
    | none => .bad
  | _, _ => .bad
def rBuiltin (P : Program) (b : Builtin) (ts : Array TypeId) (args : List V) : R := match b, ts[0]?, args with
  | .len, some t, [x] => match P.underlying t, x with
    | some (.slice _), .sl els _ => ⟨True, .int .i64 els.length⟩
    | some (.slice _), .nils => ⟨True, .int .i64 0⟩
    | some (.slice _), .ms _ _ len _ => ⟨True, .int .i64 len⟩
    | some .string, .str s => ⟨True, .int .i64 s.size⟩
    | some (.array n _), _ => ⟨True, .int .i64 n⟩
    | _, _ => .bad
  | .max, _, [.int k x, .int k' y] => ⟨k = k', .int k (if y > x then y else x)⟩
  | .min, _, [.int k x, .int k' y] => ⟨k = k', .int k (if y < x then y else x)⟩
  | _, _, _ => .bad

/-! ### They are what the machine comes to -/
def SV (P : Program) (G : Ghost) (w : World) (s : Sem Value) (r : R) : Prop := r.pre → ∃ v, s.run P w = .ok v w ∧ Rep G v r.v
theorem SV.bad (P : Program) (G : Ghost) (w : World) (s : Sem Value) : SV P G w s .bad := fun h => h.elim

theorem info_some {P : Program} {t : TypeId} {d : TypeDesc} (h : P.underlying t = some d) : ∃ i, P.info? t = some i := by
  unfold Program.underlying at h
  cases hi : P.info? t with
  | none => simp [hi] at h
  | some i => exact ⟨i, rfl⟩
theorem info_of_cells {P : Program} {t : TypeId} (h : 0 < P.cellsOf t) : ∃ i, P.info? t = some i ∧ i.size = P.cellsOf t := by
  unfold Program.cellsOf at *
  cases hi : P.info? t with
  | none => simp [hi] at h
  | some i => exact ⟨i, rfl, by simp⟩
theorem run_sizeOf {P : Program} {t : TypeId} {i : TypeInfo} (h : P.info? t = some i) (w : World) : (sizeOf t).run P w = .ok (P.cellsOf t) w := by
  simp [sizeOf, typeInfo, h, Program.cellsOf]
theorem run_isAgg {P : Program} {t : TypeId} {b : Bool} (h : aggT P t = some b) (w : World) : (isAgg t).run P w = .ok b w := by
  unfold aggT at h
  split at h
  · rename_i hu; cases h; simp [isAgg, run_underlying hu]
  · rename_i hu; cases h; simp [isAgg, run_underlying hu]
  · rename_i d h1 h2 hu
    cases h
    simp only [isAgg, Sem.run_bind, run_underlying hu, Result.andThen_ok]
    rfl
  · cases h
theorem agg_info {P : Program} {t : TypeId} {b : Bool} (h : aggT P t = some b) : ∃ i, P.info? t = some i := by
  unfold aggT at h
  split at h
  · rename_i hu; exact info_some hu
  · rename_i hu; exact info_some hu
  · rename_i hu; exact info_some hu
  · cases h

/-- A load of what reads as cells. -/
theorem sv_cut {P : Program} {G : Ghost} {w : World} {t : TypeId} {b o : Nat} {arr : List Value} {cs : List V} (hr : RepL G arr cs) (off : Nat) (hc : ∀ (j : Nat) v, arr[j]? = some v → w.cell? ⟨b, o + j, none⟩ = some v) :
    SV P G w (loadVar t ⟨b, o + off, none⟩) (cut P t cs off) := by
  intro hp
  unfold cut at hp ⊢
  split at hp
  · rename_i ha
    simp only [ha]
    simp only at hp
    obtain ⟨i, hi⟩ := agg_info ha
    have hl : ((arr.drop off).take (P.cellsOf t)).length = P.cellsOf t := by
      have := hr.1; simp; omega
    have := run_loadCells_list (P := P) w ⟨b, o + off, none⟩ ((arr.drop off).take (P.cellsOf t)) (fun j v hv => by
      rw [List.getElem?_take] at hv
      split at hv
      · rw [List.getElem?_drop] at hv
        rw [Addr.add_lit, Nat.add_assoc]
        exact hc _ _ hv
      · cases hv)
    rw [hl] at this
    refine ⟨.agg ((arr.drop off).take (P.cellsOf t)).toArray, ?_, rep_agg (by simpa using (hr.drop off).take _)⟩
    simp [loadVar, run_isAgg ha, run_sizeOf hi, this]
  · rename_i ha
    simp only [ha]
    simp only at hp
    obtain ⟨v, hv, hrep⟩ := hr.get (i := off) (x := cs.getD off .junk) (by simp [List.getD, hp])
    refine ⟨v, ?_, hrep⟩
    have := hc off v hv
    simp [loadVar, run_isAgg ha, this]
  · exact hp.elim

theorem sv_pick {P : Program} {G : Ghost} {w : World} {c a b : Value} {c' a' b' : V} (hc : Rep G c c') (ha : Rep G a a') (hb : Rep G b b') :
    SV P G w (do pure (if ← asBool c then a else b)) (rPick c' a' b') := by
  cases hc <;> first | exact fun h => h.elim | skip
  rename_i t
  intro _
  refine ⟨if t then a else b, by simp [asBool], ?_⟩
  cases t <;> simpa [rPick]

theorem sv_load {P : Program} {G : Ghost} {M : Mem} {K : Toks} {w : World} (hs : Sim G M K w) (t : TypeId) {x : Value} {x' : V} (hx : Rep G x x') : SV P G w (Instr.loadAt t x) (rLoad P M t x') := by
  cases hx with
  | ptr id off b hl =>
    simp only [rLoad]
    split
    · rename_i cs hm
      obtain ⟨b', arr, T, hl', hh, hr, _⟩ := hs.box id cs hm
      rw [hl] at hl'; cases hl'
      have := sv_cut (P := P) (t := t) (w := w) (o := 0) (b := b) hr off (fun j v hv => by rw [Nat.zero_add, cell_of_heap hh]; simpa using hv)
      intro hp
      obtain ⟨v, hv, hrep⟩ := this hp
      exact ⟨v, by simpa [Instr.loadAt, Instr.sureAddr] using hv, hrep⟩
    · exact fun h => h.elim
  | cptr b o cs off vs hfx hrep =>
    have hr : RepL G ((List.range cs.length).map vs) cs := ⟨by simp, fun i v c hv hc => by
      rw [List.getElem?_map] at hv
      obtain ⟨j, hj, rfl⟩ := Option.map_eq_some_iff.1 hv
      have := (List.getElem?_eq_some_iff.1 hj).2
      simp at this; subst this
      exact hrep _ _ hc⟩
    have := sv_cut (P := P) (t := t) (w := w) (o := o) (b := b) hr off (fun j v hv => by
      rw [List.getElem?_map] at hv
      obtain ⟨i, hi, rfl⟩ := Option.map_eq_some_iff.1 hv
      obtain ⟨hlt, hi'⟩ := List.getElem?_eq_some_iff.1 hi
      simp at hi' hlt; subst hi'
      exact hs.fx _ _ _ (hfx j cs[j] (by simp [hlt])))
    intro hp
    obtain ⟨v, hv, hrep⟩ := this hp
    exact ⟨v, by simpa [Instr.loadAt, Instr.sureAddr] using hv, hrep⟩
  | _ => exact fun h => h.elim

theorem sv_field {P : Program} {G : Ghost} {w : World} (s : TypeId) (f : Nat) {x : Value} {x' : V} (hx : Rep G x x') : SV P G w (Instr.fieldAt s x f) (rField P s f x') := by
  unfold rField
  split
  · rename_i fs hu
    split
    · rename_i fd hf
      cases hx with
      | ptr id off b hl =>
        intro hp
        obtain ⟨i, hi, hsz⟩ := info_of_cells hp
        have hp' : P.cellsOf fd.type ≠ 0 := by simp only at hp; omega
        exact ⟨_, by simp [Instr.fieldAt, run_underlying hu, hf, Instr.sureAddr, fieldPlace, run_sizeOf hi, hp']; rfl, by rw [Addr.add_lit]; exact .ptr id _ b hl⟩
      | cptr b o cs off vs hfx hrep =>
        intro hp
        obtain ⟨i, hi, hsz⟩ := info_of_cells hp
        have hp' : P.cellsOf fd.type ≠ 0 := by simp only at hp; omega
        exact ⟨_, by simp [Instr.fieldAt, run_underlying hu, hf, Instr.sureAddr, fieldPlace, run_sizeOf hi, hp']; rfl, by rw [Addr.add_lit, Nat.add_assoc]; exact .cptr b o cs _ vs hfx hrep⟩
      | _ => exact fun h => h.elim
    · exact fun h => h.elim
  · exact fun h => h.elim

theorem sv_partOf {P : Program} {G : Ghost} {w : World} {t : TypeId} {arr : Array Value} {cs : List V} (hr : RepL G arr.toList cs) (off : Nat) : SV P G w (part t arr off) (cut P t cs off) := by
  intro hp
  unfold cut at hp ⊢
  split at hp
  · rename_i ha
    simp only [ha]
    obtain ⟨i, hi⟩ := agg_info ha
    refine ⟨.agg (arr.extract off (off + P.cellsOf t)), by simp [part, run_isAgg ha, run_sizeOf hi], rep_agg ?_⟩
    have := (hr.drop off).take (P.cellsOf t)
    simpa [Array.toList_extract, List.extract] using this
  · rename_i ha
    simp only [ha]
    simp only at hp
    obtain ⟨v, hv, hrep⟩ := hr.get (i := off) (x := cs.getD off .junk) (by simp [List.getD, hp])
    refine ⟨v, ?_, hrep⟩
    have hv' : arr[off]? = some v := by simpa using hv
    simp [part, run_isAgg ha, hv']
  · exact hp.elim
theorem sv_part {P : Program} {G : Ghost} {w : World} (s : TypeId) (f : Nat) {x : Value} {x' : V} (hx : Rep G x x') : SV P G w (Instr.field s x f) (rPart P s f x') := by
  unfold rPart
  split
  · rename_i fs hu
    split
    · rename_i fd hf
      cases hx with
      | agg arr cs hl h =>
        have := sv_partOf (P := P) (w := w) (t := fd.type) (arr := arr) (cs := cs) ⟨by simpa using hl, fun i v c hv hc => h i v c (by simpa using hv) hc⟩ fd.offset
        intro hp
        obtain ⟨v, hv, hr⟩ := this hp
        exact ⟨v, by simpa [Instr.field, run_underlying hu, hf, asAgg] using hv, hr⟩
      | _ => exact fun h => h.elim
    · exact fun h => h.elim
  · exact fun h => h.elim

theorem rep_int_inv {G : Ghost} {v : Value} {k : IntKind} {n : Int} (h : Rep G v (.int k n)) : v = .int k n := by cases h; rfl
theorem sv_ixAddr {P : Program} {G : Ghost} {w : World} (t : TypeId) {x i : Value} {x' i' : V} (hx : Rep G x x') (hi : Rep G i i') : SV P G w (Instr.indexAt t x i) (rIxAddr P t x' i') := by
  unfold rIxAddr
  split
  · rename_i e k n hu
    obtain rfl := rep_int_inv hi
    cases hx with
    | sl b o c s els tk vs hs hc hm hfx hrep hex htk =>
      rintro ⟨h0, h1, h2, h3⟩
      obtain ⟨inf, hi, hsz⟩ := info_of_cells h2
      have hlt : n.toNat < els.length := by omega
      have hg : els[n.toNat]? = some els[n.toNat] := by simp [hlt]
      have hse : s = P.cellsOf e := by rw [← hs els[n.toNat] (by simp), ← h3, hg]; rfl
      subst hse
      refine ⟨.pointer (some ⟨b, o + n.toNat * P.cellsOf e, none⟩), ?_, ?_⟩
      · simp [Instr.indexAt, asIntOf, run_underlying hu, h0, h1, run_sizeOf hi, Addr.add_lit]
      · simp only [hg, Option.getD_some]
        exact .cptr b (o + n.toNat * P.cellsOf e) els[n.toNat] 0 (vs n.toNat) (fun j x hj => hfx _ _ _ _ hg hj) (fun j x hj => hrep _ _ _ _ hg hj)
    | sl0 A c => rintro ⟨h0, h1, _⟩; simp at h1; omega
    | ms id off len cap b hl =>
      rintro ⟨h0, h1, h2⟩
      obtain ⟨inf, hi, hsz⟩ := info_of_cells h2
      exact ⟨_, by simp [Instr.indexAt, asIntOf, run_underlying hu, h0, h1, run_sizeOf hi, Addr.add_lit], .ptr id _ b hl⟩
    | _ => exact fun h => h.elim
  · rename_i len e k n hu
    obtain rfl := rep_int_inv hi
    cases hx with
    | ptr id off b hl =>
      rintro ⟨h0, h1, h2⟩
      obtain ⟨inf, hi, hsz⟩ := info_of_cells h2
      exact ⟨_, by simp [Instr.indexAt, asIntOf, run_underlying hu, h0, h1, run_sizeOf hi, Addr.add_lit, Instr.sureAddr], .ptr id _ b hl⟩
    | cptr b o cs off vs hfx hrep =>
      rintro ⟨h0, h1, h2⟩
      obtain ⟨inf, hi, hsz⟩ := info_of_cells h2
      exact ⟨_, by simp [Instr.indexAt, asIntOf, run_underlying hu, h0, h1, run_sizeOf hi, Addr.add_lit, Instr.sureAddr]; rfl, by rw [Nat.add_assoc]; exact .cptr b o cs _ vs hfx hrep⟩
    | _ => exact fun h => h.elim
  · exact fun h => h.elim
theorem sv_ix {P : Program} {G : Ghost} {w : World} (t : TypeId) {x i : Value} {x' i' : V} (hx : Rep G x x') (hi : Rep G i i') : SV P G w (Instr.index t x i) (rIx P t x' i') := by
  unfold rIx
  split
  · rename_i k n hu
    obtain rfl := rep_int_inv hi
    cases hx with
    | str s =>
      intro hp
      obtain ⟨b, hb⟩ := Option.isSome_iff_exists.1 hp
      refine ⟨.int .u8 b.toNat, ?_, by simp only [hb, Option.getD_some]; exact .int _ _⟩
      unfold byteAt at hb
      simp [Instr.index, asIntOf, run_underlying hu, hb]
    | _ => exact fun h => h.elim
  · rename_i len e k n hu
    obtain rfl := rep_int_inv hi
    cases hx with
    | agg arr cs hl h =>
      rintro ⟨h0, h1, h2, h3⟩
      obtain ⟨inf, hi, hsz⟩ := info_of_cells h2
      obtain ⟨v, hv, hr⟩ := sv_partOf (P := P) (w := w) (t := e) (arr := arr) (cs := cs) ⟨by simpa using hl, fun i v c hv hc => h i v c (by simpa using hv) hc⟩ _ h3
      exact ⟨v, by simpa [Instr.index, asIntOf, run_underlying hu, h0, h1, run_sizeOf hi] using hv, hr⟩
    | _ => exact fun h => h.elim
  · exact fun h => h.elim

theorem run_bound (P : Program) (w : World) (k : IntKind) (i : Int) (y : Nat) (c : BoundsCode) (h0 : 0 ≤ i) (h1 : i ≤ y) : (Instr.sliceBound (.int k i) y c).run P w = .ok i.toNat w := by
  simp [Instr.sliceBound, asIntOf, h0, h1]
def ivO : Option Value → Option V → Prop
  | none, none => True
  | some v, some x => ∀ k n, x = .int k n → v = .int k n
  | _, _ => False
theorem run_bounds {P : Program} {w : World} (isS : Bool) (len cap : Nat) {lo hi : Option Value} {lo' hi' : Option V} (hl : ivO lo lo') (hh : ivO hi hi') {l h : Int} (el : loOf lo' = some l) (eh : hiOf len hi' = some h)
    (h0 : 0 ≤ l) (h1 : l ≤ h) (h2 : h ≤ cap) : (Instr.sliceBounds isS len cap lo hi none).run P w = .ok (l.toNat, h.toNat, cap) w := by
  have hhn : ((h.toNat : Nat) : Int) = h := Int.toNat_of_nonneg (by omega)
  have hL : (lo = none ∧ l = 0) ∨ ∃ k, lo = some (.int k l) := by
    cases lo with
    | none => cases lo' with
      | none => simp [loOf] at el; exact .inl ⟨rfl, el.symm⟩
      | some x => exact hl.elim
    | some v => cases lo' with
      | none => exact hl.elim
      | some x => cases x <;> simp [loOf] at el; rename_i k n; subst el; exact .inr ⟨k, by rw [hl k n rfl]⟩
  have hH : (hi = none ∧ h = len) ∨ ∃ k, hi = some (.int k h) := by
    cases hi with
    | none => cases hi' with
      | none => simp [hiOf] at eh; exact .inl ⟨rfl, eh.symm⟩
      | some x => exact hh.elim
    | some v => cases hi' with
      | none => exact hh.elim
      | some x => cases x <;> simp [hiOf] at eh; rename_i k n; subst eh; exact .inr ⟨k, by rw [hh k n rfl]⟩
  have hb1 : ∀ k, (Instr.sliceBound (.int k h) cap (if isS then .sliceAcap else .sliceAlen)).run P w = .ok h.toNat w := fun k => run_bound P w k h cap _ (by omega) h2
  have hb2 : ∀ k, (Instr.sliceBound (.int k l) h.toNat .sliceB).run P w = .ok l.toNat w := fun k => run_bound P w k l h.toNat _ h0 (by omega)
  clear hl hh el eh
  rcases hH with ⟨rfl, rfl⟩ | ⟨k, rfl⟩ <;> rcases hL with ⟨rfl, rfl⟩ | ⟨k', rfl⟩
  · simp [Instr.sliceBounds]
  · simp only [Int.toNat_natCast] at hb2
    simp [Instr.sliceBounds, hb2]
  · simp [Instr.sliceBounds, hb1]
  · simp [Instr.sliceBounds, hb1, hb2]
theorem sv_slice {P : Program} {G : Ghost} {w : World} (t : TypeId) {x : Value} {x' : V} {lo hi : Option Value} {lo' hi' : Option V} (hx : Rep G x x') (hl : ivO lo lo') (hh : ivO hi hi') :
    SV P G w (Instr.sliceAt t x lo hi none) (rSlice P t x' lo' hi') := by
  unfold rSlice
  split
  · rename_i e hu
    cases hx with
    | sl b o c s els tk vs hs hc hm hfx hrep hex htk =>
      simp only
      split
      · rename_i l h el eh
        rintro ⟨h0, h1, h2, h3, h4⟩
        obtain ⟨inf, hi, hsz⟩ := info_of_cells h3
        have hb := run_bounds (P := P) (w := w) true els.length c hl hh el eh h0 h1 (by omega)
        refine ⟨.slice (if c = l.toNat then some ⟨b, o, none⟩ else some ⟨b, o + l.toNat * P.cellsOf e, none⟩) (h.toNat - l.toNat) (c - l.toNat), ?_, ?_⟩
        · simp only [Instr.sliceAt, Sem.run_bind, run_underlying hu, Result.andThen_ok, Instr.slice, hb, run_sizeOf hi, Sem.run_pure, Option.map_some, Addr.add_lit]
        · have hlen : ((els.take h.toNat).drop l.toNat).length = h.toNat - l.toNat := by simp; omega
          by_cases hcl : c = l.toNat
          · have : (els.take h.toNat).drop l.toNat = [] := List.eq_nil_of_length_eq_zero (by rw [hlen]; omega)
            rw [this, if_pos hcl]
            have e0 : h.toNat - l.toNat = 0 := by omega
            rw [e0]
            exact .sl0 _ _
          · rw [if_neg hcl, ← hlen]
            have get : ∀ (i : Nat) el, ((els.take h.toNat).drop l.toNat)[i]? = some el → els[l.toNat + i]? = some el := fun i el hi => by
              rw [List.getElem?_drop, List.getElem?_take] at hi
              split at hi
              · exact hi
              · cases hi
            by_cases hne : els = []
            · subst hne
              simp only [List.take_nil, List.drop_nil, List.length_nil]
              exact .sl0 _ _
            obtain ⟨e0, he0⟩ := List.exists_mem_of_ne_nil els hne
            have hse : s = P.cellsOf e := by rw [← hs e0 he0, h4 e0 he0]
            subst hse
            refine .sl b (o + l.toNat * P.cellsOf e) _ (P.cellsOf e) _ .no (fun i j => vs (l.toNat + i) j) (fun el hel => ?_) (by rw [hlen]; omega) (by omega) (fun i j el x h1 h2 => ?_) (fun i j el x h1 h2 => ?_) (by simp) (by simp)
            · exact hs el (List.mem_of_mem_take (List.mem_of_mem_drop hel))
            · have := hfx _ _ _ _ (get i el h1) h2
              rw [Nat.add_assoc o, ← Nat.add_mul]
              exact this
            · exact hrep _ _ _ _ (get i el h1) h2
      · exact fun h => h.elim
    | sl0 A c =>
      simp only
      split
      · rename_i l h el eh
        rintro ⟨h0, h1, h2, h3, h4⟩
        obtain ⟨inf, hi, hsz⟩ := info_of_cells h3
        simp only [List.length_nil] at h2 eh
        have hb := run_bounds (P := P) (w := w) true 0 c hl hh el eh h0 h1 (by omega)
        refine ⟨.slice (if c = l.toNat then A else A.map fun a => a.add (l.toNat * P.cellsOf e)) (h.toNat - l.toNat) (c - l.toNat), ?_, ?_⟩
        · simp only [Instr.sliceAt, Sem.run_bind, run_underlying hu, Result.andThen_ok, Instr.slice, hb, run_sizeOf hi, Sem.run_pure]
        · have e0 : h.toNat - l.toNat = 0 := by omega
          rw [e0]
          simp only [List.take_nil, List.drop_nil]
          exact .sl0 _ _
      · exact fun h => h.elim
    | nils =>
      simp only
      split
      · rename_i l h el eh
        rintro ⟨h0, h1, h2, h3⟩
        obtain ⟨inf, hi, hsz⟩ := info_of_cells h3
        have hb := run_bounds (P := P) (w := w) true 0 0 hl hh el eh h0 h1 (by omega)
        have e1 : l.toNat = 0 := by omega
        have e2 : h.toNat = 0 := by omega
        refine ⟨.slice none 0 0, ?_, .nils⟩
        simp [Instr.sliceAt, run_underlying hu, Instr.slice, hb, run_sizeOf hi, e1, e2]
      · exact fun h => h.elim
    | ms id off len cap b hl2 =>
      simp only
      split
      · rename_i l h el eh
        rintro ⟨h0, h1, h2, h3, h4⟩
        obtain ⟨inf, hi, hsz⟩ := info_of_cells h4
        have hb := run_bounds (P := P) (w := w) true len cap hl hh el eh h0 h1 h2
        have hne : ¬ cap = l.toNat := by omega
        exact ⟨_, by simp [Instr.sliceAt, run_underlying hu, Instr.slice, hb, run_sizeOf hi, hne, Addr.add_lit], .ms id _ _ _ b hl2⟩
      · exact fun h => h.elim
    | _ => exact fun h => h.elim
  · rename_i n e hu
    cases hx with
    | ptr id off b hl2 =>
      simp only
      split
      · rename_i l h el eh
        rintro ⟨h0, h1, h2, h3, h4⟩
        obtain ⟨inf, hi, hsz⟩ := info_of_cells h4
        have hb := run_bounds (P := P) (w := w) false n n hl hh el eh h0 h1 h2
        have hne : ¬ n = l.toNat := by omega
        exact ⟨_, by simp [Instr.sliceAt, run_underlying hu, Instr.sureAddr, hb, run_sizeOf hi, hne, Addr.add_lit], .ms id _ _ _ b hl2⟩
      · exact fun h => h.elim
    | _ => exact fun h => h.elim
  · rename_i hu
    cases hx with
    | str s =>
      simp only
      split
      · rename_i l h el eh
        rintro ⟨h0, h1, h2⟩
        have hb := run_bounds (P := P) (w := w) false s.size s.size hl hh el eh h0 h1 h2
        exact ⟨_, by simp [Instr.sliceAt, run_underlying hu, Instr.slice, hb], .str _⟩
      · exact fun h => h.elim
    | _ => exact fun h => h.elim
  · exact fun h => h.elim

end Go.Proofs.Ytiippmhlkcbjmaa.Ax
