/- Contracts: variables gone over. -/
import Derived.Test.YtaacfmakfkaddaaAxY
import Derived.Test.YtaacfmakfkaddaaPlE
import Derived.Test.YtaacfmakfkaddaaBxM
set_option linter.unusedVariables false
set_option linter.unusedSimpArgs false
namespace Go.Proofs.Ytaacfmakfkaddaa.Ax
section
open Go Go.Proofs

@[simp] def gBindsF : List V → Option V := f1 kE fun e => some (.bool (isQb e))
def okClo (caps cs : List V) (M : Mem) (ro : List (Path × Box)) (x b s : Int) : Prop := cs = caps ∧ roOk ro M ∧ 0 ≤ x ∧ x ≤ 63 ∧ isU64 b ∧ isU64 s
noncomputable instance (caps cs : List V) (M : Mem) (ro : List (Path × Box)) (x b s : Int) : Decidable (okClo caps cs M ro x b s) := Classical.propDecidable _
/-- A closure that is told a variable and what is bound there: it turns the number in one box. -/
@[simp] noncomputable def mClo (caps : List V) (si : Path) (st : Int → Nat → Nat → Nat) (ro : List (Path × Box)) : Path → List V → Mem → Toks → Option (V × Mem × Toks) := fun _ args M K => match args with
  | .int .i64 x :: .int .u64 b :: cs => match M si with
    | some (.cells [.int .u64 s]) => if okClo caps cs M ro x b s then some (.tup [], upd M si (some (.cells [.int .u64 (st x b.toNat s.toNat : Nat)])), K) else none
    | _ => none
  | _ => none
def okWalk (n : Nat) (fc f : FuncId) (caps cs : List V) (e : Ex) (M : Mem) (ro : List (Path × Box)) (b s : Int) : Prop := SizeOf.sizeOf e < n ∧ f = fc ∧ cs = caps ∧ roOk ro M ∧ allX e = true ∧ isU64 b ∧ isU64 s
noncomputable instance (n : Nat) (fc f : FuncId) (caps cs : List V) (e : Ex) (M : Mem) (ro : List (Path × Box)) (b s : Int) : Decidable (okWalk n fc f caps cs e M ro b s) := Classical.propDecidable _
@[simp] noncomputable def mWalk (n : Nat) (fc : FuncId) (caps : List V) (si : Path) (st : Int → Nat → Nat → Nat) (ro : List (Path × Box)) : Path → List V → Mem → Toks → Option (V × Mem × Toks) := fun _ args M K => match args with
  | [ev, .int .u64 b, .fn f cs] => match dec ev, M si with
    | some e, some (.cells [.int .u64 s]) => if okWalk n fc f caps cs e M ro b s then some (.tup [], upd M si (some (.cells [.int .u64 (runO st (occE e b.toNat) s.toNat : Nat)])), K) else none
    | _, _ => none
  | _ => none
end
section
open Go Go.Proofs

def okIs (x b : Int) : Prop := 0 ≤ x ∧ x ≤ 63 ∧ isU64 b
noncomputable instance (x b : Int) : Decidable (okIs x b) := Classical.propDecidable _
@[simp] noncomputable def gIs (pr : Int → Nat → Bool) : List V → Option V := f2 (kI .i64) (kI .u64) fun x b => if okIs x b then some (.bool (pr x b.toNat)) else none
def okGat (fi f : FuncId) (cs : List V) (e : Ex) : Prop := f = fi ∧ cs = [] ∧ allX e = true
noncomputable instance (fi f : FuncId) (cs : List V) (e : Ex) : Decidable (okGat fi f cs e) := Classical.propDecidable _
@[simp] noncomputable def gGather (fi : FuncId) (pr : Int → Nat → Bool) : List V → Option V := fun args => match args with
  | [ev, .fn f cs] => (dec ev).bind fun e => if okGat fi f cs e then some (.int .u64 (runO (stp1 pr) (occE e 0) 0 : Nat)) else none
  | _ => none
end
end Go.Proofs.Ytaacfmakfkaddaa.Ax
