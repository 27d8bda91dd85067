/- Contracts: bytes are read, by the reference. -/
import Derived.Test.YtaacfmakfkaddaaDoorPlH
import Derived.Test.YtaacfmakfkaddaaDoorBxP
set_option linter.unusedVariables false
set_option linter.unusedSimpArgs false
namespace Go.Proofs.YtaacfmakfkaddaaDoor.Ax
open Go Go.Proofs

def okRd (f : Nat) (b : List Int) (p s : Int) : Prop := byt b ∧ 0 ≤ p ∧ p ≤ b.length ∧ 0 ≤ s ∧ s ≤ 1000 ∧ 1001 ≤ (f : Int) + s
noncomputable instance (f : Nat) (b : List Int) (p s : Int) : Decidable (okRd f b p s) := Classical.propDecidable _
def rdV (r : Int × Ex × Nat × Nat) : V := .tup [enc r.2.1, .int .i64 (r.2.2.1 : Nat), .int .i64 (r.2.2.2 : Nat), .int .i64 r.1]
@[simp] noncomputable def gRead (f : Nat) : List V → Option V := f3 (kIs .u8) (kI .i64) (kI .i64) fun b p s => if okRd f b p s then some (rdV (rdE false b f p.toNat s.toNat)) else none
section
set_option linter.unusedVariables false
set_option linter.unusedSimpArgs false
open Go Go.Proofs

def okNd (f : Nat) (b : List Int) (els : List (List V)) (ri i : Path) (s : Int) : Prop := i = ri ∧ byt b ∧ (∃ p, p ≤ b.length ∧ els = encI .u8 (b.drop p)) ∧ 0 ≤ s ∧ s ≤ 1000 ∧ 1001 ≤ (f : Int) + s
noncomputable instance (f : Nat) (b : List Int) (els : List (List V)) (ri i : Path) (s : Int) : Decidable (okNd f b els ri i s) := Classical.propDecidable _
def ndV (r : Int × Ex × Nat × Nat) : V := .tup [enc r.2.1, .int .i64 r.1]
def ndB (b : List Int) (r : Int × Ex × Nat × Nat) : Option Box := some (.cells [.sl (encI .u8 (b.drop r.2.2.1)) .no, .int .i64 (r.2.2.2 : Nat)])
@[simp] theorem ndV_mk (e : Int) (x : Ex) (p s : Nat) : ndV (e, x, p, s) = .tup [enc x, .int .i64 e] := rfl
@[simp] theorem ndB_mk (b : List Int) (e : Int) (x : Ex) (p s : Nat) : ndB b (e, x, p, s) = some (.cells [.sl (encI .u8 (b.drop p)) .no, .int .i64 (s : Nat)]) := rfl
@[simp] noncomputable def mNode (f : Nat) (b : List Int) (ri : Path) : Path → List V → Mem → Toks → Option (V × Mem × Toks) := fun _ args M K => match args with
  | [.ptr i 0] => match M ri with
    | some (.cells [.sl els .no, .int .i64 s]) => if okNd f b els ri i s then some (ndV (rdE true b f (b.length - els.length) s.toNat), upd M ri (ndB b (rdE true b f (b.length - els.length) s.toNat)), K) else none
    | _ => none
  | _ => none
end
end Go.Proofs.YtaacfmakfkaddaaDoor.Ax
