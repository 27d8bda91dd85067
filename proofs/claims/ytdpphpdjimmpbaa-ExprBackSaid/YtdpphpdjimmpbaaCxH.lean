/- Contracts: bytes are read, by the reference. -/
import Derived.Test.YtdpphpdjimmpbaaPlH
import Derived.Test.YtdpphpdjimmpbaaBxP
set_option linter.unusedVariables false
set_option linter.unusedSimpArgs false
namespace Go.Proofs.Ytdpphpdjimmpbaa.Ax
open Go Go.Proofs

theorem byt_drop {b : List Int} (h : byt b) (p : Nat) : byt (b.drop p) := fun c hc => h c (List.mem_of_mem_drop hc)
def okRd (f : Nat) (b : List Int) (p s : Int) : Prop := byt b ∧ 0 ≤ p ∧ p ≤ b.length ∧ 0 ≤ s ∧ s ≤ 1000 ∧ 1001 ≤ (f : Int) + s
noncomputable instance (f : Nat) (b : List Int) (p s : Int) : Decidable (okRd f b p s) := Classical.propDecidable _
def rdV (r : Int × Ex × Nat × Nat) : V := .tup [enc r.2.1, .int .i64 (r.2.2.1 : Nat), .int .i64 (r.2.2.2 : Nat), .int .i64 r.1]
@[simp] noncomputable def gRead (f : Nat) : List V → Option V := f3 (kIs .u8) (kI .i64) (kI .i64) fun b p s => if okRd f b p s then some (rdV (rdE false b f p.toNat s.toNat)) else none
end Go.Proofs.Ytdpphpdjimmpbaa.Ax
