/- Plain law: bytes are read. -/
import Derived.Test.YtaacfmakfkaddaaDoorBxJ
import Derived.Test.YtaacfmakfkaddaaDoorBxP
set_option linter.unusedVariables false
set_option linter.unusedSimpArgs false
namespace Go.Proofs.YtaacfmakfkaddaaDoor.Ax
open Go Go.Proofs

/-- Kids are read one behind the other by g: why not; the kids; where it stands; how many were seen. d: it stands where it failed. -/
def rdK (d : Bool) (g : Nat → Nat → Int × Ex × Nat × Nat) : Nat → Nat → Nat → Int × List Ex × Nat × Nat
  | 0, p, s => (0, [], p, s)
  | m + 1, p, s =>
    if (g p s).1 ≠ 0 then ((g p s).1, [], (if d then (g p s).2.2.1 else p), (if d then (g p s).2.2.2 else s))
    else ((rdK d g m (g p s).2.2.1 (g p s).2.2.2).1, (g p s).2.1 :: (rdK d g m (g p s).2.2.1 (g p s).2.2.2).2.1, (rdK d g m (g p s).2.2.1 (g p s).2.2.2).2.2.1, (rdK d g m (g p s).2.2.1 (g p s).2.2.2).2.2.2)
def rdH (d : Bool) (h p s : Nat) (r : Int × List Ex × Nat × Nat) : Int × Ex × Nat × Nat :=
  if r.1 ≠ 0 then (r.1, ex0, r.2.2.1, r.2.2.2) else (0, .mk ((h / 16777216 : Nat) : Int) ((h / 256 % 65536 : Nat) : Int) r.2.1, r.2.2.1, r.2.2.2)
/-- One is read of b at p, s having been seen; f: more than are left. -/
def rdE (d : Bool) (b : List Int) : Nat → Nat → Nat → Int × Ex × Nat × Nat
  | 0, p, s => (20, ex0, p, s)
  | f + 1, p, s =>
    if 1000 ≤ s then (20, ex0, p, s)
    else if (getS (b.drop p) 0 0).2.2 ≠ 0 then ((getS (b.drop p) 0 0).2.2, ex0, p, if d then s + 1 else s)
    else if 4294967295 < (getS (b.drop p) 0 0).1 then (11, ex0, p, if d then s + 1 else s)
    else rdH d (getS (b.drop p) 0 0).1 p s (rdK d (rdE d b f) ((getS (b.drop p) 0 0).1 % 256) (p + (getS (b.drop p) 0 0).2.1) (s + 1))
end Go.Proofs.YtaacfmakfkaddaaDoor.Ax
