/-
  Layer 6: what Do of two spans answers.
-/
import Derived.Test.YtchlokhmcadgaaaSpanD
namespace Go.Proofs.Ytchlokhmcadgaaa
open Go.RowKit

/-- what an operation makes of two spans that are not both single -/
def dosV (op : Int) (al ah bl' bh : BitVec 64) : BP :=
  if op = 1 then sumV al ah bl' bh else if op = 2 then subV al ah bl' bh else if op = 3 then mulV al ah bl' bh else if op = 4 then divV al ah bl' bh else if op = 5 then remV al ah bl' bh
  else if op = 6 then andV al ah bl' bh else if op = 7 then orV al ah bl' bh else if op = 8 then xorV al ah bl' bh else if op = 9 then shlV al ah bl' bh else shrV al ah bl' bh
/-- is there an answer? -/
def dosOk (op : Int) (al ah bl' bh : BitVec 64) : Bool := AM.doOk op && decide (al.toNat ≤ ah.toNat) && decide (bl'.toNat ≤ bh.toNat)
def dosR (op : Int) (al ah bl' bh : BitVec 64) : BP :=
  if dosOk op al ah bl' bh = true then (if al = ah ∧ bl' = bh then (AM.doV op al bl', AM.doV op al bl') else dosV op al ah bl' bh) else (0#64, 0#64)


end Go.Proofs.Ytchlokhmcadgaaa
