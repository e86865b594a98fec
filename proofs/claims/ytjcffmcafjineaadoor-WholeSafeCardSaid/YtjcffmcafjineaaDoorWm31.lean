/-
  The law, of a Run that came in. Conditions: the form's own reach.
-/
import Derived.Test.YtjcffmcafjineaaDoorWm30
import Derived.Test.YtjcffmcafjineaaDoorWm28
set_option linter.unusedVariables false
set_option linter.unusedSimpArgs false
section
namespace Go.Proofs.YtjcffmcafjineaaDoor.Tp
open Go.RowKit
open Go.Proofs.YtjcffmcafjineaaDoor.Op (Frm)
theorem whole_law (w : World) (hf : Frm w) (ht : Sg.Tab w) (r : Unit) (v : Value) (hr : RdRun w v r) : Calls Tryd.prog 3 #[v] w fun e w' => e = .returned (.bool true) ∧ Below w.heap.size w w' := by
 obtain ⟨ea, eb, l, ms, rs, mA, cA, rA, cm, c, cr, h⟩ := hr
 obtain rfl := h.v
 exact whole_any w ea eb l ms rs mA cA rA ms.length cm l.length c rs.length cr rfl rfl rfl h.b1 h.b2 h.b3 hf ht h.c h.m h.r h.o
end Go.Proofs.YtjcffmcafjineaaDoor.Tp
end
