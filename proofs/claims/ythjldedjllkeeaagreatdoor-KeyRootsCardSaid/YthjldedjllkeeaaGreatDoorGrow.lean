/- A region whose order is open and whose operations only read or call what only makes memory: one walk in the text's order serves every order. -/
import Derived.Test.YthjldedjllkeeaaGreatDoorCore
import Derived.BigQuiet
import Derived.Deep.QuietTactic
namespace Go.Proofs.YthjldedjllkeeaaGreatDoor
open Go.RowKit
/-- The worlds that grew out of w. -/
def ExtW (w : World) : Type := { w' : World // Ext w w' }
instance extWNonempty (w : World) : Nonempty (ExtW w) := ⟨⟨w, Ext.rfl' w⟩⟩
theorem wp_region_grow {P : Program} {id : Nat} {Q : Exit → Act → World → Prop} {a : Act} {w : World} {l : List Oper} (hm : P.follows .mixedOrders = true) (hB : Region.lexB .any l.toArray = true)
    (h : wpQuiet P l.toArray (fun w' => ∃ x : ExtW w, w' = x.1) (fun a' => ∀ w', (∃ x : ExtW w, w' = x.1) → Q .normal a' w') l a) : (Code.region id l.toArray true).wp P Q a w :=
  wp_region_quiet (C := fun w' => ∃ x : ExtW w, w' = x.1) hm hB ⟨⟨_, (Ext.rfl' w).drew⟩, rfl⟩ (by simpa using h)
theorem grow_of {P : Program} {f : FuncId} {args : Array Value} {w : World} {x : ExtW w} {v : Value}
    (h : Calls P f args x.1 fun e w' => e = .returned v ∧ Ext x.1 w') : Calls P f args x.1 fun e w'' => e = .returned v ∧ ∃ y : ExtW w, w'' = y.1 :=
  h.mono fun _ w' ⟨he, hx⟩ => ⟨he, ⟨w', x.2.tr hx⟩, rfl⟩
theorem grow_same {P : Program} {f : FuncId} {args : Array Value} {w : World} {x : ExtW w} {v : Value}
    (h : Calls P f args x.1 fun e w' => e = .returned v ∧ x.1 = w') : Calls P f args x.1 fun e w'' => e = .returned v ∧ ∃ y : ExtW w, w'' = y.1 :=
  h.mono fun _ _ ⟨he, hx⟩ => ⟨he, x, hx.symm⟩
theorem quiet_same {P : Program} {f : FuncId} {args : Array Value} {w : World} {n : Nat} {v : Value}
    (h : Calls P f args (w.drewN n) fun e w' => e = .returned v ∧ w.drewN n = w') : Calls P f args (w.drewN n) fun e w'' => e = .returned v ∧ ∃ m, w'' = w.drewN m :=
  h.mono fun _ _ ⟨he, hm⟩ => ⟨he, n, hm.symm⟩
end Go.Proofs.YthjldedjllkeeaaGreatDoor
