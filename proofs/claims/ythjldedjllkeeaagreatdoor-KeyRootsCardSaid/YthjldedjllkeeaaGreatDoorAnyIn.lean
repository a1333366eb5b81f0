/- A region that draws its order, inside a fence: walked state by state, whatever is listed. -/
import Derived.OrdersIn
import Derived.OwnWalkIn
import Derived.KernelRfl
namespace Go.Proofs.YthjldedjllkeeaaGreatDoor
open Go.RowKit
variable {F : Fence} {n : Nat} {P : Program} {md : Region.Mode} {ops : Array Oper} {Q : Exit → Act → World → Prop}
theorem wpAnyIn_inv (C : Nat → Array Bool → Act → World → Prop) (h0 : ∀ listed a w, C 0 listed a w → Region.ready md ops listed = [] ∧ Q .normal a w)
    (hs : ∀ k listed a w, C (k + 1) listed a w → Region.ready md ops listed ≠ [] ∧ ∀ i ∈ Region.ready md ops listed, wpOpIn F n P ops Q i (fun a' w' => C k (listed.setIfInBounds i true) a' w') a w) :
    ∀ k listed a w, C k listed a w → wpAnyIn F n P md ops Q k listed a w := by
  intro k
  induction k with
  | zero => exact h0
  | succ k ih =>
    intro listed a w h
    obtain ⟨h1, h2⟩ := hs k listed a w h
    exact ⟨fun e => absurd e h1, fun i hi => wpOpIn_mono (fun a w h => ih _ _ _ h) (h2 i hi)⟩
theorem ready_all {C : Nat → Array Bool → Act → World → Prop} {rs : List Nat} {k : Nat} {listed : Array Bool} {a : Act} {w : World} (hr : Region.ready md ops listed = rs) (hne : rs ≠ [])
    (h : ∀ i ∈ rs, wpOpIn F n P ops Q i (fun a' w' => C k (listed.setIfInBounds i true) a' w') a w) :
    Region.ready md ops listed ≠ [] ∧ ∀ i ∈ Region.ready md ops listed, wpOpIn F n P ops Q i (fun a' w' => C k (listed.setIfInBounds i true) a' w') a w := by
  rw [hr]
  exact ⟨hne, h⟩
theorem step_append_run {o : Oper} {a : Act} {w : World} {K : Act → World → Prop} {E : Prop} (hg : o.guard = none) (s x : Operand) (t : TypeId)
    (hop : o.op = Op.call { callee := Callee.builtin Builtin.append, args := #[s, x], argTypes := #[t, t] }) (v : Value) (hs : a.eval s = v) (u : Value) (hx : a.eval x = u) {v' : Value} {w' : World}
    (hrun : (Builtin.append_ #[t, t] o.type #[v, u]).run P w = .ok v' w') (hK : K (a.put o.dst v') w') :
    if Region.wanted o (yielded ops a.tmps) = true then Oper.wpIn F n P o a w K Q else E := by
  have hw : Region.wanted o (yielded ops a.tmps) = true := by simp [Region.wanted, hg]
  rw [if_pos hw]
  unfold Oper.wpIn
  refine ⟨?_, ?_⟩
  · simp [Oper.about, hop, resolve, Target.leads, Sem.run_pure]
  · rw [Oper.semAt_plain F _ _ (by rw [hop]; intro c hc'; cases hc')]
    simp [execOp, hop, resolve, invoke, builtin, hs, hx, hrun, Result.andThen]
    exact hK
end Go.Proofs.YthjldedjllkeeaaGreatDoor
