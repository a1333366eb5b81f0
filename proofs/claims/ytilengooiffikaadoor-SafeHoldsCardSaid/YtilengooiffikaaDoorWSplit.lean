/- The walk of field.Split. -/
import Derived.Test.YtilengooiffikaaDoorWRJoin
import Derived.Test.YtilengooiffikaaDoorSpecS
namespace Go.Proofs.YtilengooiffikaaDoor
open Go.RowKit
theorem bStr : (Tryd.prog.info? 9).map (fun i => (i.zero, i.size, i.bytes)) = some (some (.string ⟨#[]⟩), 1, 16) := by kernel_rfl
abbrev cFs (l : List (List UInt8)) : List Value := l.map fun s => Value.string (strOf s)
def SplitEnd (r : Except Nat (List (List UInt8))) (e : Ending) (w : World) : Prop :=
  match r with
  | .ok l => ∃ A c, e = .returned (.tuple #[.slice A l.length c, .int .i64 0]) ∧ Rd w A (cFs l)
  | .error n => e = .returned (.tuple #[.slice none 0 0, .int .i64 (n : Int)])
/-- Rows of unlike types that a call owns lie apart. -/
theorem own_apart {w w' : World} {B B2 : Nat} {e e2 : TypeId} {v v2 : Value} {n m : Nat} {xs ys : List Value} (h : w.ownsRow B e 1 v n xs) (h2 : w.ownsRow B2 e2 1 v2 m ys) (he : e ≠ e2) (hg : w.grownBy w' v2.ownBlock) : w'.ownsRow B e 1 v n xs := by
  refine h.kept hg ?_
  rcases h.2 with ⟨hv, _⟩ | ⟨g, cap, cur, hv, _, hgb, _⟩
  · exact .inl (by rw [hv]; rfl)
  · right
    rw [hv]
    show some g ≠ v2.ownBlock
    exact fun e3 => Lib.ownBlock_ne h2 hgb he e3.symm
theorem bs_tail (s : ByteArray) : bs (s.extract 1 s.size) = (bs s).drop 1 := by
  simp [bs, ByteArray.data_extract]
  exact List.take_of_length_le (by simp)
theorem kinds (c : UInt8) : (((c.toNat : Int) == 124) = true ∧ c = 124) ∨ (((c.toNat : Int) == 124) = false ∧ ((c.toNat : Int) == 92) = true ∧ c = 92) ∨ (((c.toNat : Int) == 124) = false ∧ ((c.toNat : Int) == 92) = false ∧ J.special c = false ∧ (c == 124) = false ∧ (c == 92) = false) := by
  by_cases h1 : c = 124
  · subst h1; exact .inl ⟨rfl, rfl⟩
  · by_cases h2 : c = 92
    · subst h2; exact .inr (.inl ⟨rfl, rfl, rfl⟩)
    · have e1 : (c == 124) = false := by simpa using h1
      have e2 : (c == 92) = false := by simpa using h2
      have n1 : ¬ (c.toNat : Int) = 124 := fun e => h1 (UInt8.toNat_inj.1 (by have : c.toNat = 124 := by omega
                                                                              exact this))
      have n2 : ¬ (c.toNat : Int) = 92 := fun e => h2 (UInt8.toNat_inj.1 (by have : c.toNat = 92 := by omega
                                                                             exact this))
      exact .inr (.inr ⟨by simpa using n1, by simpa using n2, by rw [J.special, e1, e2]; rfl, e1, e2⟩)
theorem step_sp {o f c} (h : J.special c = true) : J.step (o, f, true) c = some (o, f ++ [c], false) := by simp [J.step, h]
theorem step_no {o f c} (h : J.special c = false) : J.step (o, f, true) c = none := by simp [J.step, h]
theorem step_other {o f c} (h1 : (c == 124) = false) (h2 : (c == 92) = false) : J.step (o, f, false) c = some (o, f ++ [c], false) := by simp [J.step, h1, h2]
theorem bne_t {x y : Int} (h : (x == y) = true) : (x != y) = false := by rw [bne, h]; rfl
theorem bne_f {x y : Int} (h : (x == y) = false) : (x != y) = true := by rw [bne, h]; rfl
/-- What comes of a state at the text's end. -/
def fin (r : Option J.St) : Except Nat (List (List UInt8)) := match r with
  | some (out, f, false) => J.most (out ++ [f])
  | _ => .error 2
end Go.Proofs.YtilengooiffikaaDoor
