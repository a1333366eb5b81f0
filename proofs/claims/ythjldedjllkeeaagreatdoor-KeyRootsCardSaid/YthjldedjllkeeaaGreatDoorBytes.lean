/- A slice of bytes as a string; a row that a call owns reads as its cells. -/
import Derived.Test.YthjldedjllkeeaaGreatDoorCore
import Derived.Laws.BytesArg
import Derived.Laws.BytesString
import Derived.Laws.AppendOwn
import Derived.OpenShut
namespace Go.Proofs.YthjldedjllkeeaaGreatDoor
open Go.RowKit
/-- The string of a row of bytes. -/
abbrev strOf (l : List UInt8) : ByteArray := ⟨l.toArray⟩
theorem strOf_nums (l : List UInt8) : strOfNums (l.map fun b => ((b.toNat : Nat) : Int)) = strOf l := by
  unfold strOfNums
  rw [List.map_map]
  congr 2
  conv => rhs; rw [← List.map_id l]
  refine List.map_congr_left fun x _ => ?_
  show UInt8.ofNat ((x.toNat : Nat) : Int).toNat = x
  rw [Int.toNat_natCast]
  exact UInt8.ofNat_toNat
theorem run_str {P : Program} (w : World) (A : Option Addr) (l : List UInt8) (c : Nat) (src e dst : TypeId) (hs : P.underlying src = some (.slice e)) (he : P.underlying e = some (.int .u8)) (hd : P.underlying dst = some .string) (h : Rd w A (l.map cU8)) :
    (convert src dst (.slice A l.length c)).run P w = .ok (.string (strOf l)) w := by
  cases A with
  | none =>
    rcases h with h | ⟨ad, h, _⟩
    · have hl : l = [] := List.map_eq_nil_iff.1 h
      subst hl
      exact run_convert_bytes_nil w src e hs he 0 c dst hd
    · cases h
  | some ad =>
    rw [run_convert_bytes_string w src dst e _ _ c hs he hd]
    have hl : (loadCells ad l.length).run P w = .ok ((l.map fun b => ((b.toNat : Nat) : Int)).map (Value.int .u8)).toArray w := by
      have := run_loadCells_list (P := P) w ad ((l.map fun b => ((b.toNat : Nat) : Int)).map (Value.int .u8)) (fun j v hj => by
        rw [List.map_map] at hj
        obtain ⟨ad', e1, _, hc⟩ := h.at_ hj
        injection e1 with e1
        subst e1
        exact hc)
      simpa using this
    rw [run_bytesToString w ad _ c _ hl, foldl_push_bytes, ← strOf_nums]
    unfold strOfNums
    simp [ByteArray.empty, ByteArray.emptyWithCapacity]
    rfl
theorem rd_of_own {w : World} {B : Nat} {e : TypeId} {v : Value} {n : Nat} {xs : List Value} (h : w.ownsRow B e 1 v n xs) : ∃ A c, v = .slice A n c ∧ Rd w A xs := by
  rcases h.2 with ⟨hv, h0⟩ | ⟨g, cap, cur, hv, hb, hg, _⟩
  · subst h0
    exact ⟨none, 0, hv, .inl (List.eq_nil_of_length_eq_zero (by simpa using h.1))⟩
  · refine ⟨_, cap, hv, .inr ⟨_, rfl, ?_, fun j hj => ?_⟩⟩
    · show g < w.heap.size
      rcases Nat.lt_or_ge g w.heap.size with h' | h'
      · exact h'
      · simp [Array.getElem?_eq_none h'] at hg
    · rw [List.getElem?_eq_getElem hj]
      exact h.cells (g := g) (by rw [hv]; rfl) j _ (List.getElem?_eq_getElem hj)
end Go.Proofs.YthjldedjllkeeaaGreatDoor
