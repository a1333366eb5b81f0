/- The walks of hash.Sum, Two, Chain, Of. -/
import Derived.Test.YtgomondmogpkeaaDoorWRow
import Derived.Lib.ConvBytes
import Derived.Laws.BytesString
namespace Go.Proofs.YtgomondmogpkeaaDoor
open Go.RowKit
/-- The bytes of a string as a slice's cells. -/
abbrev cBs (s : ByteArray) : List Value := s.data.toList.map cU8
theorem bytesWorld_ext (w : World) (e : TypeId) (s : ByteArray) : Ext w (Lib.bytesWorld w e s) :=
  ⟨rfl, rfl, rfl, by rw [Lib.bytesWorld_size]; omega, fun k hk => Lib.bytesWorld_at_old w e s k hk⟩
theorem bytesWorld_rd (w : World) (e : TypeId) (s : ByteArray) : Rd (Lib.bytesWorld w e s) (some ⟨w.heap.size, 0, none⟩) (cBs s) := by
  refine .inr ⟨_, rfl, by rw [Lib.bytesWorld_size]; exact Nat.lt_succ_self _, fun j hj => ?_⟩
  have hj' : j < s.size := by rw [List.length_map] at hj; exact hj
  rw [show (⟨w.heap.size, 0, none⟩ : Addr).add j = ⟨w.heap.size, j, none⟩ from by unfold Addr.add; split <;> simp [*]]
  rw [Lib.bytesWorld_cell w e s j hj']
  have : j < s.data.toList.length := by simpa using hj'
  simp [List.getD, hj']
/-- '[]byte(s)': a new row that reads as the string's bytes. -/
theorem run_bytes (w : World) (s : ByteArray) : ∃ w1 A c, (convert 9 38 (.string s)).run Tryd.prog w = .ok (.slice A s.data.toList.length c) w1 ∧ Ext w w1 ∧ Rd w1 A (cBs s) :=
  ⟨_, _, _, by rw [show s.data.toList.length = s.size from rfl]; exact Lib.run_convert_string_bytes w 9 38 5 s (u := .string) Tryd.underlying9 Tryd.underlying38 Tryd.underlying5, bytesWorld_ext _ _ _, bytesWorld_rd _ _ _⟩
set_option maxHeartbeats 400000 in
theorem sum_calls (tag : ByteArray) (ht : tag.data.toList.length ≤ 9223372036854775807) (l : List UInt8) (A : Option Addr) (c : Nat) (w : World) (hA : Rd w A (l.map cU8)) (hl : l.length ≤ 9223372036854775807) :
    Calls Tryd.prog 18 #[.string tag, .slice A l.length c] w fun e w' => e = .returned (cU64 (S.sumN tag.data.toList l)) ∧ Ext w w' := by
  obtain ⟨w1, A1, c1, hcv, hx, hr⟩ := run_bytes w tag
  have HA := Lib.hid (hA.ext hx)
  clear hA
  have HR := Lib.hid hr
  clear hr
  have HX := Lib.hid hx
  clear hx
  go_enter Tryd.func18, Tryd.ntmps18
  go_wp2_with fail
  refine (rowB_calls 0 (by decide) tag.data.toList A1 c1 _ HR.out ht).mono ?_
  rintro e w' ⟨rfl, rfl⟩
  go_wp2_with fail
  refine (mixN_calls _ 256 (fold_lt _ _ (by decide)) (by decide) _).mono ?_
  rintro e w' ⟨rfl, rfl⟩
  go_wp2_with fail
  refine (rowB_calls _ (S.mixN_lt _ _) l A c _ HA.out hl).mono ?_
  rintro e w' ⟨rfl, rfl⟩
  go_wp2_with fail
  refine (mixN_calls _ l.length (fold_lt _ _ (S.mixN_lt _ _)) (by omega) _).mono ?_
  rintro e w' ⟨rfl, rfl⟩
  go_wp2
  go_ret
  refine ⟨?_, HX.out⟩
  rw [S.sumN, S.tagN, S.nums, S.nums]
  rfl
set_option maxHeartbeats 400000 in
theorem of_calls (tag s : ByteArray) (ht : tag.data.toList.length ≤ 9223372036854775807) (hs : s.data.toList.length ≤ 9223372036854775807) (w : World) :
    Calls Tryd.prog 14 #[.string tag, .string s] w fun e w' => e = .returned (cU64 (S.sumN tag.data.toList s.data.toList)) ∧ Ext w w' := by
  obtain ⟨w1, A1, c1, hcv, hx, hr⟩ := run_bytes w s
  have HR := Lib.hid hr
  clear hr
  have HX := Lib.hid hx
  clear hx
  go_enter Tryd.func14, Tryd.ntmps14
  go_wp2_with fail
  refine (sum_calls tag ht s.data.toList A1 c1 _ HR.out hs).mono ?_
  rintro e w' ⟨rfl, hx⟩
  have HY := Lib.hid (HX.out.tr hx)
  clear hx
  go_wp2
  go_ret
  exact ⟨rfl, HY.out⟩
end Go.Proofs.YtgomondmogpkeaaDoor
