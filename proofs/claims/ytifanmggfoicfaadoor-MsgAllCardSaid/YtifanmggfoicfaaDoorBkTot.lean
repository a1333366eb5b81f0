/- The walks of book.Total and book.Digest. -/
import Derived.Test.YtifanmggfoicfaaDoorBkApp
import Derived.Test.YtifanmggfoicfaaDoorWText9
set_option linter.unusedVariables false
namespace Go.Proofs.YtifanmggfoicfaaDoor
open Go.RowKit Go.Sort
theorem bkId_calls (n : Int) (w : World) : Calls Tryd.prog 68 #[.int .i64 n] w fun e w' => e = .returned (.int .i64 n) ∧ w = w' := by
  go_enter Tryd.func68, Tryd.ntmps68
  go_wp2
  go_ret
  exact ⟨rfl, rfl⟩
set_option maxHeartbeats 1000000 in
set_option maxRecDepth 100000 in
theorem bkMap_calls (l : List Int) (hb : ∀ n ∈ l, -9223372036854775808 ≤ n ∧ n ≤ 9223372036854775807) (A : Option Addr) (c : Nat) (w : World) (hA : Rd w A (cI64s l)) (hl : l.length ≤ 1099511627776) :
    Calls Tryd.prog 43 #[.slice A l.length c, .func (.func 68) #[] #[]] w fun e w' => (∃ v, e = .returned v ∧ w'.ownsRow w.heap.size 2 1 v l.length (cI64s l)) ∧ Ext w w' := by
  obtain ⟨j0, hj, hy0, hy1, hy2⟩ := info_parts bI64
  have HA := Lib.hid hA
  have HBD := Lib.hid hb
  clear hA hb
  go_enter Tryd.func43, Tryd.ntmps43
  go_wp2
  go_loopw [5, 10] (fun v i wr => ∃ k : Nat, k ≤ l.length ∧ i = .int .i64 k ∧ wr.ownsRow w.heap.size 2 1 v k (cI64s (l.take k)) ∧ Below w.heap.size w wr) (fun _ i _ => l.length - (intOf i).toNat)
  case atStart => exact ⟨0, by omega, rfl, World.ownsRow_nil _ _ _ _, Below.refl _ _⟩
  case round =>
    obtain ⟨k, hk, rfl, hoo, hB⟩ := hrel
    by_cases hlt : k < l.length
    · obtain ⟨ad, rfl, _, hc⟩ := (HA.out.ext hB).at_ (j := k) (u := .int .i64 l[k]) (by simp [hlt])
      have hnb := HBD.out l[k] (by simp)
      have HS := Lib.hid (List.take_succ_eq_append_getElem hlt)
      have HOO := Lib.hid hoo
      have HBB := Lib.hid hB
      clear hoo hB
      generalize l[k] = n at *
      go_wp2_with fail
      refine (bkId_calls n _).mono ?_
      rintro e w1 ⟨rfl, rfl⟩
      have hB1 := HBB.out
      have hoo1 := HOO.out
      have hsz1 := hB1.size
      have hoo2 := hoo1.alloc (.cells #[.int .i64 n] 2)
      go_wp2_with (at_builtin; (refine wpList_append_own _ rfl _ _ 70 rfl w.heap.size 2 j0 (.int .i64 0) 1 8 Tryd.underlying70 hj hy0 hy1 hy2 rfl (by decide) _ _ _ rfl hoo2 ⟨wr.heap.size, 0, none⟩ 1 1 [.int .i64 n] rfl rfl (cell_one_new _ _ _) (fun x hx => by simp at hx; subst hx; rfl) (by unfold maxLen; omega) (by omega) (by simp; omega) ?_); intro v' w2 hown' hgrow _)
      have hB2 : Below w.heap.size w w2 := (hB1.alloc hsz1 _).grown hgrow (by simp; omega) (fun q hq => (hoo1.lt q hq).1)
      have HO2 := Lib.hid hown'
      have HB2 := Lib.hid hB2
      clear hown' hgrow hB1 hB2 hoo1 hoo2
      go_wp2
      go_roundw
      case rel => exact ⟨k + 1, hlt, by go_num, by rw [HS.out]; simpa [cI64s] using HO2.out, HB2.out⟩
      case measure => simp [intOf]; omega
    · obtain rfl : k = l.length := by omega
      rw [List.take_length] at hoo
      have HR := Lib.hid hoo
      have HB2 := Lib.hid hB
      clear hoo hB
      go_wp2
      go_ret
      exact ⟨⟨_, rfl, HR.out⟩, HB2.out⟩
theorem bkAdd_calls (m n : Int) (hb : -9223372036854775808 ≤ m + n ∧ m + n ≤ 9223372036854775807) (w : World) : Calls Tryd.prog 67 #[.int .i64 m, .int .i64 n] w fun e w' => e = .returned (.int .i64 (m + n)) ∧ w = w' := by
  have h1 := hb.1
  have h2 := hb.2
  go_enter Tryd.func67, Tryd.ntmps67
  go_wp2
  go_ret
  exact ⟨rfl, rfl⟩
theorem sum_snoc (l : List Int) (k : Nat) (h : k < l.length) : (l.take (k + 1)).sum = (l.take k).sum + l[k] := by
  rw [List.take_succ_eq_append_getElem h, List.sum_append]
  simp
theorem sum_le (l : List Int) (hb : ∀ n ∈ l, 0 ≤ n ∧ n ≤ 8796093022208) : ∀ k, k ≤ l.length → 0 ≤ (l.take k).sum ∧ (l.take k).sum ≤ 8796093022208 * k
  | 0, _ => by simp
  | k + 1, h => by
    have ih := sum_le l hb k (by omega)
    have hk := hb l[k] (List.getElem_mem ..)
    rw [sum_snoc l k (by omega)]
    omega
set_option maxRecDepth 100000 in
set_option maxHeartbeats 1000000 in
theorem fold_calls (l : List Int) (hb : ∀ n ∈ l, 0 ≤ n ∧ n ≤ 8796093022208) (A : Option Addr) (c : Nat) (hl : l.length ≤ 1000) (w : World) (hA : Rd w A (cI64s l)) :
    Calls Tryd.prog 66 #[.slice A l.length c, .int .i64 0, .func (.func 67) #[] #[]] w fun e w' => e = .returned (.int .i64 l.sum) ∧ w = w' := by
  have HA := Lib.hid hA
  have HB := Lib.hid hb
  have HS := Lib.hid (sum_le l hb)
  clear hA hb
  go_enter Tryd.func66, Tryd.ntmps66
  go_wp2
  go_loopw [1, 11] (fun s i wr => (∃ k : Nat, k ≤ l.length ∧ i = .int .i64 k ∧ s = .int .i64 (l.take k).sum) ∧ wr = w) (fun _ i => fun _ => l.length - (intOf i).toNat)
  case atStart => exact ⟨⟨0, Nat.zero_le _, rfl, by simp⟩, rfl⟩
  case round =>
    obtain ⟨⟨k, hk, rfl, rfl⟩, rfl⟩ := hrel
    by_cases hlt : k < l.length
    · obtain ⟨ad, rfl, _, c1⟩ := HA.out.at_ (j := k) (u := .int .i64 l[k]) (by simp [hlt])
      have hn := HB.out l[k] (by simp)
      have hs := HS.out k (by omega)
      have HN := Lib.hid (sum_snoc l k hlt)
      generalize l[k] = n at *
      generalize (l.take k).sum = s at *
      have HADD := Lib.hid (bkAdd_calls s n (by omega))
      clear hn hs
      go_wp2_with fail
      refine (HADD.out _).mono ?_
      rintro e w1 ⟨rfl, rfl⟩
      go_wp2
      go_roundw
      case rel => exact ⟨⟨k + 1, hlt, by go_num, by rw [HN.out]⟩, by trivial⟩
      case measure => simp [intOf]; omega
    · obtain rfl : k = l.length := by omega
      rw [List.take_length]
      go_wp2
      go_ret
      exact ⟨rfl, rfl⟩
theorem Blk.rd {W : World} {B : Nat} {T : TypeId} {L : List Value} (h : Blk W B T L) (o n : Nat) : Rd W (some ⟨B, o, none⟩) ((L.drop o).take n) :=
  .inr ⟨_, rfl, h.lt, fun j hj => by
    rw [Addr.add_mid]
    rw [List.length_take, List.length_drop] at hj
    rw [List.getElem?_take, if_pos (by omega), List.getElem?_drop]
    have : o + j < L.length := by omega
    rw [h.cell (List.getElem?_eq_getElem this), List.getElem?_eq_getElem this]⟩
/-- Who has what; whose turn. -/
def hasL (H : List Int) : List Int := H.take 16
def nextL (H : List Int) : List Int := (H.drop 16).take 16
set_option maxRecDepth 100000 in
set_option maxHeartbeats 1000000 in
theorem total_calls (H : List Int) (hH : H.length = 32) (hb : ∀ n ∈ hasL H, 0 ≤ n ∧ n ≤ 8796093022208) (w : World) :
    Calls Tryd.prog 45 #[.agg (cI64s H).toArray] w fun e w' => e = .returned (.int .i64 (hasL H).sum) ∧ Ext w w' := by
  have hl : (hasL H).length = 16 := by simp [hasL, hH]
  have HF := Lib.hid (fun W (hA : Rd W (some ⟨w.heap.size, 0, none⟩) (cI64s (hasL H))) => fold_calls (hasL H) hb (some ⟨w.heap.size, 0, none⟩) 16 (by omega) W hA)
  rw [hl] at HF
  have h0 := Blk.new w 67 (cI64s H)
  have h1 := h0.rd 0 16
  rw [show ((cI64s H).drop 0).take 16 = cI64s (hasL H) by simp [cI64s, hasL, List.map_take]] at h1
  have HR := Lib.hid h1
  have HX := Lib.hid ((Ext.rfl' w).alloc (.cells (cI64s H).toArray 67))
  clear h0 h1 hb hH hl
  go_enter Tryd.func45, Tryd.ntmps45
  go_wp2_with fail
  refine (HF.out _ HR.out).mono ?_
  rintro e w1 ⟨rfl, rfl⟩
  go_wp2
  go_ret
  exact ⟨rfl, HX.out⟩
end Go.Proofs.YtifanmggfoicfaaDoor
