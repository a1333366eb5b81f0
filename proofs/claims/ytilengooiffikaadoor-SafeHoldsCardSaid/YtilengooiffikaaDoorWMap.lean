/- The walks of field.Map at the functions that are handed to it, of Num, twice, doubled. -/
import Derived.Test.YtilengooiffikaaDoorWNames
import Derived.Lib.AppendIntMem
set_option linter.unusedVariables false
namespace Go.Proofs.YtilengooiffikaaDoor
open Go.RowKit Go.Sort
theorem bI64 : (Tryd.prog.info? 2).map (fun i => (i.zero, i.size, i.bytes)) = some (some (.int .i64 0), 1, 8) := by kernel_rfl
theorem drewN_heap (w : World) (k : Nat) : (w.drewN k).heap = w.heap := by cases w; rfl
theorem ext_grow (w : World) (k : Nat) (os : Array Obj) : Ext w (grow (w.drewN k) os) := by
  refine ⟨rfl, rfl, rfl, ?_, fun j hj => ?_⟩
  · show w.heap.size ≤ (w.heap ++ os).size
    simp
  · show (w.heap ++ os)[j]? = w.heap[j]?
    rw [Array.getElem?_append_left hj]
/-- Two times a number, as an int64 keeps it. -/
def dbl (n : Int) : Int := wrap64 (2 * n)
/-- What the walks of numbers in words read of the library's variables. -/
def TabOk (w : World) : Prop := Lib.TabIs Tryd.prog w "internal/strconv.uint64pow10" .u64 Lib.pow10Tab
theorem num_calls (n : Int) (h0 : -9223372036854775808 ≤ n) (h1 : n ≤ 9223372036854775807) (w : World) (ht : TabOk w) :
    Calls Tryd.prog 65 #[.int .i64 n] w fun e w' => e = .returned (.string (strOf (Lib.itoa n))) ∧ Ext w w' := by
  have HT := Lib.hid ht
  clear ht
  go_enter Tryd.func65, Tryd.ntmps65
  go_wp2_with fail
  refine (Tryd.strconv_FormatInt_10 n h0 h1 _ HT.out).mono ?_
  rintro e w' ⟨rfl, k, os, rfl⟩
  go_wp2
  go_ret
  refine ⟨rfl, ?_⟩
  exact ext_grow _ _ _
theorem ownsRow_kept {w w' : World} {B : Nat} {e : TypeId} {v : Value} {n : Nat} {xs : List Value} (h : w.ownsRow B e 1 v n xs) (hk : ∀ k, k < w.heap.size → w'.heap[k]? = w.heap[k]?) : w'.ownsRow B e 1 v n xs := by
  obtain ⟨hx, ho⟩ := h
  refine ⟨hx, ?_⟩
  rcases ho with ho | ⟨g, cap, cur, h1, h2, h3, h4⟩
  · exact .inl ho
  · refine .inr ⟨g, cap, cur, h1, h2, (hk g ?_).trans h3, h4⟩
    rcases Nat.lt_or_ge g w.heap.size with h' | h'
    · exact h'
    · simp [Array.getElem?_eq_none h'] at h3
/-- Numbers in words. -/
abbrev numB (n : Int) : ByteArray := strOf (Lib.itoa n)
theorem num_map (l : List Int) (k : Nat) (h : k < l.length) : (l.take (k + 1)).map numB = (l.take k).map numB ++ [numB l[k]] := by
  rw [List.take_succ_eq_append_getElem h, List.map_append]
  rfl
set_option maxHeartbeats 1000000 in
set_option maxRecDepth 100000 in
theorem mapNum_calls (l : List Int) (hb : ∀ n ∈ l, -9223372036854775808 ≤ n ∧ n ≤ 9223372036854775807) (A : Option Addr) (c : Nat) (w : World) (hA : Rd w A (cI64s l)) (hl : l.length ≤ 1099511627776) (ht : ∀ w', Ext w w' → TabOk w') :
    Calls Tryd.prog 64 #[.slice A l.length c, .func (.func 65) #[] #[]] w fun e w' => (∃ v, e = .returned v ∧ w'.ownsRow w.heap.size 9 1 v l.length (cStrs (l.map numB))) ∧ Ext w w' := by
  obtain ⟨j0, hj, hy0, hy1, hy2⟩ := info_parts bStr
  have HA := Lib.hid hA
  have HT := Lib.hid ht
  have HBD := Lib.hid hb
  clear hA ht hb
  go_enter Tryd.func64, Tryd.ntmps64
  go_wp2
  go_loopw [5, 10] (fun v i wr => ∃ k : Nat, k ≤ l.length ∧ i = .int .i64 k ∧ wr.ownsRow w.heap.size 9 1 v k (cStrs ((l.take k).map numB)) ∧ Below w.heap.size w wr) (fun _ i _ => l.length - (intOf i).toNat)
  case atStart => exact ⟨0, by omega, rfl, World.ownsRow_nil _ _ _ _, Below.refl _ _⟩
  case round =>
    obtain ⟨k, hk, rfl, hoo, hB⟩ := hrel
    by_cases hlt : k < l.length
    · obtain ⟨ad, rfl, _, hc⟩ := (HA.out.ext hB).at_ (j := k) (u := .int .i64 l[k]) (by simp [hlt])
      have hnb := HBD.out l[k] (by simp)
      have HS := Lib.hid (num_map l k hlt)
      have HOO := Lib.hid hoo
      have HBB := Lib.hid hB
      have hT := HT.out _ hB
      have HTT := Lib.hid hT
      clear hoo hB hT
      generalize l[k] = n at *
      go_wp2_with fail
      refine (num_calls n hnb.1 hnb.2 _ HTT.out).mono ?_
      rintro e w1 ⟨rfl, hx⟩
      have hsz0 := HBB.out.size
      have hB1 := HBB.out.trans (hx.mono hsz0)
      have hoo1 := ownsRow_kept HOO.out hx.block
      have hsz1 := hB1.size
      clear hx
      have hoo2 := hoo1.alloc (.cells #[.string (numB n)] 9)
      go_wp2_with (at_builtin; (refine wpList_append_own _ rfl _ _ 130 rfl w.heap.size 9 j0 (.string ⟨#[]⟩) 1 16 Tryd.underlying130 hj hy0 hy1 hy2 rfl (by decide) _ _ _ rfl hoo2 ⟨w1.heap.size, 0, none⟩ 1 1 [.string (numB n)] rfl rfl (cell_one_new _ _ _) (fun x hx => by simp at hx; subst hx; rfl) (by unfold maxLen; omega) (by omega) (by simp; omega) ?_); intro v' w2 hown' hgrow _)
      have hB2 : Below w.heap.size w w2 := (hB1.alloc hsz1 _).grown hgrow (by simp; omega) (fun q hq => (hoo1.lt q hq).1)
      have HO2 := Lib.hid hown'
      have HB2 := Lib.hid hB2
      clear hown' hgrow hB1 hB2 hoo1 hoo2
      go_wp2
      go_roundw
      case rel => exact ⟨k + 1, hlt, by go_num, by rw [HS.out]; simpa [cStrs] using HO2.out, HB2.out⟩
      case measure => simp [intOf]; omega
    · obtain rfl : k = l.length := by omega
      rw [List.take_length] at hoo
      have HR := Lib.hid hoo
      have HB2 := Lib.hid hB
      clear hoo hB
      go_wp2
      go_ret
      exact ⟨⟨_, rfl, HR.out⟩, HB2.out⟩
theorem TabOk.all {w : World} (h : TabOk w) : ∀ w', Ext w w' → TabOk w' := Lib.tabBelow_of_tabIs h
theorem dbl_map (l : List Int) (k : Nat) (h : k < l.length) : (l.take (k + 1)).map dbl = (l.take k).map dbl ++ [dbl l[k]] := by
  rw [List.take_succ_eq_append_getElem h, List.map_append]
  rfl
end Go.Proofs.YtilengooiffikaaDoor
