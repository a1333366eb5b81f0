/- Texts put together: WHex, WText, WPu, WParse, SpecP. -/
import Derived.Test.YtbbgmlnfpnomiaaGreatDoorProg
import Derived.Test.YtbbgmlnfpnomiaaGreatDoorLA
import Derived.Laws.BytesArg
import Derived.BigQuiet
import Derived.Deep.QuietTactic
import Derived.Test.YtbbgmlnfpnomiaaGreatDoorShelf
import Derived.Test.YtbbgmlnfpnomiaaGreatDoorLC
import Derived.WideLaws
section
/- The walk of strconv's hexadecimal: formatBits at base 16. -/
namespace Go.Proofs.YtbbgmlnfpnomiaaGreatDoor
open Go.RowKit
set_option maxHeartbeats 400000 in
theorem tz64_16 (w : World) (hc : w.cell? ⟨7, 15, none⟩ = some (.int .u8 4)) :
    Calls Tryz.prog 340 #[.int .u64 16] w fun e w' => e = .returned (.int .i64 4) ∧ w = w' := by
  have key : IntKind.u64.wrap (bits BinOp.and IntKind.u64 16 (IntKind.u64.wrap (-16)) * 285870213051353865) / 288230376151711744 = 15 := by decide +kernel
  go_enter Tryz.func340, Tryz.ntmps340
  go_wp2
  go_ret
  exact ⟨rfl, rfl⟩
set_option maxHeartbeats 400000 in
theorem tz_16 (w : World) (hc : w.cell? ⟨7, 15, none⟩ = some (.int .u8 4)) :
    Calls Tryz.prog 320 #[.int .u64 16] w fun e w' => e = .returned (.int .i64 4) ∧ w = w' := by
  go_enter Tryz.func320, Tryz.ntmps320
  go_wp2_with (go_at_call 340; refine (tz64_16 _ hc).mono ?_; rintro e w' ⟨rfl, rfl⟩)
  go_ret
  exact ⟨rfl, rfl⟩
set_option maxHeartbeats 400000 in
theorem pow2_16 (w : World) :
    Calls Tryz.prog 319 #[.int .i64 16] w fun e w' => e = .returned (.bool true) ∧ w = w' := by
  go_enter Tryz.func319, Tryz.ntmps319
  go_wp2
  go_ret
  exact ⟨rfl, rfl⟩
/-- A block that is just these cells, none frozen. -/
def BkX (w : World) (g : Nat) (t : TypeId) (cs : List Value) : Prop := w.heap[g]? = some (.cells cs.toArray t (0, 0))
section
variable {w w' : World} {g : Nat} {t : TypeId} {cs : List Value}
theorem BkX.cell (h : BkX w g t cs) (j : Nat) : w.cell? ⟨g, j, none⟩ = cs[j]? := by
  unfold BkX at h
  simp [World.cell?, h]
theorem BkX.free (h : BkX w g t cs) (j : Nat) : w.frozen? ⟨g, j, none⟩ = false := by
  unfold BkX at h
  simp [World.frozen?, h]
theorem BkX.set (h : BkX w g t cs) (j : Nat) (u : Value) : BkX (w.setCell ⟨g, j, none⟩ u) g t (cs.set j u) := by
  unfold BkX at *
  simp [World.setCell, Array.getElem?_modify, h]
theorem BkX.new (w : World) (cs : List Value) (t : TypeId) : BkX (w.alloc (.cells cs.toArray t)) w.heap.size t cs := by
  unfold BkX
  show (w.heap.push _)[w.heap.size]? = _
  simp
theorem BkX.below (h : BkX w g t cs) {B : Nat} (hg : g < B) (k : Below B w w') : BkX w' g t cs := by
  unfold BkX at *
  rw [k.block g hg]; exact h
end
abbrev digs : ByteArray := ⟨#[48, 49, 50, 51, 52, 53, 54, 55, 56, 57, 97, 98, 99, 100, 101, 102, 103, 104, 105, 106, 107, 108, 109, 110, 111, 112, 113, 114, 115, 116, 117, 118, 119, 120, 121, 122]⟩
theorem digs_all : ∀ r : Fin 16, (digs.data.toList.getD r.val 0).toNat = S.dig r.val := by decide
theorem digs_at (r : Nat) (h : r < 16) : (digs[r]'(Nat.lt_trans h (by decide))).toNat = S.dig r := by
  have h1 := digs_all ⟨r, h⟩
  rw [← h1]
  have hl : r < digs.data.toList.length := Nat.lt_trans h (by decide)
  rw [List.getD_eq_getElem?_getD, List.getElem?_eq_getElem hl]
  rfl
theorem drop_set (cs : List Value) (j : Nat) (u : Value) (h : j < cs.length) : (cs.set j u).drop j = u :: cs.drop (j + 1) := by
  rw [List.drop_eq_getElem_cons (by rw [List.length_set]; exact h), List.getElem_set_self, List.drop_set_of_lt (by omega)]
set_option maxHeartbeats 400000 in
set_option maxRecDepth 100000 in
theorem fmtbits (u : Nat) (hu : u < 18446744073709551616) (w : World) (hc : w.cell? ⟨7, 15, none⟩ = some (.int .u8 4)) :
    Calls Tryz.prog 299 #[.slice none 0 0, .int .u64 (u : Int), .int .i64 16, .bool false, .bool false] w fun e w' => e = .returned (.tuple #[.slice none 0 0, .string (strOfNums (List.map (fun (n : Nat) => (n : Int)) (S.hexA u)))]) ∧ Ext w w' := by
  have hc2 := ((Ext.rfl' w).alloc (.cells Tryz.zeroCells430 430)).cell hc
  go_enter Tryz.func299, Tryz.ntmps299
  go_wp2_with (first | (go_at_call 319; refine (pow2_16 _).mono ?_; rintro e w' ⟨rfl, rfl⟩) | (go_at_call 320; refine (tz_16 _ hc2).mono ?_; rintro e w' ⟨rfl, rfl⟩))
  go_loopw [1, 13] (fun a b wr => ∃ (v i : Nat) (D : List Nat) (cs : List Value), a = .int .u64 (v : Int) ∧ b = .int .i64 (i : Int) ∧ S.hexA u = S.hexA v ++ D ∧ D.length + i = 65 ∧ cs.length = 65 ∧ cs.drop i = D.map (fun (n : Nat) => .int .u8 (n : Int)) ∧ v ≤ u ∧ BkX wr w.heap.size 430 cs ∧ Below w.heap.size w wr) (fun a _ _ => (intOf a).toNat)
  case atStart =>
    have hz : Tryz.zeroCells430.toList.length = 65 := by kernel_rfl
    exact ⟨u, 65, [], Tryz.zeroCells430.toList, rfl, rfl, by simp, rfl, hz, by rw [List.drop_of_length_le (by omega)]; rfl, Nat.le_refl _, BkX.new w _ _, (Below.refl _ _).alloc (Nat.le_refl _) _⟩
  case round =>
    obtain ⟨v, i, D, cs, rfl, rfl, hh, hD, hcs, hdr, hv, hb, hB⟩ := hrel
    have hl := S.hexA_len 15 u (by omega)
    have hp := S.hexA_pos v
    have hi : 50 ≤ i := by rw [hh, List.length_append] at hl; omega
    have hi2 : i ≤ 65 := by omega
    have hf := hb.free
    have hcell : ∀ j, wr.cell? ⟨w.heap.size, j, none⟩ = cs[j]? := hb.cell
    obtain ⟨j, rfl⟩ : ∃ j, i = j + 1 := ⟨i - 1, by omega⟩
    have hold := hcell j
    have hfj := hf j
    rw [List.getElem?_eq_getElem (show j < cs.length by omega)] at hold
    generalize cs[j] = old at hold
    clear hcell hf
    have HH := Lib.hid hh
    have HD := Lib.hid hD
    have HC := Lib.hid hcs
    have HR := Lib.hid hdr
    clear hh hD hcs hdr
    by_cases hlt : 16 ≤ v
    · have hand : bits BinOp.and IntKind.u64 (v : Int) 15 = ((v % 16 : Nat) : Int) := by
        have h := u64_and_nat v 15 (by omega) (by decide)
        rw [show v &&& 15 = v % 16 from Nat.and_two_pow_sub_one_eq_mod v 4] at h
        exact h
      have hr : v % 16 < 16 := by omega
      generalize hM : v % 16 = r at *
      have HM := Lib.hid hM
      clear hM
      go_wp2
      have hdg := digs_at r hr
      refine ⟨⟨v / 16, j, S.dig r :: D, cs.set j _, by simp, rfl, ?_, ?_, ?_, ?_, by omega, hb.set j _, hB.setCell (Nat.le_refl _) _⟩, ?_⟩
      · rw [HH.out, S.hexA_big hlt, HM.out, List.append_assoc]; rfl
      · have := HD.out; simp only [List.length_cons]; omega
      · rw [List.length_set]; exact HC.out
      · have h := HR.out
        have hlen := HC.out
        rw [drop_set cs j _ (by omega), h, List.map_cons]
        exact congrArg (fun n : Nat => Value.int .u8 (n : Int) :: List.map (fun (n : Nat) => Value.int .u8 (n : Int)) D) hdg
      · simp [intOf]; omega
    · have hdg := Lib.hid (digs_at v (by omega))
      have hj1 : j ≤ 65 := by omega
      have hj2 : (j : Int) ≤ 65 := by omega
      have hj3 : (65 = j) = False := by simp; omega
      have hv36 : v < 36 := by omega
      have hb2 := Lib.hid (hb.set j (.int .u8 ((digs[v]'hv36).toNat : Int)))
      have hB2 := Lib.hid (hB.setCell (p := ⟨w.heap.size, j, none⟩) (Nat.le_refl _) (.int .u8 ((digs[v]'hv36).toNat : Int)))
      have hlen : ((S.dig v :: D).map (fun (n : Nat) => (n : Int))).length = 65 - j := by have := HD.out; simp; omega
      have hcells : ∀ i, i < 65 - j → (wr.setCell ⟨w.heap.size, j, none⟩ (.int .u8 ((digs[v]'hv36).toNat : Int))).cell? ⟨w.heap.size, j + i, none⟩ = some (.int .u8 (((S.dig v :: D).map (fun (n : Nat) => (n : Int))).getD i 0)) := by
        intro i hi'
        rw [hb2.out.cell (j + i), ← List.getElem?_drop, drop_set cs j _ (by have := HC.out; omega), HR.out]
        cases i with
        | zero => exact congrArg (fun n : Nat => some (Value.int .u8 (n : Int))) hdg.out
        | succ i =>
          have hl2 : i < D.length := by have := HD.out; omega
          simp [hl2]
      have hconv := run_convert_bytes_arg (P := Tryz.prog) _ 149 5 Tryz.underlying149 Tryz.underlying5 w.heap.size j (65 - j) (65 - j) _ hlen hcells 9 Tryz.underlying9
      have HF := Lib.hid (show (S.dig v :: D) = S.hexA u by rw [HH.out, S.hexA_small (by omega)]; rfl)
      clear hcells hlen
      go_wp2
      refine bodyPost_ret (by simp [results, Tryz.results299, go_sem]; rfl) rfl ?_
      refine ⟨?_, hB2.out⟩
      rw [← HF.out]
      rfl
end Go.Proofs.YtbbgmlnfpnomiaaGreatDoor
end

section
/- The walks of FormatUint at base 16, hash.Text. -/
namespace Go.Proofs.YtbbgmlnfpnomiaaGreatDoor
open Go.RowKit
theorem strOf_nat (l : List Nat) : strOfNums (l.map (fun (n : Nat) => (n : Int))) = S.bstr l := by
  unfold strOfNums S.bstr
  rw [List.map_map]
  rfl
set_option maxHeartbeats 400000 in
theorem ifmt_calls (u : Nat) (hu : u < 18446744073709551616) (w : World) (hc : w.cell? ⟨7, 15, none⟩ = some (.int .u8 4)) :
    Calls Tryz.prog 270 #[.int .u64 (u : Int), .int .i64 16] w fun e w' => e = .returned (.string (S.bstr (S.hexA u))) ∧ Ext w w' := by
  have h := fmtbits u hu w hc
  rw [strOf_nat] at h
  have H := Lib.hid h
  clear h
  go_enter Tryz.func270, Tryz.ntmps270
  go_wp2_with fail
  refine H.out.mono ?_
  rintro e w' ⟨rfl, hx⟩
  have HX := Lib.hid hx
  clear hx
  go_wp2
  go_ret
  exact ⟨rfl, HX.out⟩
set_option maxHeartbeats 400000 in
theorem fmt_calls (u : Nat) (hu : u < 18446744073709551616) (w : World) (hc : w.cell? ⟨7, 15, none⟩ = some (.int .u8 4)) :
    Calls Tryz.prog 217 #[.int .u64 (u : Int), .int .i64 16] w fun e w' => e = .returned (.string (S.bstr (S.hexA u))) ∧ Ext w w' := by
  have H := Lib.hid (ifmt_calls u hu w hc)
  go_enter Tryz.func217, Tryz.ntmps217
  go_wp2_with fail
  refine H.out.mono ?_
  rintro e w' ⟨rfl, hx⟩
  have HX := Lib.hid hx
  clear hx
  go_wp2
  go_ret
  exact ⟨rfl, HX.out⟩
theorem repeat_zeros (c : Nat) : (⟨(Lib.repeatL (⟨#[48]⟩ : ByteArray).data.toList c).toArray⟩ : ByteArray) = S.bstr (List.replicate c 48) := by
  unfold S.bstr
  congr 2
  induction c with
  | zero => rfl
  | succ c ih => rw [Lib.repeatL, ih, List.replicate_succ]; rfl
set_option maxHeartbeats 400000 in
theorem text_calls (u : Nat) (hu : u < 18446744073709551616) (w : World) (hc : w.cell? ⟨7, 15, none⟩ = some (.int .u8 4)) :
    Calls Tryz.prog 145 #[.int .u64 (u : Int)] w fun e w' => e = .returned (.string (S.bstr (S.hexT u))) ∧ Ext w w' := by
  have H := Lib.hid (fmt_calls u hu w hc)
  have hl := S.hexA_len 15 u (by omega)
  have hp := S.hexA_pos u
  have hs := S.bstr_size (S.hexA u)
  have hsz : (S.bstr (S.hexA u)).size ≤ 16 := by omega
  have HS := Lib.hid hs
  clear hs
  go_enter Tryz.func145, Tryz.ntmps145
  go_wp2_with fail
  refine H.out.mono ?_
  rintro e w' ⟨rfl, hx⟩
  have HX := Lib.hid hx
  clear hx
  go_wp2_with fail
  rw [show (16 : Int) - ((S.bstr (S.hexA u)).size : Int) = ((16 - (S.bstr (S.hexA u)).size : Nat) : Int) from by omega]
  refine (Tryz.strings_Repeat ⟨#[48]⟩ (16 - (S.bstr (S.hexA u)).size) w' (by omega) (by show 1 * _ ≤ _; omega)).mono ?_
  rintro e w2 ⟨rfl, hx⟩
  have HY := Lib.hid (HX.out.tr hx)
  clear hx
  have HR := Lib.hid (repeat_zeros (16 - (S.bstr (S.hexA u)).size))
  have hz : (S.bstr (List.replicate (16 - (S.bstr (S.hexA u)).size) 48)).size ≤ 16 := by rw [S.bstr_size, List.length_replicate]; omega
  rw [← HR.out] at hz
  generalize (⟨(Lib.repeatL (⟨#[48]⟩ : ByteArray).data.toList (16 - (S.bstr (S.hexA u)).size)).toArray⟩ : ByteArray) = Z at *
  go_wp2
  go_ret
  refine ⟨?_, HY.out⟩
  rw [S.hexT, ← S.bstr_append, ← HS.out, ← HR.out]
  rfl
end Go.Proofs.YtbbgmlnfpnomiaaGreatDoor
end

section
/- The walk of strconv.ParseUint at base 16, 64 bits. -/
namespace Go.Proofs.YtbbgmlnfpnomiaaGreatDoor
open Go.RowKit
set_option maxHeartbeats 400000 in
theorem lower_calls (c : Nat) (hc : c < 256) (w : World) :
    Calls Tryz.prog 304 #[.int .u8 (c : Int)] w fun e w' => e = .returned (.int .u8 ((S.low c : Nat) : Int)) ∧ w = w' := by
  have h : bits BinOp.or IntKind.u8 (c : Int) 32 = ((S.low c : Nat) : Int) := u8_or_nat c 32 hc (by decide)
  go_enter Tryz.func304, Tryz.ntmps304
  go_wp2
  go_ret
  exact ⟨rfl, rfl⟩
theorem bytes_empty {s : ByteArray} (h : s.toList = []) : s.data.toList = [] := by
  rw [← ByteArray.toList_eq]; exact h
theorem bytes_full {s : ByteArray} (h : S.nums s.data.toList = []) : s.toList = [] := by
  rw [← ByteArray.toList_eq] at h
  unfold S.nums at h
  exact List.map_eq_nil_iff.1 h
theorem cBs_at (s : ByteArray) (k : Nat) (h : k < s.size) : (cBs s)[k]? = some (cU8 s[k]) := by
  rw [List.getElem?_map, List.getElem?_eq_getElem (show k < s.data.toList.length from h)]
  rfl
theorem nums_lt (s : ByteArray) (k : Nat) (h : k < s.size) : k < (S.nums s.data.toList).length := by unfold S.nums; rw [List.length_map]; exact h
theorem nums_at (s : ByteArray) (k : Nat) (h : k < s.size) : (S.nums s.data.toList)[k]'(nums_lt s k h) = s[k].toNat := by
  simp only [S.nums, List.getElem_map]
  rfl
/-- How ParseUint ends. -/
def PuEnd (r : Option Nat) (e : Ending) : Prop :=
  match r with
  | some n => e = .returned (.tuple #[cU64 n, .nilIface])
  | none => ∃ (x : Int) (c : Int), (c = 1 ∨ c = 2) ∧ 0 ≤ x ∧ x < 18446744073709551616 ∧ e = .returned (.tuple #[.int .u64 x, .iface 389 (.int .i64 c)])
theorem puEnd_syntax {r : Option Nat} (h : r = none) : PuEnd r (.returned (.tuple #[.int .u64 0, .iface 389 (.int .i64 2)])) := by
  subst h; exact ⟨0, 2, .inr rfl, by decide, by decide, rfl⟩
theorem puEnd_range {r : Option Nat} (h : r = none) {x : Int} (h0 : 0 ≤ x) (h1 : x ≤ 18446744073709551615) : PuEnd r (.returned (.tuple #[.int .u64 x, .iface 389 (.int .i64 1)])) := by
  subst h; exact ⟨x, 1, .inl rfl, h0, by omega, rfl⟩
theorem puTake (l : List Nat) (k : Nat) (hk : k < l.length) {n : Nat} (h : S.puFold (l.take k) 0 = some n) : S.puFold (l.take (k + 1)) 0 = S.puStep n l[k] := by
  rw [List.take_succ_eq_append_getElem hk, S.puFold_append, h]
  show (S.puStep n l[k]).bind (S.puFold []) = _
  cases S.puStep n l[k] <;> rfl
theorem puDead (l : List Nat) (k : Nat) (hk : k < l.length) {n : Nat} (h : S.puFold (l.take k) 0 = some n) (hs : S.puStep n l[k] = none) : S.pu l = none := by
  unfold S.pu
  rw [if_neg (by intro e; rw [e] at hk; simp at hk)]
  conv => lhs; rw [← List.take_append_drop (k + 1) l]
  rw [S.puFold_append, puTake l k hk h, hs]
  rfl
theorem lowerI_calls (c : Nat) (hc : c < 256) (q r : Int) (hq : q = (c : Int)) (hr : r = ((S.low c : Nat) : Int)) (w : World) :
    Calls Tryz.prog 304 #[.int .u8 q] w fun e w' => e = .returned (.int .u8 r) ∧ w = w' := by
  subst hq hr
  exact lower_calls c hc w
theorem puStep_dig {n c : Nat} (h : 48 ≤ c ∧ c ≤ 57) : S.puStep n c = if n < 1152921504606846976 then some (n * 16 + (c - 48)) else none := by
  unfold S.puStep S.hexv
  rw [if_pos h, Option.bind_some]
theorem puStep_let {n c : Nat} (h0 : ¬ (48 ≤ c ∧ c ≤ 57)) (h : 97 ≤ S.low c ∧ S.low c ≤ 102) : S.puStep n c = if n < 1152921504606846976 then some (n * 16 + (S.low c - 87)) else none := by
  unfold S.puStep S.hexv
  rw [if_neg h0, if_pos h, Option.bind_some]
theorem puStep_no {n c : Nat} (h0 : ¬ (48 ≤ c ∧ c ≤ 57)) (h : ¬ (97 ≤ S.low c ∧ S.low c ≤ 102)) : S.puStep n c = none := by
  unfold S.puStep S.hexv
  rw [if_neg h0, if_neg h]
  rfl
set_option maxHeartbeats 2000000 in
set_option maxRecDepth 100000 in
theorem ipu_calls (s : ByteArray) (hs : s.size ≤ 9223372036854775807) (w : World) :
    Calls Tryz.prog 276 #[.string s, .int .i64 16, .int .i64 64] w fun e w' => PuEnd (S.pu (S.nums s.data.toList)) e ∧ Ext w w' := by
  by_cases h0 : s.toList = []
  · have h0' : (s.toList.isEmpty) = true := by rw [h0]; rfl
    have HE := Lib.hid (show S.pu (S.nums s.data.toList) = none by
      unfold S.pu
      rw [if_pos (by rw [bytes_empty h0]; rfl)])
    clear h0
    go_enter Tryz.func276, Tryz.ntmps276
    go_wp2
    go_ret2
    exact ⟨puEnd_syntax HE.out, Below.refl _ _⟩
  · have HN := Lib.hid (show S.nums s.data.toList ≠ [] from fun e => h0 (bytes_full e))
    have h0' : (s.toList.isEmpty) = false := by cases hh : s.toList with | nil => exact absurd hh h0 | cons _ _ => rfl
    obtain ⟨w1, A1, c1, hcv, hx, hr⟩ := run_bytes w s
    have HR := Lib.hid hr
    have HX := Lib.hid hx
    clear hr hx h0
    go_enter Tryz.func276, Tryz.ntmps276
    go_wp2_with fail
    obtain ⟨M, hM0, hM1, hM2⟩ : ∃ M : Int, IntKind.u64.wrap (IntKind.u64.wrap 18446744073709551616 - 1) = M ∧ 18446744073709551615 ≤ M ∧ M ≤ 18446744073709551615 := ⟨_, rfl, by decide +kernel, by decide +kernel⟩
    rw [hM0]
    clear hM0
    clear h0'
    go_loop [12, 13, 101] (fun b x i => ∃ (k : Nat) (n : Int), k ≤ s.size ∧ b = .bool false ∧ x = .int .u64 n ∧ i = .int .i64 k ∧ Hid (S.puFold ((S.nums s.data.toList).take k) 0 = some n.toNat) ∧ 0 ≤ n ∧ n < 18446744073709551616) (fun _ _ i => s.size - (intOf i).toNat)
    case atStart => exact ⟨0, 0, by omega, rfl, rfl, rfl, rfl, by decide, by decide⟩
    case round =>
      obtain ⟨k, n, hk, rfl, rfl, rfl, HF, hn0, hn⟩ := hrel
      by_cases hlt : k < s.size
      · obtain ⟨ad, rfl, _, hc0⟩ := HR.out.at_ (cBs_at s k hlt)
        have hc : w1.cell? (ad.add k) = some (.int .u8 ((s[k].toNat : Nat) : Int)) := hc0
        clear hc0
        have hb : s[k].toNat < 256 := s[k].toNat_lt
        have hS0 : S.puStep n.toNat s[k].toNat = none → S.pu (S.nums s.data.toList) = none := fun h => puDead _ k (nums_lt s k hlt) HF.out (by rw [nums_at s k hlt]; exact h)
        have hT0 : ∀ m, S.puStep n.toNat s[k].toNat = some m → S.puFold ((S.nums s.data.toList).take (k + 1)) 0 = some m := fun m h => by rw [puTake _ k (nums_lt s k hlt) HF.out, nums_at s k hlt]; exact h
        have HS := Lib.hid hS0
        have HT := Lib.hid hT0
        clear hS0 hT0
        generalize s[k].toNat = c at *
        obtain ⟨q, hq⟩ : ∃ q : Int, q = (c : Int) := ⟨_, rfl⟩
        rw [← hq] at hc
        have hq0 : 0 ≤ q := by omega
        have hq1 : q < 256 := by omega
        have HQ := Lib.hid hq
        clear hq
        obtain ⟨r, hr⟩ : ∃ r : Int, r = ((S.low c : Nat) : Int) := ⟨_, rfl⟩
        have hlow := S.low_lt hb
        have hr0 : 0 ≤ r := by omega
        have hr1 : r < 256 := by omega
        have HRr := Lib.hid hr
        have HB := Lib.hid hb
        clear hr hb hlow
        have hcap : ∀ x : Int, n < 1152921504606846976 → 0 ≤ x → x < 16 → n * 16 + x < 18446744073709551616 := by intro x _ _ _; omega
        clear hcap
        by_cases hd : 48 ≤ q ∧ q ≤ 57
        · obtain ⟨hd1, hd2⟩ := hd
          have h95 : (q == 95) = false := beq_eq_false_iff_ne.2 (by omega)
          have hd16 : decide (16 ≤ q - 48) = false := decide_eq_false (by omega)
          have HP := Lib.hid (puStep_dig (n := n.toNat) (c := c) (by have := HQ.out; omega))
          by_cases hbig : n < 1152921504606846976
          · have hcut : decide (1152921504606846976 ≤ n) = false := decide_eq_false (by omega)
            go_wp2
            refine ⟨⟨k + 1, n * 16 + (q - 48), by omega, rfl, rfl, by go_num, Lib.hid (HT.out _ ?_), by omega, by omega⟩, by simp [intOf]; omega⟩
            have := HQ.out
            rw [HP.out, if_pos (by omega)]
            congr 1
            omega
          · have hcut : decide (1152921504606846976 ≤ n) = true := decide_eq_true (by omega)
            go_wp2
            go_ret2
            exact ⟨puEnd_range (HS.out (by rw [HP.out, if_neg (by omega)])) (by omega) hM2, HX.out⟩
        · have HD := Lib.hid (show ¬ (48 ≤ c ∧ c ≤ 57) by have := HQ.out; omega)
          by_cases hl : 97 ≤ r ∧ r ≤ 102
          · obtain ⟨hl1, hl2⟩ := hl
            have h95 : (q == 95) = false := by
              refine beq_eq_false_iff_ne.2 (fun e => ?_)
              have h1 := HQ.out
              have h2 := HRr.out
              have h3 : c = 95 := by omega
              rw [h3] at h2
              have h4 : S.low 95 = 127 := by decide
              omega
            have hl3 : r ≤ 122 := by omega
            have hd16 : decide (16 ≤ r - 97 + 10) = false := decide_eq_false (by omega)
            have HP := Lib.hid (puStep_let (n := n.toNat) (c := c) HD.out (by have := HRr.out; omega))
            by_cases hbig : n < 1152921504606846976
            · have hcut : decide (1152921504606846976 ≤ n) = false := decide_eq_false (by omega)
              have hsplit : q < 48 ∨ 57 < q := by omega
              clear hd
              rcases hsplit with hsp | hsp
              all_goals
                go_wp2_with (go_at_call 304; refine (lowerI_calls c HB.out q r HQ.out HRr.out _).mono ?_; rintro e w' ⟨rfl, rfl⟩)
                refine ⟨⟨k + 1, n * 16 + (r - 97 + 10), by omega, rfl, rfl, by go_num, Lib.hid (HT.out _ ?_), by omega, by omega⟩, by simp [intOf]; omega⟩
                have := HRr.out
                rw [HP.out, if_pos (by omega)]
                congr 1
                omega
            · have hcut : decide (1152921504606846976 ≤ n) = true := decide_eq_true (by omega)
              have hsplit : q < 48 ∨ 57 < q := by omega
              clear hd
              rcases hsplit with hsp | hsp
              all_goals
                go_wp2_with (go_at_call 304; refine (lowerI_calls c HB.out q r HQ.out HRr.out _).mono ?_; rintro e w' ⟨rfl, rfl⟩)
                go_ret2
                exact ⟨puEnd_range (HS.out (by rw [HP.out, if_neg (by omega)])) (by omega) hM2, HX.out⟩
          · have HP := Lib.hid (puStep_no (n := n.toNat) (c := c) HD.out (by have := HRr.out; omega))
            have hsplit : q < 48 ∨ 57 < q := by omega
            have hsplit2 : r < 97 ∨ 122 < r ∨ (97 ≤ r ∧ r ≤ 122 ∧ decide (16 ≤ r - 97 + 10) = true) := by
              rcases Int.lt_or_le r 97 with h | h
              · exact .inl h
              · rcases Int.lt_or_le 122 r with h2 | h2
                · exact .inr (.inl h2)
                · exact .inr (.inr ⟨h, h2, decide_eq_true (by omega)⟩)
            clear hd hl
            have h95 : (q == 95) = true ∨ (q == 95) = false := by cases q == 95 <;> simp
            rcases h95 with h95 | h95
            all_goals rcases hsplit with hsp | hsp
            all_goals rcases hsplit2 with hs2 | hs2 | ⟨hs2, hs3, hs4⟩
            all_goals
              go_wp2_with (go_at_call 304; refine (lowerI_calls c HB.out q r HQ.out HRr.out _).mono ?_; rintro e w' ⟨rfl, rfl⟩)
              go_ret2
              exact ⟨puEnd_syntax (HS.out HP.out), HX.out⟩
      · have hk2 : k = s.size := by omega
        have HE := Lib.hid (show S.pu (S.nums s.data.toList) = some n.toNat by
          have h := HF.out
          rw [hk2, List.take_of_length_le (by unfold S.nums; rw [List.length_map]; exact Nat.le_refl _)] at h
          unfold S.pu
          rw [if_neg HN.out, h])
        clear hk2
        go_wp2
        go_ret2
        refine ⟨?_, HX.out⟩
        unfold PuEnd
        rw [HE.out]
        show Ending.returned (.tuple #[.int .u64 n, .nilIface]) = Ending.returned (.tuple #[.int .u64 ((n.toNat : Nat) : Int), .nilIface])
        rw [Int.toNat_of_nonneg hn0]
end Go.Proofs.YtbbgmlnfpnomiaaGreatDoor
end

section
/- The walks of strconv.ParseUint (public) at base 16, hash.Parse. -/
namespace Go.Proofs.YtbbgmlnfpnomiaaGreatDoor
open Go.RowKit
/-- What the walks read of the library's variables. -/
structure Gl (w : World) : Prop where
  tz : w.cell? ⟨7, 15, none⟩ = some (.int .u8 4)
  syn : ∃ ev, w.cell? ⟨1, 0, none⟩ = some ev ∧ (ev = .nilIface ∨ ∃ te pe, ev = .iface te pe)
  rng : ∃ ev, w.cell? ⟨0, 0, none⟩ = some ev ∧ (ev = .nilIface ∨ ∃ te pe, ev = .iface te pe)
theorem Gl.ext {w w' : World} (h : Gl w) (k : Ext w w') : Gl w' :=
  ⟨k.cell h.tz, h.syn.elim fun ev h => ⟨ev, k.cell h.1, h.2⟩, h.rng.elim fun ev h => ⟨ev, k.cell h.1, h.2⟩⟩
def PuPub (r : Option Nat) (e : Ending) : Prop :=
  match r with
  | some n => e = .returned (.tuple #[cU64 n, .nilIface])
  | none => ∃ (x : Int) (t : TypeId) (v : Value), 0 ≤ x ∧ x < 18446744073709551616 ∧ e = .returned (.tuple #[.int .u64 x, .iface t v])
set_option maxHeartbeats 400000 in
theorem pu_calls (s : ByteArray) (hs : s.size ≤ 281474976710656) (w : World) (hg : Gl w) :
    Calls Tryz.prog 220 #[.string s, .int .i64 16, .int .i64 64] w fun e w' => PuPub (S.pu (S.nums s.data.toList)) e ∧ Ext w w' := by
  have HI := Lib.hid (ipu_calls s (by omega) w)
  have HG := Lib.hid hg
  clear hg
  generalize S.pu (S.nums s.data.toList) = r at *
  go_enter Tryz.func220, Tryz.ntmps220
  go_wp2_with fail
  refine HI.out.mono ?_
  rintro e w1 ⟨he, hx⟩
  have HX := Lib.hid hx
  clear hx
  cases r with
  | some n =>
    obtain rfl : e = .returned (.tuple #[cU64 n, .nilIface]) := he
    go_wp2
    go_ret2
    exact ⟨rfl, HX.out⟩
  | none =>
    obtain ⟨x, c, hcc, hx0, hx1, rfl⟩ : ∃ (x : Int) (c : Int), (c = 1 ∨ c = 2) ∧ 0 ≤ x ∧ x < 18446744073709551616 ∧ e = .returned (.tuple #[.int .u64 x, .iface 389 (.int .i64 c)]) := he
    obtain ⟨ev, hv, hev⟩ := (HG.out.ext HX.out).syn
    obtain ⟨ev2, hv2, hev2⟩ := (HG.out.ext HX.out).rng
    have H1 := Lib.hid (Tryz.strconv_toError_syntax ⟨#[80, 97, 114, 115, 101, 85, 105, 110, 116]⟩ s 16 64 ev w1 hs hv hev)
    have H2 := Lib.hid (Tryz.strconv_toError_range ⟨#[80, 97, 114, 115, 101, 85, 105, 110, 116]⟩ s 16 64 ev2 w1 hs hv2 hev2)
    clear hv hev hv2 hev2
    rcases hcc with rfl | rfl
    · go_wp2_with fail
      refine H2.out.mono ?_
      rintro e w2 ⟨N, rfl, _, _, hb⟩
      have HY := Lib.hid (HX.out.tr hb)
      clear hb
      go_wp2
      go_ret2
      exact ⟨⟨x, _, _, hx0, hx1, rfl⟩, HY.out⟩
    · go_wp2_with fail
      refine H1.out.mono ?_
      rintro e w2 ⟨N, rfl, _, _, hb⟩
      have HY := Lib.hid (HX.out.tr hb)
      clear hb
      go_wp2
      go_ret2
      exact ⟨⟨x, _, _, hx0, hx1, rfl⟩, HY.out⟩
/-- What hash.Parse tells: a digest, or none. -/
def parseH (s : List Nat) : Option Nat := (S.pu s).bind fun n => if S.hexT n = s then some n else none
def ParseEnd (r : Option Nat) : Ending := match r with
  | some n => .returned (.tuple #[cU64 n, .int .i64 0])
  | none => .returned (.tuple #[cU64 0, .int .i64 2])
theorem puFold_lt (l : List Nat) : ∀ n, n < 18446744073709551616 → ∀ m, S.puFold l n = some m → m < 18446744073709551616 := by
  induction l with
  | nil => intro n hn m h; injection h with h; omega
  | cons c l ih =>
    intro n _ m h
    have h' : (S.puStep n c).bind (S.puFold l) = some m := h
    cases hp : S.puStep n c with
    | none => rw [hp] at h'; cases h'
    | some q => rw [hp] at h'; exact ih q (S.puStep_lt hp) m h'
theorem pu_lt {l : List Nat} {m : Nat} (h : S.pu l = some m) : m < 18446744073709551616 := by
  unfold S.pu at h
  split at h
  · cases h
  · exact puFold_lt l 0 (by decide) m h
theorem nums_bstr (l : List Nat) (h : ∀ x ∈ l, x < 256) : S.nums (S.bstr l).data.toList = l := by
  rw [S.bstr_list]
  unfold S.nums
  rw [List.map_map]
  conv => rhs; rw [← List.map_id l]
  refine List.map_congr_left fun x hx => ?_
  show (UInt8.ofNat x).toNat = x
  rw [UInt8.toNat_ofNat']
  exact Nat.mod_eq_of_lt (h x hx)
theorem hexA_bd (k : Nat) : ∀ u, u < 16 ^ (k + 1) → ∀ x ∈ S.hexA u, x < 256 := by
  induction k with
  | zero => intro u h x hx; rw [S.hexA_small (by omega)] at hx; rw [List.mem_singleton] at hx; subst hx; exact S.dig_lt (by omega)
  | succ k ih =>
    intro u h x hx
    by_cases h1 : u < 16
    · rw [S.hexA_small h1] at hx; rw [List.mem_singleton] at hx; subst hx; exact S.dig_lt h1
    · rw [S.hexA_big (by omega), List.mem_append] at hx
      rcases hx with hx | hx
      · exact ih (u / 16) (by rw [Nat.pow_succ] at h; omega) x hx
      · rw [List.mem_singleton] at hx; subst hx; exact S.dig_lt (Nat.mod_lt _ (by decide))
theorem hexT_bd {u : Nat} (h : u < 18446744073709551616) : ∀ x ∈ S.hexT u, x < 256 := by
  intro x hx
  unfold S.hexT at hx
  rw [List.mem_append] at hx
  rcases hx with hx | hx
  · have := List.eq_of_mem_replicate hx; omega
  · exact hexA_bd 15 u (by omega) x hx
theorem text_eq {u : Nat} (h : u < 18446744073709551616) (s : ByteArray) : (S.bstr (S.hexT u)).toList = s.toList ↔ S.hexT u = S.nums s.data.toList := by
  rw [ByteArray.toList_eq, ByteArray.toList_eq]
  constructor
  · intro e; rw [← e, nums_bstr _ (hexT_bd h)]
  · intro e
    rw [e, S.bstr_list]
    unfold S.nums
    rw [List.map_map]
    conv => rhs; rw [← List.map_id s.data.toList]
    refine List.map_congr_left fun x _ => ?_
    show UInt8.ofNat x.toNat = x
    exact UInt8.ofNat_toNat
set_option maxHeartbeats 400000 in
theorem parse_calls (s : ByteArray) (hs : s.size ≤ 281474976710656) (w : World) (hg : Gl w) :
    Calls Tryz.prog 152 #[.string s] w fun e w' => e = ParseEnd (parseH (S.nums s.data.toList)) ∧ Ext w w' := by
  have HI := Lib.hid (pu_calls s hs w hg)
  have HG := Lib.hid hg
  clear hg
  have hp : parseH (S.nums s.data.toList) = (S.pu (S.nums s.data.toList)).bind fun n => if S.hexT n = (S.nums s.data.toList) then some n else none := rfl
  generalize hr : S.pu (S.nums s.data.toList) = r at *
  have HRR := Lib.hid hr
  clear hr
  generalize parseH (S.nums s.data.toList) = v at *
  have HP := Lib.hid hp
  clear hp
  go_enter Tryz.func152, Tryz.ntmps152
  go_wp2_with fail
  refine HI.out.mono ?_
  rintro e w1 ⟨he, hx⟩
  have HX := Lib.hid hx
  clear hx
  cases r with
  | none =>
    obtain ⟨x, t, q, hx0, hx1, rfl⟩ : ∃ (x : Int) (t : TypeId) (v : Value), 0 ≤ x ∧ x < 18446744073709551616 ∧ e = .returned (.tuple #[.int .u64 x, .iface t v]) := he
    go_wp2
    go_ret2
    refine ⟨?_, HX.out⟩
    rw [HP.out]
    rfl
  | some n =>
    obtain rfl : e = .returned (.tuple #[cU64 n, .nilIface]) := he
    have hn := pu_lt HRR.out
    have HT := Lib.hid (text_calls n hn w1 (HG.out.ext HX.out).tz)
    have HE := Lib.hid (text_eq hn s)
    generalize S.bstr (S.hexT n) = Z at *
    by_cases h : Z.toList = s.toList
    · have h1 : (Z.toList == s.toList) = true := by rw [h]; simp
      have h2 : (Z.toList != s.toList) = false := by rw [h]; simp
      have HV := Lib.hid (show v = some n by rw [HP.out, Option.bind_some, if_pos (HE.out.1 h)])
      clear h
      go_wp2_with fail
      refine HT.out.mono ?_
      rintro e w2 ⟨rfl, hx⟩
      have HY := Lib.hid (HX.out.tr hx)
      clear hx
      go_wp2
      go_ret2
      refine ⟨?_, HY.out⟩
      rw [HV.out]
      rfl
    · have h1 : (Z.toList == s.toList) = false := by simpa using h
      have h2 : (Z.toList != s.toList) = true := by simpa using h
      have HV := Lib.hid (show v = none by rw [HP.out, Option.bind_some, if_neg (fun e => h (HE.out.2 e))])
      clear h
      go_wp2_with fail
      refine HT.out.mono ?_
      rintro e w2 ⟨rfl, hx⟩
      have HY := Lib.hid (HX.out.tr hx)
      clear hx
      go_wp2
      go_ret2
      refine ⟨?_, HY.out⟩
      rw [HV.out]
      rfl
end Go.Proofs.YtbbgmlnfpnomiaaGreatDoor
end

section
/- Plain words: digests in words and back: the program's reading and the reference's are one. -/
namespace Go.Proofs.YtbbgmlnfpnomiaaGreatDoor
/-- The n lowest hexadecimal digits. -/
def dgs (u : Nat) : Nat → List Nat
  | 0 => []
  | n + 1 => dgs (u / 16) n ++ [S.dig (u % 16)]
theorem dgs_len (n : Nat) : ∀ u, (dgs u n).length = n := by
  induction n with
  | zero => intro u; rfl
  | succ n ih => intro u; rw [dgs, List.length_append, ih]; rfl
theorem dgs_zero (n : Nat) : dgs 0 n = List.replicate n 48 := by
  induction n with
  | zero => rfl
  | succ n ih => rw [dgs, ih, List.replicate_succ']; rfl
theorem hexA_dgs (n : Nat) : ∀ u, u < 16 ^ (n + 1) → List.replicate (n + 1 - (S.hexA u).length) 48 ++ S.hexA u = dgs u (n + 1) := by
  induction n with
  | zero =>
    intro u h
    rw [S.hexA_small (by omega), dgs, dgs, Nat.mod_eq_of_lt (by omega)]
    rfl
  | succ n ih =>
    intro u h
    by_cases h1 : u < 16
    · rw [S.hexA_small h1, dgs, show u / 16 = 0 from by omega, dgs_zero, Nat.mod_eq_of_lt h1]
      rfl
    · rw [S.hexA_big (by omega), dgs, ← ih (u / 16) (by rw [Nat.pow_succ] at h; omega), List.length_append, List.append_assoc]
      have e : n + 1 + 1 - ((S.hexA (u / 16)).length + [S.dig (u % 16)].length) = n + 1 - (S.hexA (u / 16)).length := by
        rw [List.length_singleton]; omega
      rw [e]
theorem hexT_dgs {u : Nat} (h : u < 18446744073709551616) : S.hexT u = dgs u 16 := hexA_dgs 15 u (by omega)
theorem hexT_len {u : Nat} (h : u < 18446744073709551616) : (S.hexT u).length = 16 := by rw [hexT_dgs h, dgs_len]
/-- What the reference reads of a byte. -/
def rv (c : Nat) : Option Nat := if 48 ≤ c ∧ c ≤ 57 then some (c - 48) else if 97 ≤ c ∧ c ≤ 102 then some (c - 87) else none
def rstep (n c : Nat) : Option Nat := (rv c).map fun d => n * 16 + d
def rfold : List Nat → Nat → Option Nat
  | [], n => some n
  | c :: l, n => (rstep n c).bind (rfold l)
def rparse (s : List Nat) : Option Nat := if s.length = 16 then rfold s 0 else none
theorem rfold_append (a b : List Nat) : ∀ n, rfold (a ++ b) n = (rfold a n).bind (rfold b) := by
  induction a with
  | nil => intro n; rfl
  | cons c a ih =>
    intro n
    show (rstep n c).bind (rfold (a ++ b)) = ((rstep n c).bind (rfold a)).bind (rfold b)
    cases rstep n c with
    | none => rfl
    | some m => exact ih m
theorem rfold_snoc (a : List Nat) (c n : Nat) : rfold (a ++ [c]) n = (rfold a n).bind fun m => rstep m c := by
  rw [rfold_append]
  cases rfold a n with
  | none => rfl
  | some m =>
    show (rstep m c).bind (rfold []) = rstep m c
    cases rstep m c <;> rfl
theorem rv_dig : ∀ d : Fin 16, rv (S.dig d.val) = some d.val := by decide
theorem hexv_dig : ∀ d : Fin 16, S.hexv (S.dig d.val) = some d.val := by decide
theorem dig_rv {c d : Nat} (h : rv c = some d) : S.dig d = c ∧ d < 16 := by
  unfold rv at h
  unfold S.dig
  split at h
  · injection h with h; subst h
    rw [if_pos (by omega)]; omega
  · split at h
    · injection h with h; subst h
      rw [if_neg (by omega)]; omega
    · cases h
theorem rfold_dgs (n : Nat) : ∀ u, u < 16 ^ n → rfold (dgs u n) 0 = some u := by
  induction n with
  | zero => intro u h; rw [Nat.pow_zero] at h; obtain rfl : u = 0 := (by omega); rfl
  | succ n ih =>
    intro u h
    rw [dgs, rfold_snoc, ih (u / 16) (by rw [Nat.pow_succ] at h; omega), Option.bind_some, rstep, rv_dig ⟨u % 16, Nat.mod_lt _ (by decide)⟩, Option.map_some]
    congr 1
    show u / 16 * 16 + u % 16 = u
    omega
theorem puFold_dgs (n : Nat) : ∀ u, u < 16 ^ n → u < 18446744073709551616 → S.puFold (dgs u n) 0 = some u := by
  induction n with
  | zero => intro u h _; rw [Nat.pow_zero] at h; obtain rfl : u = 0 := (by omega); rfl
  | succ n ih =>
    intro u h h2
    rw [dgs, S.puFold_append, ih (u / 16) (by rw [Nat.pow_succ] at h; omega) (by omega), Option.bind_some]
    show (S.puStep (u / 16) (S.dig (u % 16))).bind (S.puFold []) = some u
    rw [S.puStep, hexv_dig ⟨u % 16, Nat.mod_lt _ (by decide)⟩, Option.bind_some, if_pos (by omega), Option.bind_some]
    show some (u / 16 * 16 + u % 16) = some u
    congr 1
    omega
theorem dgs_rfold (s : List Nat) (k : Nat) (hk : k ≤ s.length) : ∀ m, rfold (s.take k) 0 = some m → dgs m k = s.take k ∧ m < 16 ^ k := by
  induction k with
  | zero => intro m h; injection h with h; subst h; exact ⟨rfl, by decide⟩
  | succ k ih =>
    intro m h
    rw [List.take_succ_eq_append_getElem (by omega), rfold_snoc] at h
    cases hp : rfold (s.take k) 0 with
    | none => rw [hp] at h; cases h
    | some q =>
      rw [hp, Option.bind_some, rstep] at h
      obtain ⟨h1, h2⟩ := ih (by omega) q hp
      cases hv : rv s[k] with
      | none => rw [hv] at h; cases h
      | some d =>
        rw [hv, Option.map_some] at h
        injection h with h
        obtain ⟨h3, h4⟩ := dig_rv hv
        subst h
        rw [dgs, show (q * 16 + d) / 16 = q from by omega, show (q * 16 + d) % 16 = d from by omega, h1, h3, List.take_succ_eq_append_getElem (by omega), Nat.pow_succ]
        exact ⟨rfl, by omega⟩
theorem rparse_text {s : List Nat} {n : Nat} (h : rparse s = some n) : S.hexT n = s ∧ n < 18446744073709551616 := by
  unfold rparse at h
  split at h
  · rename_i hl
    have h1 := dgs_rfold s 16 (by omega) n (by rw [List.take_of_length_le (by omega)]; exact h)
    rw [List.take_of_length_le (by omega)] at h1
    have h2 : n < 18446744073709551616 := by have := h1.2; omega
    exact ⟨by rw [hexT_dgs h2]; exact h1.1, h2⟩
  · cases h
theorem rparse_of {n : Nat} (h : n < 18446744073709551616) : rparse (S.hexT n) = some n := by
  unfold rparse
  rw [if_pos (hexT_len h), hexT_dgs h]
  exact rfold_dgs 16 n (by omega)
theorem pu_of {n : Nat} (h : n < 18446744073709551616) : S.pu (S.hexT n) = some n := by
  unfold S.pu
  rw [if_neg (by intro e; have := hexT_len h; rw [e] at this; cases this), hexT_dgs h]
  exact puFold_dgs 16 n (by omega) h
theorem parseH_of {n : Nat} (h : n < 18446744073709551616) : parseH (S.hexT n) = some n := by
  unfold parseH
  rw [pu_of h, Option.bind_some, if_pos rfl]
/-- The program reads what the reference reads. -/
theorem parseH_ref (s : List Nat) : parseH s = rparse s := by
  cases hr : rparse s with
  | some n =>
    obtain ⟨h1, h2⟩ := rparse_text hr
    rw [← h1]
    exact parseH_of h2
  | none =>
    unfold parseH
    cases hp : S.pu s with
    | none => rfl
    | some m =>
      rw [Option.bind_some]
      by_cases e : S.hexT m = s
      · have := rparse_of (pu_lt hp)
        rw [e, hr] at this
        cases this
      · rw [if_neg e]
end Go.Proofs.YtbbgmlnfpnomiaaGreatDoor
end
