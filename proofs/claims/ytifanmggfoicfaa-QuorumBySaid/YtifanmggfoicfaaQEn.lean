/- The walks of quorum.N, Q, Check, Enough, Common. -/
import Derived.Test.YtifanmggfoicfaaQDel
set_option linter.unusedVariables false
namespace Go.Proofs.Ytifanmggfoicfaa
open Go.RowKit Go.Shelf Go.Sort
abbrev tConf : TypeId := 102
abbrev confV (f : Int) : Value := .agg #[.int .i64 f]
set_option maxRecDepth 100000 in
theorem n_calls (f : Int) (h0 : 0 ≤ f) (h1 : f ≤ 100) (w : World) : Calls Try.prog 30 #[confV f] w fun e w' => e = .returned (.int .i64 (3 * f + 1)) ∧ Ext w w' := by
  go_enter Try.func30, Try.ntmps30
  go_wp2
  go_ret
  exact ⟨rfl, (Ext.rfl' w).alloc _⟩
set_option maxRecDepth 100000 in
theorem q_calls (f : Int) (h0 : 0 ≤ f) (h1 : f ≤ 100) (w : World) : Calls Try.prog 32 #[confV f] w fun e w' => e = .returned (.int .i64 (2 * f + 1)) ∧ Ext w w' := by
  go_enter Try.func32, Try.ntmps32
  go_wp2
  go_ret
  exact ⟨rfl, (Ext.rfl' w).alloc _⟩
/-- What is wrong with F. -/
def confC (f : Int) : Int := if 1 ≤ f ∧ f ≤ 3 then 0 else 1
theorem confC_cases (f : Int) : (f < 1 ∧ confC f = 1) ∨ (1 ≤ f ∧ 3 < f ∧ confC f = 1) ∨ (1 ≤ f ∧ f ≤ 3 ∧ confC f = 0) := by
  unfold confC
  by_cases h : 1 ≤ f ∧ f ≤ 3
  · rw [if_pos h]; omega
  · rw [if_neg h]; omega
set_option maxRecDepth 100000 in
theorem check_calls (f : Int) (w : World) : Calls Try.prog 24 #[confV f] w fun e w' => e = .returned (.int .i64 (confC f)) ∧ Ext w w' := by
  rcases confC_cases f with ⟨h1, hk⟩ | ⟨h1, h2, hk⟩ | ⟨h1, h2, hk⟩
  all_goals
    have HK := Lib.hid hk
    clear hk
    generalize confC f = K at *
    go_enter Try.func24, Try.ntmps24
    go_wp2
    go_ret
    exact ⟨by rw [HK.out]; rfl, (Ext.rfl' w).alloc _⟩
/-- Is there such a replica? -/
def outR (f : Int) (x : Int) : Bool := decide (x < 0) || decide (3 * f + 1 ≤ x)
theorem outR_lo {f x : Int} (h : x < 0) : outR f x = true := by unfold outR; simp [h]
theorem outR_hi {f x : Int} (h0 : 0 ≤ x) : outR f x = decide (3 * f + 1 ≤ x) := by unfold outR; simp; omega
set_option maxRecDepth 100000 in
theorem enough1_calls (f : Int) (h0 : 0 ≤ f) (h1 : f ≤ 100) (B : Nat) (x : Int) (w : World) (hb : Boxed w B tConf (.int .i64 f)) :
    Calls Try.prog 74 #[.int .i64 x, .pointer (some ⟨B, 0, none⟩)] w fun e w' => e = .returned (.bool (outR f x)) ∧ Ext w w' := by
  have c0 := hb.cell
  by_cases hx : x < 0
  · have HO := Lib.hid (outR_lo (f := f) hx)
    go_enter Try.func74, Try.ntmps74
    go_wp2
    go_ret
    exact ⟨by rw [HO.out]; rfl, Ext.rfl' w⟩
  · have hx0 : 0 ≤ x := by omega
    have HO := Lib.hid (outR_hi (f := f) hx0)
    have HN := Lib.hid (n_calls f h0 h1)
    go_enter Try.func74, Try.ntmps74
    go_wp2_with fail
    refine (HN.out _).mono ?_
    rintro e w1 ⟨rfl, hx1⟩
    have HX := Lib.hid hx1
    clear hx1 c0
    go_wp2
    go_ret
    exact ⟨by rw [HO.out]; rfl, HX.out⟩
/-- Do enough say so? -/
def enoughB (f : Int) (l : List Int) : Bool := decide (2 * f + 1 ≤ (((dst l).filter fun x => !outR f x).length : Int))
theorem dst_len (l : List Int) : (dst l).length ≤ l.length := by
  unfold dst
  have := Lib.compact_length_le (srt l)
  rw [srt_len] at this
  exact this
set_option maxRecDepth 100000 in
set_option maxHeartbeats 1000000 in
theorem enough_calls (f : Int) (h0 : 0 ≤ f) (h1 : f ≤ 100) (ls : List Int) (A : Option Addr) (c : Nat) (hl : ls.length ≤ 1099511627776) (w : World) (hA : Rd w A (cIs ls)) :
    Calls Try.prog 34 #[confV f, .slice A ls.length c] w fun e w' => e = .returned (.bool (enoughB f ls)) ∧ Ext w w' := by
  have hb := Boxed.new w tConf (.int .i64 f)
  have hX0 : Ext w (w.alloc (.cells #[.int .i64 f] tConf)) := (Ext.rfl' w).alloc _
  have HD := Lib.hid (distinct_calls ls A c hl (w.alloc (.cells #[.int .i64 f] tConf)) (hA.ext hX0))
  have HQ := Lib.hid (q_calls f h0 h1)
  have HX0 := Lib.hid hX0
  have hdl := dst_len ls
  have HDEF := Lib.hid (show enoughB f ls = decide (2 * f + 1 ≤ (((dst ls).filter fun x => !outR f x).length : Int)) from rfl)
  have HB := Lib.hid hb
  clear hA hX0 hb
  go_enter Try.func34, Try.ntmps34
  go_wp2_with fail
  refine HD.out.mono ?_
  rintro e w1 ⟨⟨v, rfl, hown⟩, hx⟩
  have hB1 : Boxed w1 w.heap.size tConf (.int .i64 f) := (hx.block _ HB.out.lt).trans HB.out
  have hlow : w.heap.size < (w.alloc (.cells #[.int .i64 f] tConf)).heap.size := by simp
  have hne : v.ownBlock ≠ some w.heap.size := fun e => by have := (hown.lt _ e).1; omega
  have hT : Tells 74 #[.pointer (some ⟨w.heap.size, 0, none⟩)] (outR f) w1 v.ownBlock := fun W hW x => enough1_calls f h0 h1 w.heap.size x W (hB1.kept hW (Ne.symm hne))
  have HF := Lib.hid (delFunc_calls 74 #[.pointer (some ⟨w.heap.size, 0, none⟩)] (enters_of Try.func74 (by kernel_rfl) rfl) (outR f) (dst ls) _ v w1 hown (by omega) hT)
  have HX1 := Lib.hid (HX0.out.tr hx)
  have HLT := Lib.hid (fun k hk => (hown.lt k hk).1)
  have HNE := Lib.hid hne
  have HB1 := Lib.hid hB1
  clear hx hown hT hB1 hne HB HD hlow
  go_wp2_with fail
  refine HF.out.mono ?_
  rintro e w2 ⟨⟨v', rfl, hown⟩, hg⟩
  obtain ⟨A2, c2, rfl, hrd⟩ := rd_of_own hown
  have hB2 := HB1.out.kept hg (Ne.symm HNE.out)
  have c0 := hB2.cell
  have HX2 := Lib.hid (show Ext w w2 from HX1.out.grown hg HX1.out.size (fun k hk => by have := HLT.out k hk; simp at this; omega))
  have hfl : ((dst ls).filter fun x => !outR f x).length ≤ (dst ls).length := List.length_filter_le _ _
  clear hown hrd hg hB2 HF
  generalize ((dst ls).filter fun x => !outR f x).length = m at *
  go_wp2_with fail
  refine (HQ.out _).mono ?_
  rintro e w3 ⟨rfl, hx⟩
  have HX3 := Lib.hid (HX2.out.tr hx)
  clear hx c0
  go_wp2
  go_ret
  exact ⟨by rw [HDEF.out]; rfl, HX3.out⟩
/-- Those that both have. -/
def common (a b : List Int) : List Int := (dst a).filter fun x => b.contains x
theorem idxP_mem (x : Int) (l : List Int) : (idxP (fun y => x == y) l = -1 ∧ l.contains x = false) ∨ (0 ≤ idxP (fun y => x == y) l ∧ l.contains x = true) := by
  rcases idxP_cases (fun y => x == y) l with ⟨h1, h2⟩ | ⟨k, hk, h1, _, h2⟩
  · refine .inl ⟨h1, ?_⟩
    rw [List.contains_eq_any_beq]
    simpa using h2
  · refine .inr ⟨by omega, ?_⟩
    rw [List.contains_eq_any_beq, List.any_eq_true]
    exact ⟨_, List.getElem_mem hk, h2⟩
set_option maxRecDepth 100000 in
set_option maxHeartbeats 1000000 in
theorem index_calls (l : List Int) (x : Int) (A : Option Addr) (c : Nat) (w : World) (hA : Rd w A (cIs l)) (hl : l.length ≤ 1099511627776) :
    Calls Try.prog 100 #[.slice A l.length c, .int .i64 x] w fun e w' => e = .returned (.int .i64 (idxP (fun y => x == y) l)) ∧ w = w' := by
  have HA := Lib.hid hA
  clear hA
  go_enter Try.func100, Try.ntmps100
  go_wp2
  go_loop [8] (fun i => ∃ k : Nat, k ≤ l.length ∧ i = .int .i64 k ∧ (l.take k).all (fun y => !(x == y)) = true) (fun i => l.length - (intOf i).toNat)
  case atStart => exact ⟨0, Nat.zero_le _, rfl, rfl⟩
  case round =>
    obtain ⟨k, hk, rfl, ha⟩ := hrel
    by_cases hlt : k < l.length
    · obtain ⟨ad, rfl, _, hc⟩ := HA.out.at_ (j := k) (u := .int .i64 l[k]) (by simp [hlt])
      cases hq : (x == l[k]) with
      | true =>
        have HI := Lib.hid (idxP_stop (fun y => x == y) l k hlt ha hq)
        clear ha
        generalize l[k] = u at *
        go_wp2
        go_ret
        exact ⟨by rw [HI.out]; rfl, rfl⟩
      | false =>
        have HI := Lib.hid (all_snoc (p := fun y => x == y) hlt ha hq)
        clear ha
        generalize l[k] = u at *
        go_wp2
        go_round
        case rel => exact ⟨k + 1, hlt, by go_num, HI.out⟩
        case measure => simp [intOf]; omega
    · obtain rfl : k = l.length := by omega
      rw [List.take_length] at ha
      have HI := Lib.hid (idxP_none _ l ha)
      clear ha
      go_wp2
      go_ret
      exact ⟨by rw [HI.out]; rfl, rfl⟩
set_option maxRecDepth 100000 in
theorem contains_calls (l : List Int) (x : Int) (A : Option Addr) (c : Nat) (w : World) (hA : Rd w A (cIs l)) (hl : l.length ≤ 1099511627776) :
    Calls Try.prog 73 #[.slice A l.length c, .int .i64 x] w fun e w' => e = .returned (.bool (l.contains x)) ∧ w = w' := by
  have HI := Lib.hid (index_calls l x A c w hA hl)
  clear hA
  rcases idxP_mem x l with ⟨h1, h2⟩ | ⟨h1, h2⟩
  · rw [h2]
    rw [h1] at HI
    clear h1 h2
    go_enter Try.func73, Try.ntmps73
    go_wp2_with fail
    refine HI.out.mono ?_
    rintro e w1 ⟨rfl, rfl⟩
    go_wp2
    go_ret
    exact ⟨rfl, rfl⟩
  · rw [h2]
    generalize idxP (fun y => x == y) l = k at *
    clear h2
    go_enter Try.func73, Try.ntmps73
    go_wp2_with fail
    refine HI.out.mono ?_
    rintro e w1 ⟨rfl, rfl⟩
    go_wp2
    go_ret
    exact ⟨rfl, rfl⟩
set_option maxRecDepth 100000 in
theorem common1_calls (b : List Int) (hl : b.length ≤ 1099511627776) (A : Option Addr) (c : Nat) (B : Nat) (x : Int) (w : World) (hb : Boxed w B tIs (.slice A b.length c)) (hA : Rd w A (cIs b)) :
    Calls Try.prog 72 #[.int .i64 x, .pointer (some ⟨B, 0, none⟩)] w fun e w' => e = .returned (.bool (!b.contains x)) ∧ Ext w w' := by
  have c0 := hb.cell
  have HC := Lib.hid (contains_calls b x A c w hA hl)
  clear hA hb
  generalize b.contains x = q at *
  go_enter Try.func72, Try.ntmps72
  go_wp2_with fail
  refine HC.out.mono ?_
  rintro e w1 ⟨rfl, rfl⟩
  clear c0
  go_wp2
  go_ret
  exact ⟨rfl, Ext.rfl' _⟩
set_option maxRecDepth 100000 in
set_option maxHeartbeats 1000000 in
theorem common_calls (a : List Int) (A : Option Addr) (c : Nat) (b : List Int) (A' : Option Addr) (c' : Nat) (hl : a.length ≤ 1099511627776) (hl' : b.length ≤ 1099511627776) (w : World) (hA : Rd w A (cIs a)) (hA' : Rd w A' (cIs b)) :
    Calls Try.prog 28 #[.slice A a.length c, .slice A' b.length c'] w fun e w' => (∃ v, e = .returned v ∧ w'.ownsRow w.heap.size 3 1 v (common a b).length (cIs (common a b))) ∧ Ext w w' := by
  have hb := Boxed.new w tIs (.slice A' b.length c')
  have hX0 : Ext w (w.alloc (.cells #[.slice A' b.length c'] tIs)) := (Ext.rfl' w).alloc _
  have HD := Lib.hid (distinct_calls a A c hl (w.alloc (.cells #[.slice A' b.length c'] tIs)) (hA.ext hX0))
  have HX0 := Lib.hid hX0
  have hdl := dst_len a
  have HB := Lib.hid hb
  have HR := Lib.hid hA'
  clear hA hA' hX0 hb
  go_enter Try.func28, Try.ntmps28
  go_wp2_with fail
  refine HD.out.mono ?_
  rintro e w1 ⟨⟨v, rfl, hown⟩, hx⟩
  have hB1 : Boxed w1 w.heap.size tIs (.slice A' b.length c') := (hx.block _ HB.out.lt).trans HB.out
  have hlow : w.heap.size < (w.alloc (.cells #[.slice A' b.length c'] tIs)).heap.size := by simp
  have hne : v.ownBlock ≠ some w.heap.size := fun e => by have := (hown.lt _ e).1; omega
  have hX1 := HX0.out.tr hx
  have hT : Tells 72 #[.pointer (some ⟨w.heap.size, 0, none⟩)] (fun x => !b.contains x) w1 v.ownBlock := fun W hW x => by
    refine common1_calls b hl' A' c' w.heap.size x W (hB1.kept hW (Ne.symm hne)) (HR.out.ext (hX1.grown hW hX1.size (fun k hk => by have := (hown.lt k hk).1; omega)))
  have HF := Lib.hid (delFunc_calls 72 #[.pointer (some ⟨w.heap.size, 0, none⟩)] (enters_of Try.func72 (by kernel_rfl) rfl) (fun x => !b.contains x) (dst a) _ v w1 hown (by omega) hT)
  have HX1 := Lib.hid hX1
  have HLT := Lib.hid (fun k hk => (hown.lt k hk).1)
  clear hx hown hT hB1 hne HB HD hlow hX1
  go_wp2_with fail
  refine HF.out.mono ?_
  rintro e w2 ⟨⟨v', rfl, hown⟩, hg⟩
  have HO := Lib.hid hown
  have HX2 := Lib.hid (show Ext w w2 from HX1.out.grown hg HX1.out.size (fun k hk => by have := HLT.out k hk; simp at this; omega))
  clear hown hg HF
  go_wp2
  go_ret
  refine ⟨⟨_, rfl, ?_⟩, HX2.out⟩
  have h := HO.out
  simp only [Bool.not_not] at h
  refine ⟨h.1, ?_⟩
  rcases h.2 with h2 | ⟨g, cap, cur, h2, h3, h4⟩
  · exact .inl h2
  · exact .inr ⟨g, cap, cur, h2, by simp at h3; omega, h4⟩
end Go.Proofs.Ytifanmggfoicfaa
