/- The walk of the law QuorumAny. -/
import Derived.Test.YtifanmggfoicfaaQKn
set_option linter.unusedVariables false
namespace Go.Proofs.Ytifanmggfoicfaa
open Go.RowKit Go.Shelf Go.Sort
theorem alike_rfl (l : List Int) : alikeB l l = true := by simp [alikeB]
theorem quorumAny_long (f : Int) (a : List Int) (A : Option Addr) (c : Nat) (b : List Int) (B : Option Addr) (d : Nat) (h : 60 < a.length ∨ 60 < b.length) (w : World) (ha : a.length ≤ maxLen) (hb : b.length ≤ maxLen) :
    Calls Try.prog 5 #[.int .i64 f, .slice A a.length c, .slice B b.length d] w fun e w' => e = .returned (.bool true) ∧ Ext w w' := by
  have HK := Lib.hid (known6_calls w)
  unfold maxLen at ha hb
  by_cases h1 : 60 < a.length
  · go_enter Try.func5, Try.ntmps5
    go_wp2_with fail
    refine HK.out.mono ?_
    rintro e w1 ⟨rfl, hx⟩
    have HX := Lib.hid hx
    clear hx
    go_wp2
    go_ret
    exact ⟨rfl, HX.out⟩
  · have h2 : 60 < b.length := by omega
    go_enter Try.func5, Try.ntmps5
    go_wp2_with fail
    refine HK.out.mono ?_
    rintro e w1 ⟨rfl, hx⟩
    have HX := Lib.hid hx
    clear hx
    go_wp2
    go_ret
    exact ⟨rfl, HX.out⟩
set_option maxRecDepth 100000 in
set_option maxHeartbeats 4000000 in
theorem quorumAny_0 (f : Int) (a : List Int) (A : Option Addr) (c : Nat) (b : List Int) (B : Option Addr) (d : Nat) (h1 : a.length ≤ 60) (h2 : b.length ≤ 60) (hf : confC f = 0) (w : World) (hA : Rd w A (cIs a)) (hB : Rd w B (cIs b)) :
    Calls Try.prog 5 #[.int .i64 f, .slice A a.length c, .slice B b.length d] w fun e w' => e = .returned (.bool true) ∧ Ext w w' := by
  have HK := Lib.hid (known6_calls w)
  have HCR := Lib.hid (rcheck_calls f)
  have HC := Lib.hid (check_calls f)
  rw [hf] at HCR HC
  have HD := Lib.hid (fun W hA => distinct_calls a A c (by omega) W hA)
  have HRD := Lib.hid (fun W hA => rdistinct_calls a A c (by omega) W hA)
  have HI := Lib.hid (fun W (A2 B2 : Option Addr) (c2 d2 : Nat) (hA2 : Rd W A2 (cIs (rdst a))) (hB2 : Rd W B2 (cIs (rdst a))) => ints_calls (rdst a) A2 c2 (rdst a) B2 d2 (by have := rdst_len a; omega) (by have := rdst_len a; omega) W hA2 hB2)
  rw [alike_rfl] at HI
  have HCO := Lib.hid (fun W hA hB => common_calls a A c b B d (by omega) (by omega) W hA hB)
  have HRC := Lib.hid (fun W hA hB => rcommon_calls a A c b B d (by omega) (by omega) W hA hB)
  have hcl : (common a b).length ≤ 60 := by
    have h3 := dst_len a
    have h4 := List.length_filter_le (fun x => b.contains x) (dst a)
    unfold common
    omega
  have HI2 := Lib.hid (fun W (A2 B2 : Option Addr) (c2 d2 : Nat) (hA2 : Rd W A2 (cIs (common a b))) (hB2 : Rd W B2 (cIs (common a b))) => ints_calls (common a b) A2 c2 (common a b) B2 d2 (by omega) (by omega) W hA2 hB2)
  rw [alike_rfl] at HI2
  rw [dst_rdst] at HD
  rw [← common_ref] at HRC
  have HA := Lib.hid hA
  have HB := Lib.hid hB
  have hf2 : 1 ≤ f ∧ f ≤ 3 := by
    rcases confC_cases f with h | h | h <;> omega
  obtain ⟨hf3, hf4⟩ := hf2
  have HN := Lib.hid (n_calls f (by omega) (by omega))
  have HRN := Lib.hid (rn_calls f (by omega) (by omega))
  have HQ := Lib.hid (q_calls f (by omega) (by omega))
  have HRQ := Lib.hid (rq_calls f (by omega) (by omega))
  have HE := Lib.hid (fun W hA => enough_calls f (by omega) (by omega) a A c (by omega) W hA)
  have HRE := Lib.hid (fun W hA => renough_calls f (by omega) (by omega) a A c (by omega) W hA)
  rw [enough_ref] at HE
  generalize renoughB f a = q at *
  clear hA hB hf hcl
  generalize rdst a = ra at *
  generalize common a b = ca at *
  go_enter Try.func5, Try.ntmps5
  go_wp2_with fail
  refine HK.out.mono ?_
  rintro e w1 ⟨rfl, hx⟩
  have HX1 := Lib.hid hx
  clear hx HK
  go_wp2_with fail
  refine (HCR.out _).mono ?_
  rintro e w2 ⟨rfl, rfl⟩
  have c0 := (Boxed.new w1 tConf (.int .i64 f)).cell
  have HX1b := Lib.hid (HX1.out.alloc (.cells #[.int .i64 f] tConf))
  go_wp2_with fail
  refine (HC.out _).mono ?_
  rintro e w2 ⟨rfl, hx⟩
  have HB2 := Lib.hid (box_ext (Boxed.new w1 tConf (.int .i64 f)) hx)
  have HX2 := Lib.hid (HX1b.out.tr hx)
  clear hx c0 HX1 HX1b
  have c0 := HB2.out.cell
  go_wp2_with fail
  refine (HD.out _ (HA.out.ext HX2.out)).mono ?_
  rintro e w3 ⟨⟨v3, rfl, hown⟩, hx⟩
  obtain ⟨A3, cc3, rfl, hr⟩ := rd_of_own hown
  have HX3 := Lib.hid (HX2.out.tr hx)
  have HB3 := Lib.hid (box_ext HB2.out hx)
  have R3 := Lib.hid hr
  clear hown hr
  clear hx c0 HX2 HB2
  have c0 := HB3.out.cell
  go_wp2_with fail
  refine (HRD.out _ (HA.out.ext HX3.out)).mono ?_
  rintro e w4 ⟨⟨v4, rfl, hown⟩, hx⟩
  obtain ⟨A4, cc4, rfl, hr⟩ := rd_of_own hown
  have HX4 := Lib.hid (HX3.out.tr hx)
  have HB4 := Lib.hid (box_ext HB3.out hx)
  have R3_4 := Lib.hid (R3.out.ext hx)
  clear R3
  have R4 := Lib.hid hr
  clear hown hr
  clear hx c0 HX3 HB3
  have c0 := HB4.out.cell
  go_wp2_with fail
  refine (HI.out _ _ _ _ _ R3_4.out R4.out).mono ?_
  rintro e w5 ⟨rfl, hx⟩
  have HX5 := Lib.hid (HX4.out.tr hx)
  have HB5 := Lib.hid (box_ext HB4.out hx)
  have R3_5 := Lib.hid (R3_4.out.ext hx)
  clear R3_4
  have R4_5 := Lib.hid (R4.out.ext hx)
  clear R4
  clear hx c0 HX4 HB4
  have c0 := HB5.out.cell
  clear R3_5 R4_5
  go_wp2_with fail
  refine (HCO.out _ (HA.out.ext HX5.out) (HB.out.ext HX5.out)).mono ?_
  rintro e w6 ⟨⟨v6, rfl, hown⟩, hx⟩
  obtain ⟨A6, cc6, rfl, hr⟩ := rd_of_own hown
  have HX6 := Lib.hid (HX5.out.tr hx)
  have HB6 := Lib.hid (box_ext HB5.out hx)
  have R6 := Lib.hid hr
  clear hown hr
  clear hx c0 HX5 HB5
  have c0 := HB6.out.cell
  go_wp2_with fail
  refine (HRC.out _ (HA.out.ext HX6.out) (HB.out.ext HX6.out)).mono ?_
  rintro e w7 ⟨⟨v7, rfl, hown⟩, hx⟩
  obtain ⟨A7, cc7, rfl, hr⟩ := rd_of_own hown
  have HX7 := Lib.hid (HX6.out.tr hx)
  have HB7 := Lib.hid (box_ext HB6.out hx)
  have R6_7 := Lib.hid (R6.out.ext hx)
  clear R6
  have R7 := Lib.hid hr
  clear hown hr
  clear hx c0 HX6 HB6
  have c0 := HB7.out.cell
  go_wp2_with fail
  refine (HI2.out _ _ _ _ _ R6_7.out R7.out).mono ?_
  rintro e w8 ⟨rfl, hx⟩
  have HX8 := Lib.hid (HX7.out.tr hx)
  have HB8 := Lib.hid (box_ext HB7.out hx)
  have R6_8 := Lib.hid (R6_7.out.ext hx)
  clear R6_7
  have R7_8 := Lib.hid (R7.out.ext hx)
  clear R7
  clear hx c0 HX7 HB7
  have c0 := HB8.out.cell
  clear R6_8 R7_8
  go_wp2_with fail
  refine (HN.out _).mono ?_
  rintro e w9 ⟨rfl, hx⟩
  have HX9 := Lib.hid (HX8.out.tr hx)
  have HB9 := Lib.hid (box_ext HB8.out hx)
  clear hx c0 HX8 HB8
  have c0 := HB9.out.cell
  go_wp2_with fail
  refine (HRN.out _).mono ?_
  rintro e w10 ⟨rfl, rfl⟩
  go_wp2_with fail
  refine (HQ.out _).mono ?_
  rintro e w10 ⟨rfl, hx⟩
  have HX10 := Lib.hid (HX9.out.tr hx)
  have HB10 := Lib.hid (box_ext HB9.out hx)
  clear hx c0 HX9 HB9
  have c0 := HB10.out.cell
  go_wp2_with fail
  refine (HRQ.out _).mono ?_
  rintro e w11 ⟨rfl, rfl⟩
  go_wp2_with fail
  refine (HE.out _ (HA.out.ext HX10.out)).mono ?_
  rintro e w11 ⟨rfl, hx⟩
  have HX11 := Lib.hid (HX10.out.tr hx)
  have HB11 := Lib.hid (box_ext HB10.out hx)
  clear hx c0 HX10 HB10
  have c0 := HB11.out.cell
  go_wp2_with fail
  refine (HRE.out _ (HA.out.ext HX11.out)).mono ?_
  rintro e w12 ⟨rfl, hx⟩
  have HX12 := Lib.hid (HX11.out.tr hx)
  have HB12 := Lib.hid (box_ext HB11.out hx)
  clear hx c0 HX11 HB11
  have c0 := HB12.out.cell
  go_wp2
  go_ret
  exact ⟨rfl, HX12.out⟩
set_option maxRecDepth 100000 in
set_option maxHeartbeats 4000000 in
theorem quorumAny_1 (f : Int) (a : List Int) (A : Option Addr) (c : Nat) (b : List Int) (B : Option Addr) (d : Nat) (h1 : a.length ≤ 60) (h2 : b.length ≤ 60) (hf : confC f = 1) (w : World) (hA : Rd w A (cIs a)) (hB : Rd w B (cIs b)) :
    Calls Try.prog 5 #[.int .i64 f, .slice A a.length c, .slice B b.length d] w fun e w' => e = .returned (.bool true) ∧ Ext w w' := by
  have HK := Lib.hid (known6_calls w)
  have HCR := Lib.hid (rcheck_calls f)
  have HC := Lib.hid (check_calls f)
  rw [hf] at HCR HC
  have HD := Lib.hid (fun W hA => distinct_calls a A c (by omega) W hA)
  have HRD := Lib.hid (fun W hA => rdistinct_calls a A c (by omega) W hA)
  have HI := Lib.hid (fun W (A2 B2 : Option Addr) (c2 d2 : Nat) (hA2 : Rd W A2 (cIs (rdst a))) (hB2 : Rd W B2 (cIs (rdst a))) => ints_calls (rdst a) A2 c2 (rdst a) B2 d2 (by have := rdst_len a; omega) (by have := rdst_len a; omega) W hA2 hB2)
  rw [alike_rfl] at HI
  have HCO := Lib.hid (fun W hA hB => common_calls a A c b B d (by omega) (by omega) W hA hB)
  have HRC := Lib.hid (fun W hA hB => rcommon_calls a A c b B d (by omega) (by omega) W hA hB)
  have hcl : (common a b).length ≤ 60 := by
    have h3 := dst_len a
    have h4 := List.length_filter_le (fun x => b.contains x) (dst a)
    unfold common
    omega
  have HI2 := Lib.hid (fun W (A2 B2 : Option Addr) (c2 d2 : Nat) (hA2 : Rd W A2 (cIs (common a b))) (hB2 : Rd W B2 (cIs (common a b))) => ints_calls (common a b) A2 c2 (common a b) B2 d2 (by omega) (by omega) W hA2 hB2)
  rw [alike_rfl] at HI2
  rw [dst_rdst] at HD
  rw [← common_ref] at HRC
  have HA := Lib.hid hA
  have HB := Lib.hid hB
  clear hA hB hf hcl
  generalize rdst a = ra at *
  generalize common a b = ca at *
  go_enter Try.func5, Try.ntmps5
  go_wp2_with fail
  refine HK.out.mono ?_
  rintro e w1 ⟨rfl, hx⟩
  have HX1 := Lib.hid hx
  clear hx HK
  go_wp2_with fail
  refine (HCR.out _).mono ?_
  rintro e w2 ⟨rfl, rfl⟩
  have c0 := (Boxed.new w1 tConf (.int .i64 f)).cell
  have HX1b := Lib.hid (HX1.out.alloc (.cells #[.int .i64 f] tConf))
  go_wp2_with fail
  refine (HC.out _).mono ?_
  rintro e w2 ⟨rfl, hx⟩
  have HB2 := Lib.hid (box_ext (Boxed.new w1 tConf (.int .i64 f)) hx)
  have HX2 := Lib.hid (HX1b.out.tr hx)
  clear hx c0 HX1 HX1b
  have c0 := HB2.out.cell
  go_wp2_with fail
  refine (HD.out _ (HA.out.ext HX2.out)).mono ?_
  rintro e w3 ⟨⟨v3, rfl, hown⟩, hx⟩
  obtain ⟨A3, cc3, rfl, hr⟩ := rd_of_own hown
  have HX3 := Lib.hid (HX2.out.tr hx)
  have HB3 := Lib.hid (box_ext HB2.out hx)
  have R3 := Lib.hid hr
  clear hown hr
  clear hx c0 HX2 HB2
  have c0 := HB3.out.cell
  go_wp2_with fail
  refine (HRD.out _ (HA.out.ext HX3.out)).mono ?_
  rintro e w4 ⟨⟨v4, rfl, hown⟩, hx⟩
  obtain ⟨A4, cc4, rfl, hr⟩ := rd_of_own hown
  have HX4 := Lib.hid (HX3.out.tr hx)
  have HB4 := Lib.hid (box_ext HB3.out hx)
  have R3_4 := Lib.hid (R3.out.ext hx)
  clear R3
  have R4 := Lib.hid hr
  clear hown hr
  clear hx c0 HX3 HB3
  have c0 := HB4.out.cell
  go_wp2_with fail
  refine (HI.out _ _ _ _ _ R3_4.out R4.out).mono ?_
  rintro e w5 ⟨rfl, hx⟩
  have HX5 := Lib.hid (HX4.out.tr hx)
  have HB5 := Lib.hid (box_ext HB4.out hx)
  have R3_5 := Lib.hid (R3_4.out.ext hx)
  clear R3_4
  have R4_5 := Lib.hid (R4.out.ext hx)
  clear R4
  clear hx c0 HX4 HB4
  have c0 := HB5.out.cell
  clear R3_5 R4_5
  go_wp2_with fail
  refine (HCO.out _ (HA.out.ext HX5.out) (HB.out.ext HX5.out)).mono ?_
  rintro e w6 ⟨⟨v6, rfl, hown⟩, hx⟩
  obtain ⟨A6, cc6, rfl, hr⟩ := rd_of_own hown
  have HX6 := Lib.hid (HX5.out.tr hx)
  have HB6 := Lib.hid (box_ext HB5.out hx)
  have R6 := Lib.hid hr
  clear hown hr
  clear hx c0 HX5 HB5
  have c0 := HB6.out.cell
  go_wp2_with fail
  refine (HRC.out _ (HA.out.ext HX6.out) (HB.out.ext HX6.out)).mono ?_
  rintro e w7 ⟨⟨v7, rfl, hown⟩, hx⟩
  obtain ⟨A7, cc7, rfl, hr⟩ := rd_of_own hown
  have HX7 := Lib.hid (HX6.out.tr hx)
  have HB7 := Lib.hid (box_ext HB6.out hx)
  have R6_7 := Lib.hid (R6.out.ext hx)
  clear R6
  have R7 := Lib.hid hr
  clear hown hr
  clear hx c0 HX6 HB6
  have c0 := HB7.out.cell
  go_wp2_with fail
  refine (HI2.out _ _ _ _ _ R6_7.out R7.out).mono ?_
  rintro e w8 ⟨rfl, hx⟩
  have HX8 := Lib.hid (HX7.out.tr hx)
  have HB8 := Lib.hid (box_ext HB7.out hx)
  have R6_8 := Lib.hid (R6_7.out.ext hx)
  clear R6_7
  have R7_8 := Lib.hid (R7.out.ext hx)
  clear R7
  clear hx c0 HX7 HB7
  have c0 := HB8.out.cell
  clear R6_8 R7_8
  go_wp2
  go_ret
  exact ⟨rfl, HX8.out⟩
theorem quorumAny_walk' {w : World} (f : Int) (wf : (Lit.int .i64 f).wf = true) (A : Option Addr) (a : List Int) (c : Nat) (hA : Rd w A (a.map (Value.int .i64))) (wa : ∀ n ∈ a, (Lit.int .i64 n).wf = true) (ha : a.length ≤ maxLen) (B : Option Addr) (b : List Int) (d : Nat) (hB : Rd w B (b.map (Value.int .i64))) (wb : ∀ n ∈ b, (Lit.int .i64 n).wf = true) (hb : b.length ≤ maxLen) :
    Calls Try.prog 5 #[.int .i64 f, .slice A a.length c, .slice B b.length d] w fun e w' => e = .returned (.bool true) ∧ Ext w w' := by
  by_cases h : 60 < a.length ∨ 60 < b.length
  · exact quorumAny_long f a A c b B d h w ha hb
  · rcases confC_cases f with ⟨_, hf⟩ | ⟨_, _, hf⟩ | ⟨_, _, hf⟩
    · exact quorumAny_1 f a A c b B d (by omega) (by omega) hf w hA hB
    · exact quorumAny_1 f a A c b B d (by omega) (by omega) hf w hA hB
    · exact quorumAny_0 f a A c b B d (by omega) (by omega) hf w hA hB
end Go.Proofs.Ytifanmggfoicfaa
