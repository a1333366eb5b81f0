/- The law MsgWords. -/
import Derived.Test.YtifanmggfoicfaaMKn
import Derived.Lib.SlicesS
set_option linter.unusedVariables false
set_option linter.unusedSimpArgs false
namespace Go.Proofs.Ytifanmggfoicfaa
open Go.RowKit
theorem word_ne1 (o : Int) (h : o ≠ 1) : (⟨(wordM o).toArray⟩ : ByteArray) ≠ ⟨#[97, 115, 107]⟩ := by
  intro hc
  have hd : wordM o = [97, 115, 107] := by
    have := congrArg (fun b : ByteArray => b.data.toList) hc
    simpa using this
  unfold wordM at hd
  repeat (split at hd <;> first | (exact absurd ‹_› h) | (revert hd; decide) | skip)
set_option maxRecDepth 100000 in
set_option maxHeartbeats 2000000 in
theorem words_1 (o : Int) (w : World) : Calls Try.prog 4 #[.int .i64 1, .int .i64 o] w fun e w' => e = .returned (.bool true) ∧ Ext w w' := by
  have HK := Lib.hid (known22_calls w)
  have hw : ∀ W, Calls Try.prog 21 #[.int .i64 1] W fun e w' => e = .returned (.string ⟨#[97, 115, 107]⟩) ∧ W = w' := fun W => word_calls 1 W
  have HW := Lib.hid hw
  clear hw
  by_cases h : o = 1
  · subst h
    go_enter Try.func4, Try.ntmps4
    go_wp2_with fail
    refine HK.out.mono ?_
    rintro e w1 ⟨rfl, hx⟩
    have HX := Lib.hid hx
    clear hx
    go_wp2_with fail
    refine (HW.out _).mono ?_
    rintro e w2 ⟨rfl, rfl⟩
    go_wp2_with fail
    refine (HW.out _).mono ?_
    rintro e w3 ⟨rfl, rfl⟩
    go_wp2
    go_ret
    exact ⟨ret_bool (by first | rfl | (simp; done)), HX.out.alloc _⟩
  · have h2 : (o == 1) = false := by simp [h]
    obtain ⟨X, hX, h1⟩ : ∃ X : ByteArray, X = ⟨(wordM o).toArray⟩ ∧ X ≠ ⟨#[97, 115, 107]⟩ := ⟨_, rfl, word_ne1 o h⟩
    have ho := word_calls o
    rw [← hX] at ho
    have HO := Lib.hid ho
    have h3 : ¬ X.toList = [97, 115, 107] := by
      have := (Lib.bytes_beq_false_iff X ⟨#[97, 115, 107]⟩).2 h1
      simpa using this
    clear hX ho
    clear h
    go_enter Try.func4, Try.ntmps4
    go_wp2_with fail
    refine HK.out.mono ?_
    rintro e w1 ⟨rfl, hx⟩
    have HX := Lib.hid hx
    clear hx
    go_wp2_with fail
    refine (HW.out _).mono ?_
    rintro e w2 ⟨rfl, rfl⟩
    go_wp2_with fail
    refine (HO.out _).mono ?_
    rintro e w3 ⟨rfl, rfl⟩
    go_wp2
    go_ret
    exact ⟨ret_bool (by simp [h3]), HX.out.alloc _⟩
theorem word_ne2 (o : Int) (h : o ≠ 2) : (⟨(wordM o).toArray⟩ : ByteArray) ≠ ⟨#[115, 116, 97, 109, 112, 101, 100]⟩ := by
  intro hc
  have hd : wordM o = [115, 116, 97, 109, 112, 101, 100] := by
    have := congrArg (fun b : ByteArray => b.data.toList) hc
    simpa using this
  unfold wordM at hd
  repeat (split at hd <;> first | (exact absurd ‹_› h) | (revert hd; decide) | skip)
set_option maxRecDepth 100000 in
set_option maxHeartbeats 2000000 in
theorem words_2 (o : Int) (w : World) : Calls Try.prog 4 #[.int .i64 2, .int .i64 o] w fun e w' => e = .returned (.bool true) ∧ Ext w w' := by
  have HK := Lib.hid (known22_calls w)
  have hw : ∀ W, Calls Try.prog 21 #[.int .i64 2] W fun e w' => e = .returned (.string ⟨#[115, 116, 97, 109, 112, 101, 100]⟩) ∧ W = w' := fun W => word_calls 2 W
  have HW := Lib.hid hw
  clear hw
  by_cases h : o = 2
  · subst h
    go_enter Try.func4, Try.ntmps4
    go_wp2_with fail
    refine HK.out.mono ?_
    rintro e w1 ⟨rfl, hx⟩
    have HX := Lib.hid hx
    clear hx
    go_wp2_with fail
    refine (HW.out _).mono ?_
    rintro e w2 ⟨rfl, rfl⟩
    go_wp2_with fail
    refine (HW.out _).mono ?_
    rintro e w3 ⟨rfl, rfl⟩
    go_wp2
    go_ret
    exact ⟨ret_bool (by first | rfl | (simp; done)), HX.out.alloc _⟩
  · have h2 : (o == 2) = false := by simp [h]
    obtain ⟨X, hX, h1⟩ : ∃ X : ByteArray, X = ⟨(wordM o).toArray⟩ ∧ X ≠ ⟨#[115, 116, 97, 109, 112, 101, 100]⟩ := ⟨_, rfl, word_ne2 o h⟩
    have ho := word_calls o
    rw [← hX] at ho
    have HO := Lib.hid ho
    have h3 : ¬ X.toList = [115, 116, 97, 109, 112, 101, 100] := by
      have := (Lib.bytes_beq_false_iff X ⟨#[115, 116, 97, 109, 112, 101, 100]⟩).2 h1
      simpa using this
    clear hX ho
    clear h
    go_enter Try.func4, Try.ntmps4
    go_wp2_with fail
    refine HK.out.mono ?_
    rintro e w1 ⟨rfl, hx⟩
    have HX := Lib.hid hx
    clear hx
    go_wp2_with fail
    refine (HW.out _).mono ?_
    rintro e w2 ⟨rfl, rfl⟩
    go_wp2_with fail
    refine (HO.out _).mono ?_
    rintro e w3 ⟨rfl, rfl⟩
    go_wp2
    go_ret
    exact ⟨ret_bool (by simp [h3]), HX.out.alloc _⟩
theorem word_ne3 (o : Int) (h : o ≠ 3) : (⟨(wordM o).toArray⟩ : ByteArray) ≠ ⟨#[99, 101, 114, 116, 105, 102, 121]⟩ := by
  intro hc
  have hd : wordM o = [99, 101, 114, 116, 105, 102, 121] := by
    have := congrArg (fun b : ByteArray => b.data.toList) hc
    simpa using this
  unfold wordM at hd
  repeat (split at hd <;> first | (exact absurd ‹_› h) | (revert hd; decide) | skip)
set_option maxRecDepth 100000 in
set_option maxHeartbeats 2000000 in
theorem words_3 (o : Int) (w : World) : Calls Try.prog 4 #[.int .i64 3, .int .i64 o] w fun e w' => e = .returned (.bool true) ∧ Ext w w' := by
  have HK := Lib.hid (known22_calls w)
  have hw : ∀ W, Calls Try.prog 21 #[.int .i64 3] W fun e w' => e = .returned (.string ⟨#[99, 101, 114, 116, 105, 102, 121]⟩) ∧ W = w' := fun W => word_calls 3 W
  have HW := Lib.hid hw
  clear hw
  by_cases h : o = 3
  · subst h
    go_enter Try.func4, Try.ntmps4
    go_wp2_with fail
    refine HK.out.mono ?_
    rintro e w1 ⟨rfl, hx⟩
    have HX := Lib.hid hx
    clear hx
    go_wp2_with fail
    refine (HW.out _).mono ?_
    rintro e w2 ⟨rfl, rfl⟩
    go_wp2_with fail
    refine (HW.out _).mono ?_
    rintro e w3 ⟨rfl, rfl⟩
    go_wp2
    go_ret
    exact ⟨ret_bool (by first | rfl | (simp; done)), HX.out.alloc _⟩
  · have h2 : (o == 3) = false := by simp [h]
    obtain ⟨X, hX, h1⟩ : ∃ X : ByteArray, X = ⟨(wordM o).toArray⟩ ∧ X ≠ ⟨#[99, 101, 114, 116, 105, 102, 121]⟩ := ⟨_, rfl, word_ne3 o h⟩
    have ho := word_calls o
    rw [← hX] at ho
    have HO := Lib.hid ho
    have h3 : ¬ X.toList = [99, 101, 114, 116, 105, 102, 121] := by
      have := (Lib.bytes_beq_false_iff X ⟨#[99, 101, 114, 116, 105, 102, 121]⟩).2 h1
      simpa using this
    clear hX ho
    clear h
    go_enter Try.func4, Try.ntmps4
    go_wp2_with fail
    refine HK.out.mono ?_
    rintro e w1 ⟨rfl, hx⟩
    have HX := Lib.hid hx
    clear hx
    go_wp2_with fail
    refine (HW.out _).mono ?_
    rintro e w2 ⟨rfl, rfl⟩
    go_wp2_with fail
    refine (HO.out _).mono ?_
    rintro e w3 ⟨rfl, rfl⟩
    go_wp2
    go_ret
    exact ⟨ret_bool (by simp [h3]), HX.out.alloc _⟩
theorem word_ne4 (o : Int) (h : o ≠ 4) : (⟨(wordM o).toArray⟩ : ByteArray) ≠ ⟨#[97, 99, 107, 101, 100]⟩ := by
  intro hc
  have hd : wordM o = [97, 99, 107, 101, 100] := by
    have := congrArg (fun b : ByteArray => b.data.toList) hc
    simpa using this
  unfold wordM at hd
  repeat (split at hd <;> first | (exact absurd ‹_› h) | (revert hd; decide) | skip)
set_option maxRecDepth 100000 in
set_option maxHeartbeats 2000000 in
theorem words_4 (o : Int) (w : World) : Calls Try.prog 4 #[.int .i64 4, .int .i64 o] w fun e w' => e = .returned (.bool true) ∧ Ext w w' := by
  have HK := Lib.hid (known22_calls w)
  have hw : ∀ W, Calls Try.prog 21 #[.int .i64 4] W fun e w' => e = .returned (.string ⟨#[97, 99, 107, 101, 100]⟩) ∧ W = w' := fun W => word_calls 4 W
  have HW := Lib.hid hw
  clear hw
  by_cases h : o = 4
  · subst h
    go_enter Try.func4, Try.ntmps4
    go_wp2_with fail
    refine HK.out.mono ?_
    rintro e w1 ⟨rfl, hx⟩
    have HX := Lib.hid hx
    clear hx
    go_wp2_with fail
    refine (HW.out _).mono ?_
    rintro e w2 ⟨rfl, rfl⟩
    go_wp2_with fail
    refine (HW.out _).mono ?_
    rintro e w3 ⟨rfl, rfl⟩
    go_wp2
    go_ret
    exact ⟨ret_bool (by first | rfl | (simp; done)), HX.out.alloc _⟩
  · have h2 : (o == 4) = false := by simp [h]
    obtain ⟨X, hX, h1⟩ : ∃ X : ByteArray, X = ⟨(wordM o).toArray⟩ ∧ X ≠ ⟨#[97, 99, 107, 101, 100]⟩ := ⟨_, rfl, word_ne4 o h⟩
    have ho := word_calls o
    rw [← hX] at ho
    have HO := Lib.hid ho
    have h3 : ¬ X.toList = [97, 99, 107, 101, 100] := by
      have := (Lib.bytes_beq_false_iff X ⟨#[97, 99, 107, 101, 100]⟩).2 h1
      simpa using this
    clear hX ho
    clear h
    go_enter Try.func4, Try.ntmps4
    go_wp2_with fail
    refine HK.out.mono ?_
    rintro e w1 ⟨rfl, hx⟩
    have HX := Lib.hid hx
    clear hx
    go_wp2_with fail
    refine (HW.out _).mono ?_
    rintro e w2 ⟨rfl, rfl⟩
    go_wp2_with fail
    refine (HO.out _).mono ?_
    rintro e w3 ⟨rfl, rfl⟩
    go_wp2
    go_ret
    exact ⟨ret_bool (by simp [h3]), HX.out.alloc _⟩
theorem word_ne5 (o : Int) (h : o ≠ 5) : (⟨(wordM o).toArray⟩ : ByteArray) ≠ ⟨#[99, 108, 111, 115, 101]⟩ := by
  intro hc
  have hd : wordM o = [99, 108, 111, 115, 101] := by
    have := congrArg (fun b : ByteArray => b.data.toList) hc
    simpa using this
  unfold wordM at hd
  repeat (split at hd <;> first | (exact absurd ‹_› h) | (revert hd; decide) | skip)
set_option maxRecDepth 100000 in
set_option maxHeartbeats 2000000 in
theorem words_5 (o : Int) (w : World) : Calls Try.prog 4 #[.int .i64 5, .int .i64 o] w fun e w' => e = .returned (.bool true) ∧ Ext w w' := by
  have HK := Lib.hid (known22_calls w)
  have hw : ∀ W, Calls Try.prog 21 #[.int .i64 5] W fun e w' => e = .returned (.string ⟨#[99, 108, 111, 115, 101]⟩) ∧ W = w' := fun W => word_calls 5 W
  have HW := Lib.hid hw
  clear hw
  by_cases h : o = 5
  · subst h
    go_enter Try.func4, Try.ntmps4
    go_wp2_with fail
    refine HK.out.mono ?_
    rintro e w1 ⟨rfl, hx⟩
    have HX := Lib.hid hx
    clear hx
    go_wp2_with fail
    refine (HW.out _).mono ?_
    rintro e w2 ⟨rfl, rfl⟩
    go_wp2_with fail
    refine (HW.out _).mono ?_
    rintro e w3 ⟨rfl, rfl⟩
    go_wp2
    go_ret
    exact ⟨ret_bool (by first | rfl | (simp; done)), HX.out.alloc _⟩
  · have h2 : (o == 5) = false := by simp [h]
    obtain ⟨X, hX, h1⟩ : ∃ X : ByteArray, X = ⟨(wordM o).toArray⟩ ∧ X ≠ ⟨#[99, 108, 111, 115, 101]⟩ := ⟨_, rfl, word_ne5 o h⟩
    have ho := word_calls o
    rw [← hX] at ho
    have HO := Lib.hid ho
    have h3 : ¬ X.toList = [99, 108, 111, 115, 101] := by
      have := (Lib.bytes_beq_false_iff X ⟨#[99, 108, 111, 115, 101]⟩).2 h1
      simpa using this
    clear hX ho
    clear h
    go_enter Try.func4, Try.ntmps4
    go_wp2_with fail
    refine HK.out.mono ?_
    rintro e w1 ⟨rfl, hx⟩
    have HX := Lib.hid hx
    clear hx
    go_wp2_with fail
    refine (HW.out _).mono ?_
    rintro e w2 ⟨rfl, rfl⟩
    go_wp2_with fail
    refine (HO.out _).mono ?_
    rintro e w3 ⟨rfl, rfl⟩
    go_wp2
    go_ret
    exact ⟨ret_bool (by simp [h3]), HX.out.alloc _⟩
theorem word_ne6 (o : Int) (h : o ≠ 6) : (⟨(wordM o).toArray⟩ : ByteArray) ≠ ⟨#[99, 108, 111, 115, 101, 100]⟩ := by
  intro hc
  have hd : wordM o = [99, 108, 111, 115, 101, 100] := by
    have := congrArg (fun b : ByteArray => b.data.toList) hc
    simpa using this
  unfold wordM at hd
  repeat (split at hd <;> first | (exact absurd ‹_› h) | (revert hd; decide) | skip)
set_option maxRecDepth 100000 in
set_option maxHeartbeats 2000000 in
theorem words_6 (o : Int) (w : World) : Calls Try.prog 4 #[.int .i64 6, .int .i64 o] w fun e w' => e = .returned (.bool true) ∧ Ext w w' := by
  have HK := Lib.hid (known22_calls w)
  have hw : ∀ W, Calls Try.prog 21 #[.int .i64 6] W fun e w' => e = .returned (.string ⟨#[99, 108, 111, 115, 101, 100]⟩) ∧ W = w' := fun W => word_calls 6 W
  have HW := Lib.hid hw
  clear hw
  by_cases h : o = 6
  · subst h
    go_enter Try.func4, Try.ntmps4
    go_wp2_with fail
    refine HK.out.mono ?_
    rintro e w1 ⟨rfl, hx⟩
    have HX := Lib.hid hx
    clear hx
    go_wp2_with fail
    refine (HW.out _).mono ?_
    rintro e w2 ⟨rfl, rfl⟩
    go_wp2_with fail
    refine (HW.out _).mono ?_
    rintro e w3 ⟨rfl, rfl⟩
    go_wp2
    go_ret
    exact ⟨ret_bool (by first | rfl | (simp; done)), HX.out.alloc _⟩
  · have h2 : (o == 6) = false := by simp [h]
    obtain ⟨X, hX, h1⟩ : ∃ X : ByteArray, X = ⟨(wordM o).toArray⟩ ∧ X ≠ ⟨#[99, 108, 111, 115, 101, 100]⟩ := ⟨_, rfl, word_ne6 o h⟩
    have ho := word_calls o
    rw [← hX] at ho
    have HO := Lib.hid ho
    have h3 : ¬ X.toList = [99, 108, 111, 115, 101, 100] := by
      have := (Lib.bytes_beq_false_iff X ⟨#[99, 108, 111, 115, 101, 100]⟩).2 h1
      simpa using this
    clear hX ho
    clear h
    go_enter Try.func4, Try.ntmps4
    go_wp2_with fail
    refine HK.out.mono ?_
    rintro e w1 ⟨rfl, hx⟩
    have HX := Lib.hid hx
    clear hx
    go_wp2_with fail
    refine (HW.out _).mono ?_
    rintro e w2 ⟨rfl, rfl⟩
    go_wp2_with fail
    refine (HO.out _).mono ?_
    rintro e w3 ⟨rfl, rfl⟩
    go_wp2
    go_ret
    exact ⟨ret_bool (by simp [h3]), HX.out.alloc _⟩
theorem word_ne7 (o : Int) (h : o ≠ 7) : (⟨(wordM o).toArray⟩ : ByteArray) ≠ ⟨#[112, 114, 111, 112, 111, 115, 101]⟩ := by
  intro hc
  have hd : wordM o = [112, 114, 111, 112, 111, 115, 101] := by
    have := congrArg (fun b : ByteArray => b.data.toList) hc
    simpa using this
  unfold wordM at hd
  repeat (split at hd <;> first | (exact absurd ‹_› h) | (revert hd; decide) | skip)
set_option maxRecDepth 100000 in
set_option maxHeartbeats 2000000 in
theorem words_7 (o : Int) (w : World) : Calls Try.prog 4 #[.int .i64 7, .int .i64 o] w fun e w' => e = .returned (.bool true) ∧ Ext w w' := by
  have HK := Lib.hid (known22_calls w)
  have hw : ∀ W, Calls Try.prog 21 #[.int .i64 7] W fun e w' => e = .returned (.string ⟨#[112, 114, 111, 112, 111, 115, 101]⟩) ∧ W = w' := fun W => word_calls 7 W
  have HW := Lib.hid hw
  clear hw
  by_cases h : o = 7
  · subst h
    go_enter Try.func4, Try.ntmps4
    go_wp2_with fail
    refine HK.out.mono ?_
    rintro e w1 ⟨rfl, hx⟩
    have HX := Lib.hid hx
    clear hx
    go_wp2_with fail
    refine (HW.out _).mono ?_
    rintro e w2 ⟨rfl, rfl⟩
    go_wp2_with fail
    refine (HW.out _).mono ?_
    rintro e w3 ⟨rfl, rfl⟩
    go_wp2
    go_ret
    exact ⟨ret_bool (by first | rfl | (simp; done)), HX.out.alloc _⟩
  · have h2 : (o == 7) = false := by simp [h]
    obtain ⟨X, hX, h1⟩ : ∃ X : ByteArray, X = ⟨(wordM o).toArray⟩ ∧ X ≠ ⟨#[112, 114, 111, 112, 111, 115, 101]⟩ := ⟨_, rfl, word_ne7 o h⟩
    have ho := word_calls o
    rw [← hX] at ho
    have HO := Lib.hid ho
    have h3 : ¬ X.toList = [112, 114, 111, 112, 111, 115, 101] := by
      have := (Lib.bytes_beq_false_iff X ⟨#[112, 114, 111, 112, 111, 115, 101]⟩).2 h1
      simpa using this
    clear hX ho
    clear h
    go_enter Try.func4, Try.ntmps4
    go_wp2_with fail
    refine HK.out.mono ?_
    rintro e w1 ⟨rfl, hx⟩
    have HX := Lib.hid hx
    clear hx
    go_wp2_with fail
    refine (HW.out _).mono ?_
    rintro e w2 ⟨rfl, rfl⟩
    go_wp2_with fail
    refine (HO.out _).mono ?_
    rintro e w3 ⟨rfl, rfl⟩
    go_wp2
    go_ret
    exact ⟨ret_bool (by simp [h3]), HX.out.alloc _⟩
theorem word_ne8 (o : Int) (h : o ≠ 8) : (⟨(wordM o).toArray⟩ : ByteArray) ≠ ⟨#[118, 111, 116, 101, 100]⟩ := by
  intro hc
  have hd : wordM o = [118, 111, 116, 101, 100] := by
    have := congrArg (fun b : ByteArray => b.data.toList) hc
    simpa using this
  unfold wordM at hd
  repeat (split at hd <;> first | (exact absurd ‹_› h) | (revert hd; decide) | skip)
set_option maxRecDepth 100000 in
set_option maxHeartbeats 2000000 in
theorem words_8 (o : Int) (w : World) : Calls Try.prog 4 #[.int .i64 8, .int .i64 o] w fun e w' => e = .returned (.bool true) ∧ Ext w w' := by
  have HK := Lib.hid (known22_calls w)
  have hw : ∀ W, Calls Try.prog 21 #[.int .i64 8] W fun e w' => e = .returned (.string ⟨#[118, 111, 116, 101, 100]⟩) ∧ W = w' := fun W => word_calls 8 W
  have HW := Lib.hid hw
  clear hw
  by_cases h : o = 8
  · subst h
    go_enter Try.func4, Try.ntmps4
    go_wp2_with fail
    refine HK.out.mono ?_
    rintro e w1 ⟨rfl, hx⟩
    have HX := Lib.hid hx
    clear hx
    go_wp2_with fail
    refine (HW.out _).mono ?_
    rintro e w2 ⟨rfl, rfl⟩
    go_wp2_with fail
    refine (HW.out _).mono ?_
    rintro e w3 ⟨rfl, rfl⟩
    go_wp2
    go_ret
    exact ⟨ret_bool (by first | rfl | (simp; done)), HX.out.alloc _⟩
  · have h2 : (o == 8) = false := by simp [h]
    obtain ⟨X, hX, h1⟩ : ∃ X : ByteArray, X = ⟨(wordM o).toArray⟩ ∧ X ≠ ⟨#[118, 111, 116, 101, 100]⟩ := ⟨_, rfl, word_ne8 o h⟩
    have ho := word_calls o
    rw [← hX] at ho
    have HO := Lib.hid ho
    have h3 : ¬ X.toList = [118, 111, 116, 101, 100] := by
      have := (Lib.bytes_beq_false_iff X ⟨#[118, 111, 116, 101, 100]⟩).2 h1
      simpa using this
    clear hX ho
    clear h
    go_enter Try.func4, Try.ntmps4
    go_wp2_with fail
    refine HK.out.mono ?_
    rintro e w1 ⟨rfl, hx⟩
    have HX := Lib.hid hx
    clear hx
    go_wp2_with fail
    refine (HW.out _).mono ?_
    rintro e w2 ⟨rfl, rfl⟩
    go_wp2_with fail
    refine (HO.out _).mono ?_
    rintro e w3 ⟨rfl, rfl⟩
    go_wp2
    go_ret
    exact ⟨ret_bool (by simp [h3]), HX.out.alloc _⟩
theorem word_ne9 (o : Int) (h : o ≠ 9) : (⟨(wordM o).toArray⟩ : ByteArray) ≠ ⟨#[110, 101, 120, 116]⟩ := by
  intro hc
  have hd : wordM o = [110, 101, 120, 116] := by
    have := congrArg (fun b : ByteArray => b.data.toList) hc
    simpa using this
  unfold wordM at hd
  repeat (split at hd <;> first | (exact absurd ‹_› h) | (revert hd; decide) | skip)
set_option maxRecDepth 100000 in
set_option maxHeartbeats 2000000 in
theorem words_9 (o : Int) (w : World) : Calls Try.prog 4 #[.int .i64 9, .int .i64 o] w fun e w' => e = .returned (.bool true) ∧ Ext w w' := by
  have HK := Lib.hid (known22_calls w)
  have hw : ∀ W, Calls Try.prog 21 #[.int .i64 9] W fun e w' => e = .returned (.string ⟨#[110, 101, 120, 116]⟩) ∧ W = w' := fun W => word_calls 9 W
  have HW := Lib.hid hw
  clear hw
  by_cases h : o = 9
  · subst h
    go_enter Try.func4, Try.ntmps4
    go_wp2_with fail
    refine HK.out.mono ?_
    rintro e w1 ⟨rfl, hx⟩
    have HX := Lib.hid hx
    clear hx
    go_wp2_with fail
    refine (HW.out _).mono ?_
    rintro e w2 ⟨rfl, rfl⟩
    go_wp2_with fail
    refine (HW.out _).mono ?_
    rintro e w3 ⟨rfl, rfl⟩
    go_wp2
    go_ret
    exact ⟨ret_bool (by first | rfl | (simp; done)), HX.out.alloc _⟩
  · have h2 : (o == 9) = false := by simp [h]
    obtain ⟨X, hX, h1⟩ : ∃ X : ByteArray, X = ⟨(wordM o).toArray⟩ ∧ X ≠ ⟨#[110, 101, 120, 116]⟩ := ⟨_, rfl, word_ne9 o h⟩
    have ho := word_calls o
    rw [← hX] at ho
    have HO := Lib.hid ho
    have h3 : ¬ X.toList = [110, 101, 120, 116] := by
      have := (Lib.bytes_beq_false_iff X ⟨#[110, 101, 120, 116]⟩).2 h1
      simpa using this
    clear hX ho
    clear h
    go_enter Try.func4, Try.ntmps4
    go_wp2_with fail
    refine HK.out.mono ?_
    rintro e w1 ⟨rfl, hx⟩
    have HX := Lib.hid hx
    clear hx
    go_wp2_with fail
    refine (HW.out _).mono ?_
    rintro e w2 ⟨rfl, rfl⟩
    go_wp2_with fail
    refine (HO.out _).mono ?_
    rintro e w3 ⟨rfl, rfl⟩
    go_wp2
    go_ret
    exact ⟨ret_bool (by simp [h3]), HX.out.alloc _⟩
set_option maxRecDepth 100000 in
set_option maxHeartbeats 2000000 in
theorem words_none (k o : Int) (hk : ¬ (1 ≤ k ∧ k ≤ 9)) (w : World) : Calls Try.prog 4 #[.int .i64 k, .int .i64 o] w fun e w' => e = .returned (.bool true) ∧ Ext w w' := by
  have HK := Lib.hid (known22_calls w)
  have hw : ∀ W, Calls Try.prog 21 #[.int .i64 k] W fun e w' => e = .returned (.string ⟨#[]⟩) ∧ W = w' := fun W => by
    have h := word_calls k W
    rw [show wordM k = [] from by unfold wordM; repeat (rw [if_neg (by omega)])] at h
    exact h
  have HW := Lib.hid hw
  clear hw
  have hcs : decide (1 ≤ k) = false ∨ (decide (1 ≤ k) = true ∧ decide (k ≤ 9) = false) := by
    by_cases h : 1 ≤ k
    · exact .inr ⟨decide_eq_true h, decide_eq_false (by omega)⟩
    · exact .inl (decide_eq_false h)
  clear hk
  rcases hcs with h1 | ⟨h1, h2⟩
  all_goals
    go_enter Try.func4, Try.ntmps4
    go_wp2_with fail
    refine HK.out.mono ?_
    rintro e w1 ⟨rfl, hx⟩
    have HX := Lib.hid hx
    clear hx
    go_wp2_with fail
    refine (HW.out _).mono ?_
    rintro e w2 ⟨rfl, rfl⟩
    go_wp2
    go_ret
    exact ⟨ret_bool (by first | rfl | (simp; done)), HX.out.alloc _⟩
theorem msgWords_walk' {w : World} (k : Int) (wk : (Lit.int .i64 k).wf = true) (o : Int) (wo : (Lit.int .i64 o).wf = true) :
    Calls Try.prog 4 #[.int .i64 k, .int .i64 o] w fun e w' => e = .returned (.bool true) ∧ Ext w w' := by
  by_cases hin : 1 ≤ k ∧ k ≤ 9
  · have hk : k = 1 ∨ k = 2 ∨ k = 3 ∨ k = 4 ∨ k = 5 ∨ k = 6 ∨ k = 7 ∨ k = 8 ∨ k = 9 := by omega
    rcases hk with rfl | rfl | rfl | rfl | rfl | rfl | rfl | rfl | rfl
    · exact words_1 o w
    · exact words_2 o w
    · exact words_3 o w
    · exact words_4 o w
    · exact words_5 o w
    · exact words_6 o w
    · exact words_7 o w
    · exact words_8 o w
    · exact words_9 o w
  · exact words_none k o hin w
end Go.Proofs.Ytifanmggfoicfaa
