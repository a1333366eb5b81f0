/- The walk of the law CmdEdges. -/
import Derived.Test.YtgomondmogpkeaaGreatDoorWKnown9
set_option linter.unusedVariables false
namespace Go.Proofs.YtgomondmogpkeaaGreatDoor
open Go.RowKit Go.Sort
set_option maxHeartbeats 2000000 in
set_option maxRecDepth 100000 in
theorem edges_0_0 (x y : Int) (hx : 0 ≤ x ∧ x ≤ 255) (hy : 0 ≤ y ∧ y ≤ 255) (h : x.tmod 8 = 0) (g : y.tmod 3 = 0) (w : World) (hr : RngOk w) (ht : TabOk w) :
    Calls Tryz.prog 11 #[.int .u8 x, .int .u8 y] w fun e w' => e = .returned (.bool true) ∧ Ext w w' := by
  have HK := Lib.hid (known9_calls w hr ht)
  have HC := Lib.hid (show ∀ W, Calls Tryz.prog 39 #[cV (14) (0) (1) (2) (1)] W fun e w' => e = .returned (.int .i64 0) ∧ Ext W w' from fun W => by
    have hh := ccheck_calls (14) (0) (1) (2) (1) W
    rwa [show codeC (14) (0) (1) (2) (1) = 0 by kernel_rfl] at hh)
  clear hr ht
  obtain ⟨hx0, hx1⟩ := hx
  obtain ⟨hy0, hy1⟩ := hy
  go_enter Tryz.func11, Tryz.ntmps11
  go_wp2_with fail
  refine HK.out.mono ?_
  rintro e w1 ⟨rfl, hx⟩
  have HX := Lib.hid (hx.alloc (.cells #[.int .i64 (14), .int .i64 (0), .int .i64 (1), .int .i64 (2), .int .i64 (1)] 54))
  clear hx
  go_wp2_with fail
  refine (HC.out _).mono ?_
  rintro e w2 ⟨rfl, hx2⟩
  have HX2 := Lib.hid (HX.out.tr hx2)
  clear hx2
  go_wp2
  go_ret
  exact ⟨rfl, HX2.out⟩
set_option maxHeartbeats 2000000 in
set_option maxRecDepth 100000 in
theorem edges_0_1 (x y : Int) (hx : 0 ≤ x ∧ x ≤ 255) (hy : 0 ≤ y ∧ y ≤ 255) (h : x.tmod 8 = 0) (g : y.tmod 3 = 1) (w : World) (hr : RngOk w) (ht : TabOk w) :
    Calls Tryz.prog 11 #[.int .u8 x, .int .u8 y] w fun e w' => e = .returned (.bool true) ∧ Ext w w' := by
  have HK := Lib.hid (known9_calls w hr ht)
  have HC := Lib.hid (show ∀ W, Calls Tryz.prog 39 #[cV (15) (0) (1) (2) (1)] W fun e w' => e = .returned (.int .i64 0) ∧ Ext W w' from fun W => by
    have hh := ccheck_calls (15) (0) (1) (2) (1) W
    rwa [show codeC (15) (0) (1) (2) (1) = 0 by kernel_rfl] at hh)
  clear hr ht
  obtain ⟨hx0, hx1⟩ := hx
  obtain ⟨hy0, hy1⟩ := hy
  go_enter Tryz.func11, Tryz.ntmps11
  go_wp2_with fail
  refine HK.out.mono ?_
  rintro e w1 ⟨rfl, hx⟩
  have HX := Lib.hid (hx.alloc (.cells #[.int .i64 (15), .int .i64 (0), .int .i64 (1), .int .i64 (2), .int .i64 (1)] 54))
  clear hx
  go_wp2_with fail
  refine (HC.out _).mono ?_
  rintro e w2 ⟨rfl, hx2⟩
  have HX2 := Lib.hid (HX.out.tr hx2)
  clear hx2
  go_wp2
  go_ret
  exact ⟨rfl, HX2.out⟩
set_option maxHeartbeats 2000000 in
set_option maxRecDepth 100000 in
theorem edges_0_2 (x y : Int) (hx : 0 ≤ x ∧ x ≤ 255) (hy : 0 ≤ y ∧ y ≤ 255) (h : x.tmod 8 = 0) (g : y.tmod 3 = 2) (w : World) (hr : RngOk w) (ht : TabOk w) :
    Calls Tryz.prog 11 #[.int .u8 x, .int .u8 y] w fun e w' => e = .returned (.bool true) ∧ Ext w w' := by
  have HK := Lib.hid (known9_calls w hr ht)
  have HC := Lib.hid (show ∀ W, Calls Tryz.prog 39 #[cV (16) (0) (1) (2) (1)] W fun e w' => e = .returned (.int .i64 1) ∧ Ext W w' from fun W => by
    have hh := ccheck_calls (16) (0) (1) (2) (1) W
    rwa [show codeC (16) (0) (1) (2) (1) = 1 by kernel_rfl] at hh)
  clear hr ht
  obtain ⟨hx0, hx1⟩ := hx
  obtain ⟨hy0, hy1⟩ := hy
  go_enter Tryz.func11, Tryz.ntmps11
  go_wp2_with fail
  refine HK.out.mono ?_
  rintro e w1 ⟨rfl, hx⟩
  have HX := Lib.hid (hx.alloc (.cells #[.int .i64 (16), .int .i64 (0), .int .i64 (1), .int .i64 (2), .int .i64 (1)] 54))
  clear hx
  go_wp2_with fail
  refine (HC.out _).mono ?_
  rintro e w2 ⟨rfl, hx2⟩
  have HX2 := Lib.hid (HX.out.tr hx2)
  clear hx2
  go_wp2
  go_ret
  exact ⟨rfl, HX2.out⟩
set_option maxHeartbeats 2000000 in
set_option maxRecDepth 100000 in
theorem edges_1_0 (x y : Int) (hx : 0 ≤ x ∧ x ≤ 255) (hy : 0 ≤ y ∧ y ≤ 255) (h : x.tmod 8 = 1) (g : y.tmod 3 = 0) (w : World) (hr : RngOk w) (ht : TabOk w) :
    Calls Tryz.prog 11 #[.int .u8 x, .int .u8 y] w fun e w' => e = .returned (.bool true) ∧ Ext w w' := by
  have HK := Lib.hid (known9_calls w hr ht)
  have HC := Lib.hid (show ∀ W, Calls Tryz.prog 39 #[cV (-1) (0) (1) (2) (1)] W fun e w' => e = .returned (.int .i64 1) ∧ Ext W w' from fun W => by
    have hh := ccheck_calls (-1) (0) (1) (2) (1) W
    rwa [show codeC (-1) (0) (1) (2) (1) = 1 by kernel_rfl] at hh)
  clear hr ht
  obtain ⟨hx0, hx1⟩ := hx
  obtain ⟨hy0, hy1⟩ := hy
  go_enter Tryz.func11, Tryz.ntmps11
  go_wp2_with fail
  refine HK.out.mono ?_
  rintro e w1 ⟨rfl, hx⟩
  have HX := Lib.hid (hx.alloc (.cells #[.int .i64 (-1), .int .i64 (0), .int .i64 (1), .int .i64 (2), .int .i64 (1)] 54))
  clear hx
  go_wp2_with fail
  refine (HC.out _).mono ?_
  rintro e w2 ⟨rfl, hx2⟩
  have HX2 := Lib.hid (HX.out.tr hx2)
  clear hx2
  go_wp2
  go_ret
  exact ⟨rfl, HX2.out⟩
set_option maxHeartbeats 2000000 in
set_option maxRecDepth 100000 in
theorem edges_1_1 (x y : Int) (hx : 0 ≤ x ∧ x ≤ 255) (hy : 0 ≤ y ∧ y ≤ 255) (h : x.tmod 8 = 1) (g : y.tmod 3 = 1) (w : World) (hr : RngOk w) (ht : TabOk w) :
    Calls Tryz.prog 11 #[.int .u8 x, .int .u8 y] w fun e w' => e = .returned (.bool true) ∧ Ext w w' := by
  have HK := Lib.hid (known9_calls w hr ht)
  have HC := Lib.hid (show ∀ W, Calls Tryz.prog 39 #[cV (0) (0) (1) (2) (1)] W fun e w' => e = .returned (.int .i64 0) ∧ Ext W w' from fun W => by
    have hh := ccheck_calls (0) (0) (1) (2) (1) W
    rwa [show codeC (0) (0) (1) (2) (1) = 0 by kernel_rfl] at hh)
  clear hr ht
  obtain ⟨hx0, hx1⟩ := hx
  obtain ⟨hy0, hy1⟩ := hy
  go_enter Tryz.func11, Tryz.ntmps11
  go_wp2_with fail
  refine HK.out.mono ?_
  rintro e w1 ⟨rfl, hx⟩
  have HX := Lib.hid (hx.alloc (.cells #[.int .i64 (0), .int .i64 (0), .int .i64 (1), .int .i64 (2), .int .i64 (1)] 54))
  clear hx
  go_wp2_with fail
  refine (HC.out _).mono ?_
  rintro e w2 ⟨rfl, hx2⟩
  have HX2 := Lib.hid (HX.out.tr hx2)
  clear hx2
  go_wp2
  go_ret
  exact ⟨rfl, HX2.out⟩
set_option maxHeartbeats 2000000 in
set_option maxRecDepth 100000 in
theorem edges_1_2 (x y : Int) (hx : 0 ≤ x ∧ x ≤ 255) (hy : 0 ≤ y ∧ y ≤ 255) (h : x.tmod 8 = 1) (g : y.tmod 3 = 2) (w : World) (hr : RngOk w) (ht : TabOk w) :
    Calls Tryz.prog 11 #[.int .u8 x, .int .u8 y] w fun e w' => e = .returned (.bool true) ∧ Ext w w' := by
  have HK := Lib.hid (known9_calls w hr ht)
  have HC := Lib.hid (show ∀ W, Calls Tryz.prog 39 #[cV (1) (0) (1) (2) (1)] W fun e w' => e = .returned (.int .i64 0) ∧ Ext W w' from fun W => by
    have hh := ccheck_calls (1) (0) (1) (2) (1) W
    rwa [show codeC (1) (0) (1) (2) (1) = 0 by kernel_rfl] at hh)
  clear hr ht
  obtain ⟨hx0, hx1⟩ := hx
  obtain ⟨hy0, hy1⟩ := hy
  go_enter Tryz.func11, Tryz.ntmps11
  go_wp2_with fail
  refine HK.out.mono ?_
  rintro e w1 ⟨rfl, hx⟩
  have HX := Lib.hid (hx.alloc (.cells #[.int .i64 (1), .int .i64 (0), .int .i64 (1), .int .i64 (2), .int .i64 (1)] 54))
  clear hx
  go_wp2_with fail
  refine (HC.out _).mono ?_
  rintro e w2 ⟨rfl, hx2⟩
  have HX2 := Lib.hid (HX.out.tr hx2)
  clear hx2
  go_wp2
  go_ret
  exact ⟨rfl, HX2.out⟩
set_option maxHeartbeats 2000000 in
set_option maxRecDepth 100000 in
theorem edges_2_0 (x y : Int) (hx : 0 ≤ x ∧ x ≤ 255) (hy : 0 ≤ y ∧ y ≤ 255) (h : x.tmod 8 = 2) (g : y.tmod 3 = 0) (w : World) (hr : RngOk w) (ht : TabOk w) :
    Calls Tryz.prog 11 #[.int .u8 x, .int .u8 y] w fun e w' => e = .returned (.bool true) ∧ Ext w w' := by
  have HK := Lib.hid (known9_calls w hr ht)
  have HC := Lib.hid (show ∀ W, Calls Tryz.prog 39 #[cV (0) (1048575) (1) (2) (1)] W fun e w' => e = .returned (.int .i64 0) ∧ Ext W w' from fun W => by
    have hh := ccheck_calls (0) (1048575) (1) (2) (1) W
    rwa [show codeC (0) (1048575) (1) (2) (1) = 0 by kernel_rfl] at hh)
  clear hr ht
  obtain ⟨hx0, hx1⟩ := hx
  obtain ⟨hy0, hy1⟩ := hy
  go_enter Tryz.func11, Tryz.ntmps11
  go_wp2_with fail
  refine HK.out.mono ?_
  rintro e w1 ⟨rfl, hx⟩
  have HX := Lib.hid (hx.alloc (.cells #[.int .i64 (0), .int .i64 (1048575), .int .i64 (1), .int .i64 (2), .int .i64 (1)] 54))
  clear hx
  go_wp2_with fail
  refine (HC.out _).mono ?_
  rintro e w2 ⟨rfl, hx2⟩
  have HX2 := Lib.hid (HX.out.tr hx2)
  clear hx2
  go_wp2
  go_ret
  exact ⟨rfl, HX2.out⟩
set_option maxHeartbeats 2000000 in
set_option maxRecDepth 100000 in
theorem edges_2_1 (x y : Int) (hx : 0 ≤ x ∧ x ≤ 255) (hy : 0 ≤ y ∧ y ≤ 255) (h : x.tmod 8 = 2) (g : y.tmod 3 = 1) (w : World) (hr : RngOk w) (ht : TabOk w) :
    Calls Tryz.prog 11 #[.int .u8 x, .int .u8 y] w fun e w' => e = .returned (.bool true) ∧ Ext w w' := by
  have HK := Lib.hid (known9_calls w hr ht)
  have HC := Lib.hid (show ∀ W, Calls Tryz.prog 39 #[cV (0) (1048576) (1) (2) (1)] W fun e w' => e = .returned (.int .i64 0) ∧ Ext W w' from fun W => by
    have hh := ccheck_calls (0) (1048576) (1) (2) (1) W
    rwa [show codeC (0) (1048576) (1) (2) (1) = 0 by kernel_rfl] at hh)
  clear hr ht
  obtain ⟨hx0, hx1⟩ := hx
  obtain ⟨hy0, hy1⟩ := hy
  go_enter Tryz.func11, Tryz.ntmps11
  go_wp2_with fail
  refine HK.out.mono ?_
  rintro e w1 ⟨rfl, hx⟩
  have HX := Lib.hid (hx.alloc (.cells #[.int .i64 (0), .int .i64 (1048576), .int .i64 (1), .int .i64 (2), .int .i64 (1)] 54))
  clear hx
  go_wp2_with fail
  refine (HC.out _).mono ?_
  rintro e w2 ⟨rfl, hx2⟩
  have HX2 := Lib.hid (HX.out.tr hx2)
  clear hx2
  go_wp2
  go_ret
  exact ⟨rfl, HX2.out⟩
set_option maxHeartbeats 2000000 in
set_option maxRecDepth 100000 in
theorem edges_2_2 (x y : Int) (hx : 0 ≤ x ∧ x ≤ 255) (hy : 0 ≤ y ∧ y ≤ 255) (h : x.tmod 8 = 2) (g : y.tmod 3 = 2) (w : World) (hr : RngOk w) (ht : TabOk w) :
    Calls Tryz.prog 11 #[.int .u8 x, .int .u8 y] w fun e w' => e = .returned (.bool true) ∧ Ext w w' := by
  have HK := Lib.hid (known9_calls w hr ht)
  have HC := Lib.hid (show ∀ W, Calls Tryz.prog 39 #[cV (0) (1048577) (1) (2) (1)] W fun e w' => e = .returned (.int .i64 1) ∧ Ext W w' from fun W => by
    have hh := ccheck_calls (0) (1048577) (1) (2) (1) W
    rwa [show codeC (0) (1048577) (1) (2) (1) = 1 by kernel_rfl] at hh)
  clear hr ht
  obtain ⟨hx0, hx1⟩ := hx
  obtain ⟨hy0, hy1⟩ := hy
  go_enter Tryz.func11, Tryz.ntmps11
  go_wp2_with fail
  refine HK.out.mono ?_
  rintro e w1 ⟨rfl, hx⟩
  have HX := Lib.hid (hx.alloc (.cells #[.int .i64 (0), .int .i64 (1048577), .int .i64 (1), .int .i64 (2), .int .i64 (1)] 54))
  clear hx
  go_wp2_with fail
  refine (HC.out _).mono ?_
  rintro e w2 ⟨rfl, hx2⟩
  have HX2 := Lib.hid (HX.out.tr hx2)
  clear hx2
  go_wp2
  go_ret
  exact ⟨rfl, HX2.out⟩
set_option maxHeartbeats 2000000 in
set_option maxRecDepth 100000 in
theorem edges_3_0 (x y : Int) (hx : 0 ≤ x ∧ x ≤ 255) (hy : 0 ≤ y ∧ y ≤ 255) (h : x.tmod 8 = 3) (g : y.tmod 3 = 0) (w : World) (hr : RngOk w) (ht : TabOk w) :
    Calls Tryz.prog 11 #[.int .u8 x, .int .u8 y] w fun e w' => e = .returned (.bool true) ∧ Ext w w' := by
  have HK := Lib.hid (known9_calls w hr ht)
  have HC := Lib.hid (show ∀ W, Calls Tryz.prog 39 #[cV (0) (0) (14) (2) (1)] W fun e w' => e = .returned (.int .i64 0) ∧ Ext W w' from fun W => by
    have hh := ccheck_calls (0) (0) (14) (2) (1) W
    rwa [show codeC (0) (0) (14) (2) (1) = 0 by kernel_rfl] at hh)
  clear hr ht
  obtain ⟨hx0, hx1⟩ := hx
  obtain ⟨hy0, hy1⟩ := hy
  go_enter Tryz.func11, Tryz.ntmps11
  go_wp2_with fail
  refine HK.out.mono ?_
  rintro e w1 ⟨rfl, hx⟩
  have HX := Lib.hid (hx.alloc (.cells #[.int .i64 (0), .int .i64 (0), .int .i64 (14), .int .i64 (2), .int .i64 (1)] 54))
  clear hx
  go_wp2_with fail
  refine (HC.out _).mono ?_
  rintro e w2 ⟨rfl, hx2⟩
  have HX2 := Lib.hid (HX.out.tr hx2)
  clear hx2
  go_wp2
  go_ret
  exact ⟨rfl, HX2.out⟩
set_option maxHeartbeats 2000000 in
set_option maxRecDepth 100000 in
theorem edges_3_1 (x y : Int) (hx : 0 ≤ x ∧ x ≤ 255) (hy : 0 ≤ y ∧ y ≤ 255) (h : x.tmod 8 = 3) (g : y.tmod 3 = 1) (w : World) (hr : RngOk w) (ht : TabOk w) :
    Calls Tryz.prog 11 #[.int .u8 x, .int .u8 y] w fun e w' => e = .returned (.bool true) ∧ Ext w w' := by
  have HK := Lib.hid (known9_calls w hr ht)
  have HC := Lib.hid (show ∀ W, Calls Tryz.prog 39 #[cV (0) (0) (15) (2) (1)] W fun e w' => e = .returned (.int .i64 0) ∧ Ext W w' from fun W => by
    have hh := ccheck_calls (0) (0) (15) (2) (1) W
    rwa [show codeC (0) (0) (15) (2) (1) = 0 by kernel_rfl] at hh)
  clear hr ht
  obtain ⟨hx0, hx1⟩ := hx
  obtain ⟨hy0, hy1⟩ := hy
  go_enter Tryz.func11, Tryz.ntmps11
  go_wp2_with fail
  refine HK.out.mono ?_
  rintro e w1 ⟨rfl, hx⟩
  have HX := Lib.hid (hx.alloc (.cells #[.int .i64 (0), .int .i64 (0), .int .i64 (15), .int .i64 (2), .int .i64 (1)] 54))
  clear hx
  go_wp2_with fail
  refine (HC.out _).mono ?_
  rintro e w2 ⟨rfl, hx2⟩
  have HX2 := Lib.hid (HX.out.tr hx2)
  clear hx2
  go_wp2
  go_ret
  exact ⟨rfl, HX2.out⟩
set_option maxHeartbeats 2000000 in
set_option maxRecDepth 100000 in
theorem edges_3_2 (x y : Int) (hx : 0 ≤ x ∧ x ≤ 255) (hy : 0 ≤ y ∧ y ≤ 255) (h : x.tmod 8 = 3) (g : y.tmod 3 = 2) (w : World) (hr : RngOk w) (ht : TabOk w) :
    Calls Tryz.prog 11 #[.int .u8 x, .int .u8 y] w fun e w' => e = .returned (.bool true) ∧ Ext w w' := by
  have HK := Lib.hid (known9_calls w hr ht)
  have HC := Lib.hid (show ∀ W, Calls Tryz.prog 39 #[cV (0) (0) (16) (2) (1)] W fun e w' => e = .returned (.int .i64 1) ∧ Ext W w' from fun W => by
    have hh := ccheck_calls (0) (0) (16) (2) (1) W
    rwa [show codeC (0) (0) (16) (2) (1) = 1 by kernel_rfl] at hh)
  clear hr ht
  obtain ⟨hx0, hx1⟩ := hx
  obtain ⟨hy0, hy1⟩ := hy
  go_enter Tryz.func11, Tryz.ntmps11
  go_wp2_with fail
  refine HK.out.mono ?_
  rintro e w1 ⟨rfl, hx⟩
  have HX := Lib.hid (hx.alloc (.cells #[.int .i64 (0), .int .i64 (0), .int .i64 (16), .int .i64 (2), .int .i64 (1)] 54))
  clear hx
  go_wp2_with fail
  refine (HC.out _).mono ?_
  rintro e w2 ⟨rfl, hx2⟩
  have HX2 := Lib.hid (HX.out.tr hx2)
  clear hx2
  go_wp2
  go_ret
  exact ⟨rfl, HX2.out⟩
set_option maxHeartbeats 2000000 in
set_option maxRecDepth 100000 in
theorem edges_4_0 (x y : Int) (hx : 0 ≤ x ∧ x ≤ 255) (hy : 0 ≤ y ∧ y ≤ 255) (h : x.tmod 8 = 4) (g : y.tmod 3 = 0) (w : World) (hr : RngOk w) (ht : TabOk w) :
    Calls Tryz.prog 11 #[.int .u8 x, .int .u8 y] w fun e w' => e = .returned (.bool true) ∧ Ext w w' := by
  have HK := Lib.hid (known9_calls w hr ht)
  have HC := Lib.hid (show ∀ W, Calls Tryz.prog 39 #[cV (0) (0) (1) (-1) (1)] W fun e w' => e = .returned (.int .i64 1) ∧ Ext W w' from fun W => by
    have hh := ccheck_calls (0) (0) (1) (-1) (1) W
    rwa [show codeC (0) (0) (1) (-1) (1) = 1 by kernel_rfl] at hh)
  clear hr ht
  obtain ⟨hx0, hx1⟩ := hx
  obtain ⟨hy0, hy1⟩ := hy
  go_enter Tryz.func11, Tryz.ntmps11
  go_wp2_with fail
  refine HK.out.mono ?_
  rintro e w1 ⟨rfl, hx⟩
  have HX := Lib.hid (hx.alloc (.cells #[.int .i64 (0), .int .i64 (0), .int .i64 (1), .int .i64 (-1), .int .i64 (1)] 54))
  clear hx
  go_wp2_with fail
  refine (HC.out _).mono ?_
  rintro e w2 ⟨rfl, hx2⟩
  have HX2 := Lib.hid (HX.out.tr hx2)
  clear hx2
  go_wp2
  go_ret
  exact ⟨rfl, HX2.out⟩
set_option maxHeartbeats 2000000 in
set_option maxRecDepth 100000 in
theorem edges_4_1 (x y : Int) (hx : 0 ≤ x ∧ x ≤ 255) (hy : 0 ≤ y ∧ y ≤ 255) (h : x.tmod 8 = 4) (g : y.tmod 3 = 1) (w : World) (hr : RngOk w) (ht : TabOk w) :
    Calls Tryz.prog 11 #[.int .u8 x, .int .u8 y] w fun e w' => e = .returned (.bool true) ∧ Ext w w' := by
  have HK := Lib.hid (known9_calls w hr ht)
  have HC := Lib.hid (show ∀ W, Calls Tryz.prog 39 #[cV (0) (0) (1) (0) (1)] W fun e w' => e = .returned (.int .i64 0) ∧ Ext W w' from fun W => by
    have hh := ccheck_calls (0) (0) (1) (0) (1) W
    rwa [show codeC (0) (0) (1) (0) (1) = 0 by kernel_rfl] at hh)
  clear hr ht
  obtain ⟨hx0, hx1⟩ := hx
  obtain ⟨hy0, hy1⟩ := hy
  go_enter Tryz.func11, Tryz.ntmps11
  go_wp2_with fail
  refine HK.out.mono ?_
  rintro e w1 ⟨rfl, hx⟩
  have HX := Lib.hid (hx.alloc (.cells #[.int .i64 (0), .int .i64 (0), .int .i64 (1), .int .i64 (0), .int .i64 (1)] 54))
  clear hx
  go_wp2_with fail
  refine (HC.out _).mono ?_
  rintro e w2 ⟨rfl, hx2⟩
  have HX2 := Lib.hid (HX.out.tr hx2)
  clear hx2
  go_wp2
  go_ret
  exact ⟨rfl, HX2.out⟩
set_option maxHeartbeats 2000000 in
set_option maxRecDepth 100000 in
theorem edges_4_2 (x y : Int) (hx : 0 ≤ x ∧ x ≤ 255) (hy : 0 ≤ y ∧ y ≤ 255) (h : x.tmod 8 = 4) (g : y.tmod 3 = 2) (w : World) (hr : RngOk w) (ht : TabOk w) :
    Calls Tryz.prog 11 #[.int .u8 x, .int .u8 y] w fun e w' => e = .returned (.bool true) ∧ Ext w w' := by
  have HK := Lib.hid (known9_calls w hr ht)
  have HC := Lib.hid (show ∀ W, Calls Tryz.prog 39 #[cV (0) (0) (1) (1) (1)] W fun e w' => e = .returned (.int .i64 1) ∧ Ext W w' from fun W => by
    have hh := ccheck_calls (0) (0) (1) (1) (1) W
    rwa [show codeC (0) (0) (1) (1) (1) = 1 by kernel_rfl] at hh)
  clear hr ht
  obtain ⟨hx0, hx1⟩ := hx
  obtain ⟨hy0, hy1⟩ := hy
  go_enter Tryz.func11, Tryz.ntmps11
  go_wp2_with fail
  refine HK.out.mono ?_
  rintro e w1 ⟨rfl, hx⟩
  have HX := Lib.hid (hx.alloc (.cells #[.int .i64 (0), .int .i64 (0), .int .i64 (1), .int .i64 (1), .int .i64 (1)] 54))
  clear hx
  go_wp2_with fail
  refine (HC.out _).mono ?_
  rintro e w2 ⟨rfl, hx2⟩
  have HX2 := Lib.hid (HX.out.tr hx2)
  clear hx2
  go_wp2
  go_ret
  exact ⟨rfl, HX2.out⟩
set_option maxHeartbeats 2000000 in
set_option maxRecDepth 100000 in
theorem edges_5_0 (x y : Int) (hx : 0 ≤ x ∧ x ≤ 255) (hy : 0 ≤ y ∧ y ≤ 255) (h : x.tmod 8 = 5) (g : y.tmod 3 = 0) (w : World) (hr : RngOk w) (ht : TabOk w) :
    Calls Tryz.prog 11 #[.int .u8 x, .int .u8 y] w fun e w' => e = .returned (.bool true) ∧ Ext w w' := by
  have HK := Lib.hid (known9_calls w hr ht)
  have HC := Lib.hid (show ∀ W, Calls Tryz.prog 39 #[cV (0) (0) (1) (2) (1099511627775)] W fun e w' => e = .returned (.int .i64 0) ∧ Ext W w' from fun W => by
    have hh := ccheck_calls (0) (0) (1) (2) (1099511627775) W
    rwa [show codeC (0) (0) (1) (2) (1099511627775) = 0 by kernel_rfl] at hh)
  clear hr ht
  obtain ⟨hx0, hx1⟩ := hx
  obtain ⟨hy0, hy1⟩ := hy
  go_enter Tryz.func11, Tryz.ntmps11
  go_wp2_with fail
  refine HK.out.mono ?_
  rintro e w1 ⟨rfl, hx⟩
  have HX := Lib.hid (hx.alloc (.cells #[.int .i64 (0), .int .i64 (0), .int .i64 (1), .int .i64 (2), .int .i64 (1099511627775)] 54))
  clear hx
  go_wp2_with fail
  refine (HC.out _).mono ?_
  rintro e w2 ⟨rfl, hx2⟩
  have HX2 := Lib.hid (HX.out.tr hx2)
  clear hx2
  go_wp2
  go_ret
  exact ⟨rfl, HX2.out⟩
set_option maxHeartbeats 2000000 in
set_option maxRecDepth 100000 in
theorem edges_5_1 (x y : Int) (hx : 0 ≤ x ∧ x ≤ 255) (hy : 0 ≤ y ∧ y ≤ 255) (h : x.tmod 8 = 5) (g : y.tmod 3 = 1) (w : World) (hr : RngOk w) (ht : TabOk w) :
    Calls Tryz.prog 11 #[.int .u8 x, .int .u8 y] w fun e w' => e = .returned (.bool true) ∧ Ext w w' := by
  have HK := Lib.hid (known9_calls w hr ht)
  have HC := Lib.hid (show ∀ W, Calls Tryz.prog 39 #[cV (0) (0) (1) (2) (1099511627776)] W fun e w' => e = .returned (.int .i64 0) ∧ Ext W w' from fun W => by
    have hh := ccheck_calls (0) (0) (1) (2) (1099511627776) W
    rwa [show codeC (0) (0) (1) (2) (1099511627776) = 0 by kernel_rfl] at hh)
  clear hr ht
  obtain ⟨hx0, hx1⟩ := hx
  obtain ⟨hy0, hy1⟩ := hy
  go_enter Tryz.func11, Tryz.ntmps11
  go_wp2_with fail
  refine HK.out.mono ?_
  rintro e w1 ⟨rfl, hx⟩
  have HX := Lib.hid (hx.alloc (.cells #[.int .i64 (0), .int .i64 (0), .int .i64 (1), .int .i64 (2), .int .i64 (1099511627776)] 54))
  clear hx
  go_wp2_with fail
  refine (HC.out _).mono ?_
  rintro e w2 ⟨rfl, hx2⟩
  have HX2 := Lib.hid (HX.out.tr hx2)
  clear hx2
  go_wp2
  go_ret
  exact ⟨rfl, HX2.out⟩
set_option maxHeartbeats 2000000 in
set_option maxRecDepth 100000 in
theorem edges_5_2 (x y : Int) (hx : 0 ≤ x ∧ x ≤ 255) (hy : 0 ≤ y ∧ y ≤ 255) (h : x.tmod 8 = 5) (g : y.tmod 3 = 2) (w : World) (hr : RngOk w) (ht : TabOk w) :
    Calls Tryz.prog 11 #[.int .u8 x, .int .u8 y] w fun e w' => e = .returned (.bool true) ∧ Ext w w' := by
  have HK := Lib.hid (known9_calls w hr ht)
  have HC := Lib.hid (show ∀ W, Calls Tryz.prog 39 #[cV (0) (0) (1) (2) (1099511627777)] W fun e w' => e = .returned (.int .i64 1) ∧ Ext W w' from fun W => by
    have hh := ccheck_calls (0) (0) (1) (2) (1099511627777) W
    rwa [show codeC (0) (0) (1) (2) (1099511627777) = 1 by kernel_rfl] at hh)
  clear hr ht
  obtain ⟨hx0, hx1⟩ := hx
  obtain ⟨hy0, hy1⟩ := hy
  go_enter Tryz.func11, Tryz.ntmps11
  go_wp2_with fail
  refine HK.out.mono ?_
  rintro e w1 ⟨rfl, hx⟩
  have HX := Lib.hid (hx.alloc (.cells #[.int .i64 (0), .int .i64 (0), .int .i64 (1), .int .i64 (2), .int .i64 (1099511627777)] 54))
  clear hx
  go_wp2_with fail
  refine (HC.out _).mono ?_
  rintro e w2 ⟨rfl, hx2⟩
  have HX2 := Lib.hid (HX.out.tr hx2)
  clear hx2
  go_wp2
  go_ret
  exact ⟨rfl, HX2.out⟩
set_option maxHeartbeats 2000000 in
set_option maxRecDepth 100000 in
theorem edges_6_0 (x y : Int) (hx : 0 ≤ x ∧ x ≤ 255) (hy : 0 ≤ y ∧ y ≤ 255) (h : x.tmod 8 = 6) (g : y.tmod 3 = 0) (w : World) (hr : RngOk w) (ht : TabOk w) :
    Calls Tryz.prog 11 #[.int .u8 x, .int .u8 y] w fun e w' => e = .returned (.bool true) ∧ Ext w w' := by
  have HK := Lib.hid (known9_calls w hr ht)
  have HC := Lib.hid (show ∀ W, Calls Tryz.prog 39 #[cV (0) (0) (1) (2) (0)] W fun e w' => e = .returned (.int .i64 1) ∧ Ext W w' from fun W => by
    have hh := ccheck_calls (0) (0) (1) (2) (0) W
    rwa [show codeC (0) (0) (1) (2) (0) = 1 by kernel_rfl] at hh)
  clear hr ht
  obtain ⟨hx0, hx1⟩ := hx
  obtain ⟨hy0, hy1⟩ := hy
  go_enter Tryz.func11, Tryz.ntmps11
  go_wp2_with fail
  refine HK.out.mono ?_
  rintro e w1 ⟨rfl, hx⟩
  have HX := Lib.hid (hx.alloc (.cells #[.int .i64 (0), .int .i64 (0), .int .i64 (1), .int .i64 (2), .int .i64 (0)] 54))
  clear hx
  go_wp2_with fail
  refine (HC.out _).mono ?_
  rintro e w2 ⟨rfl, hx2⟩
  have HX2 := Lib.hid (HX.out.tr hx2)
  clear hx2
  go_wp2
  go_ret
  exact ⟨rfl, HX2.out⟩
set_option maxHeartbeats 2000000 in
set_option maxRecDepth 100000 in
theorem edges_6_1 (x y : Int) (hx : 0 ≤ x ∧ x ≤ 255) (hy : 0 ≤ y ∧ y ≤ 255) (h : x.tmod 8 = 6) (g : y.tmod 3 = 1) (w : World) (hr : RngOk w) (ht : TabOk w) :
    Calls Tryz.prog 11 #[.int .u8 x, .int .u8 y] w fun e w' => e = .returned (.bool true) ∧ Ext w w' := by
  have HK := Lib.hid (known9_calls w hr ht)
  have HC := Lib.hid (show ∀ W, Calls Tryz.prog 39 #[cV (0) (0) (1) (2) (1)] W fun e w' => e = .returned (.int .i64 0) ∧ Ext W w' from fun W => by
    have hh := ccheck_calls (0) (0) (1) (2) (1) W
    rwa [show codeC (0) (0) (1) (2) (1) = 0 by kernel_rfl] at hh)
  clear hr ht
  obtain ⟨hx0, hx1⟩ := hx
  obtain ⟨hy0, hy1⟩ := hy
  go_enter Tryz.func11, Tryz.ntmps11
  go_wp2_with fail
  refine HK.out.mono ?_
  rintro e w1 ⟨rfl, hx⟩
  have HX := Lib.hid (hx.alloc (.cells #[.int .i64 (0), .int .i64 (0), .int .i64 (1), .int .i64 (2), .int .i64 (1)] 54))
  clear hx
  go_wp2_with fail
  refine (HC.out _).mono ?_
  rintro e w2 ⟨rfl, hx2⟩
  have HX2 := Lib.hid (HX.out.tr hx2)
  clear hx2
  go_wp2
  go_ret
  exact ⟨rfl, HX2.out⟩
set_option maxHeartbeats 2000000 in
set_option maxRecDepth 100000 in
theorem edges_6_2 (x y : Int) (hx : 0 ≤ x ∧ x ≤ 255) (hy : 0 ≤ y ∧ y ≤ 255) (h : x.tmod 8 = 6) (g : y.tmod 3 = 2) (w : World) (hr : RngOk w) (ht : TabOk w) :
    Calls Tryz.prog 11 #[.int .u8 x, .int .u8 y] w fun e w' => e = .returned (.bool true) ∧ Ext w w' := by
  have HK := Lib.hid (known9_calls w hr ht)
  have HC := Lib.hid (show ∀ W, Calls Tryz.prog 39 #[cV (0) (0) (1) (2) (2)] W fun e w' => e = .returned (.int .i64 0) ∧ Ext W w' from fun W => by
    have hh := ccheck_calls (0) (0) (1) (2) (2) W
    rwa [show codeC (0) (0) (1) (2) (2) = 0 by kernel_rfl] at hh)
  clear hr ht
  obtain ⟨hx0, hx1⟩ := hx
  obtain ⟨hy0, hy1⟩ := hy
  go_enter Tryz.func11, Tryz.ntmps11
  go_wp2_with fail
  refine HK.out.mono ?_
  rintro e w1 ⟨rfl, hx⟩
  have HX := Lib.hid (hx.alloc (.cells #[.int .i64 (0), .int .i64 (0), .int .i64 (1), .int .i64 (2), .int .i64 (2)] 54))
  clear hx
  go_wp2_with fail
  refine (HC.out _).mono ?_
  rintro e w2 ⟨rfl, hx2⟩
  have HX2 := Lib.hid (HX.out.tr hx2)
  clear hx2
  go_wp2
  go_ret
  exact ⟨rfl, HX2.out⟩
set_option maxHeartbeats 2000000 in
set_option maxRecDepth 100000 in
theorem edges_7_0 (x y : Int) (hx : 0 ≤ x ∧ x ≤ 255) (hy : 0 ≤ y ∧ y ≤ 255) (h : x.tmod 8 = 7) (g : y.tmod 3 = 0) (w : World) (hr : RngOk w) (ht : TabOk w) :
    Calls Tryz.prog 11 #[.int .u8 x, .int .u8 y] w fun e w' => e = .returned (.bool true) ∧ Ext w w' := by
  have HK := Lib.hid (known9_calls w hr ht)
  have HC := Lib.hid (show ∀ W, Calls Tryz.prog 39 #[cV (0) (0) (1) (2) (1)] W fun e w' => e = .returned (.int .i64 0) ∧ Ext W w' from fun W => by
    have hh := ccheck_calls (0) (0) (1) (2) (1) W
    rwa [show codeC (0) (0) (1) (2) (1) = 0 by kernel_rfl] at hh)
  clear hr ht
  obtain ⟨hx0, hx1⟩ := hx
  obtain ⟨hy0, hy1⟩ := hy
  go_enter Tryz.func11, Tryz.ntmps11
  go_wp2_with fail
  refine HK.out.mono ?_
  rintro e w1 ⟨rfl, hx⟩
  have HX := Lib.hid (hx.alloc (.cells #[.int .i64 (0), .int .i64 (0), .int .i64 (1), .int .i64 (2), .int .i64 (1)] 54))
  clear hx
  go_wp2_with fail
  refine (HC.out _).mono ?_
  rintro e w2 ⟨rfl, hx2⟩
  have HX2 := Lib.hid (HX.out.tr hx2)
  clear hx2
  go_wp2
  go_ret
  exact ⟨rfl, HX2.out⟩
set_option maxHeartbeats 2000000 in
set_option maxRecDepth 100000 in
theorem edges_7_1 (x y : Int) (hx : 0 ≤ x ∧ x ≤ 255) (hy : 0 ≤ y ∧ y ≤ 255) (h : x.tmod 8 = 7) (g : y.tmod 3 = 1) (w : World) (hr : RngOk w) (ht : TabOk w) :
    Calls Tryz.prog 11 #[.int .u8 x, .int .u8 y] w fun e w' => e = .returned (.bool true) ∧ Ext w w' := by
  have HK := Lib.hid (known9_calls w hr ht)
  have HC := Lib.hid (show ∀ W, Calls Tryz.prog 39 #[cV (0) (0) (2) (2) (1)] W fun e w' => e = .returned (.int .i64 1) ∧ Ext W w' from fun W => by
    have hh := ccheck_calls (0) (0) (2) (2) (1) W
    rwa [show codeC (0) (0) (2) (2) (1) = 1 by kernel_rfl] at hh)
  clear hr ht
  obtain ⟨hx0, hx1⟩ := hx
  obtain ⟨hy0, hy1⟩ := hy
  go_enter Tryz.func11, Tryz.ntmps11
  go_wp2_with fail
  refine HK.out.mono ?_
  rintro e w1 ⟨rfl, hx⟩
  have HX := Lib.hid (hx.alloc (.cells #[.int .i64 (0), .int .i64 (0), .int .i64 (2), .int .i64 (2), .int .i64 (1)] 54))
  clear hx
  go_wp2_with fail
  refine (HC.out _).mono ?_
  rintro e w2 ⟨rfl, hx2⟩
  have HX2 := Lib.hid (HX.out.tr hx2)
  clear hx2
  go_wp2
  go_ret
  exact ⟨rfl, HX2.out⟩
set_option maxHeartbeats 2000000 in
set_option maxRecDepth 100000 in
theorem edges_7_2 (x y : Int) (hx : 0 ≤ x ∧ x ≤ 255) (hy : 0 ≤ y ∧ y ≤ 255) (h : x.tmod 8 = 7) (g : y.tmod 3 = 2) (w : World) (hr : RngOk w) (ht : TabOk w) :
    Calls Tryz.prog 11 #[.int .u8 x, .int .u8 y] w fun e w' => e = .returned (.bool true) ∧ Ext w w' := by
  have HK := Lib.hid (known9_calls w hr ht)
  have HC := Lib.hid (show ∀ W, Calls Tryz.prog 39 #[cV (0) (0) (3) (2) (1)] W fun e w' => e = .returned (.int .i64 0) ∧ Ext W w' from fun W => by
    have hh := ccheck_calls (0) (0) (3) (2) (1) W
    rwa [show codeC (0) (0) (3) (2) (1) = 0 by kernel_rfl] at hh)
  clear hr ht
  obtain ⟨hx0, hx1⟩ := hx
  obtain ⟨hy0, hy1⟩ := hy
  go_enter Tryz.func11, Tryz.ntmps11
  go_wp2_with fail
  refine HK.out.mono ?_
  rintro e w1 ⟨rfl, hx⟩
  have HX := Lib.hid (hx.alloc (.cells #[.int .i64 (0), .int .i64 (0), .int .i64 (3), .int .i64 (2), .int .i64 (1)] 54))
  clear hx
  go_wp2_with fail
  refine (HC.out _).mono ?_
  rintro e w2 ⟨rfl, hx2⟩
  have HX2 := Lib.hid (HX.out.tr hx2)
  clear hx2
  go_wp2
  go_ret
  exact ⟨rfl, HX2.out⟩
theorem cmdEdges_walk' {w : World} (x : Int) (wx : (Lit.int .u8 x).wf = true) (y : Int) (wy : (Lit.int .u8 y).wf = true) (hg : RngOk w ∧ TabOk w) :
    Calls Tryz.prog 11 #[.int .u8 x, .int .u8 y] w fun e w' => e = .returned (.bool true) ∧ Ext w w' := by
  have hx := bounds_u8 wx
  have hy := bounds_u8 wy
  have h8 : x.tmod 8 = x % 8 := Int.tmod_eq_emod_of_nonneg (by omega)
  have h3 : y.tmod 3 = y % 3 := Int.tmod_eq_emod_of_nonneg (by omega)
  have hx' : 0 ≤ x ∧ x ≤ 255 := by omega
  have hy' : 0 ≤ y ∧ y ≤ 255 := by omega
  have hj : x.tmod 8 = 0 ∨ x.tmod 8 = 1 ∨ x.tmod 8 = 2 ∨ x.tmod 8 = 3 ∨ x.tmod 8 = 4 ∨ x.tmod 8 = 5 ∨ x.tmod 8 = 6 ∨ x.tmod 8 = 7 := by omega
  have hi : y.tmod 3 = 0 ∨ y.tmod 3 = 1 ∨ y.tmod 3 = 2 := by omega
  clear h8 h3 hx hy
  rcases hj with h | h | h | h | h | h | h | h <;> rcases hi with g | g | g
  · exact edges_0_0 x y hx' hy' h g w hg.1 hg.2
  · exact edges_0_1 x y hx' hy' h g w hg.1 hg.2
  · exact edges_0_2 x y hx' hy' h g w hg.1 hg.2
  · exact edges_1_0 x y hx' hy' h g w hg.1 hg.2
  · exact edges_1_1 x y hx' hy' h g w hg.1 hg.2
  · exact edges_1_2 x y hx' hy' h g w hg.1 hg.2
  · exact edges_2_0 x y hx' hy' h g w hg.1 hg.2
  · exact edges_2_1 x y hx' hy' h g w hg.1 hg.2
  · exact edges_2_2 x y hx' hy' h g w hg.1 hg.2
  · exact edges_3_0 x y hx' hy' h g w hg.1 hg.2
  · exact edges_3_1 x y hx' hy' h g w hg.1 hg.2
  · exact edges_3_2 x y hx' hy' h g w hg.1 hg.2
  · exact edges_4_0 x y hx' hy' h g w hg.1 hg.2
  · exact edges_4_1 x y hx' hy' h g w hg.1 hg.2
  · exact edges_4_2 x y hx' hy' h g w hg.1 hg.2
  · exact edges_5_0 x y hx' hy' h g w hg.1 hg.2
  · exact edges_5_1 x y hx' hy' h g w hg.1 hg.2
  · exact edges_5_2 x y hx' hy' h g w hg.1 hg.2
  · exact edges_6_0 x y hx' hy' h g w hg.1 hg.2
  · exact edges_6_1 x y hx' hy' h g w hg.1 hg.2
  · exact edges_6_2 x y hx' hy' h g w hg.1 hg.2
  · exact edges_7_0 x y hx' hy' h g w hg.1 hg.2
  · exact edges_7_1 x y hx' hy' h g w hg.1 hg.2
  · exact edges_7_2 x y hx' hy' h g w hg.1 hg.2
end Go.Proofs.YtgomondmogpkeaaGreatDoor
