/- Why a block may not be voted for: May. -/
import Derived.Test.YtilengooiffikaaDoorSfA
import Derived.Test.YtilengooiffikaaDoorTW3
import Derived.Test.YtilengooiffikaaDoorBlk
set_option linter.unusedVariables false
set_option linter.unusedSimpArgs false
namespace Go.Proofs.YtilengooiffikaaDoor
open Go.RowKit Go.Sort Go.Maps
/-- Why not: is it there, is it of a view that was voted for, does it extend what is held, is its QC no later. -/
def mayC (g v x q : Bool) : Nat := if g then (if v then 12 else if x then 0 else if q then 13 else 0) else 11
set_option maxRecDepth 100000 in
set_option maxHeartbeats 4000000 in
theorem may_calls {tb mb : Nat} {L : List (Nat × T.B)} (w : World) (hT : Tr w tb mb L) (ht : TOk w) (s : Sf) (b : T.B) (hb : OkB b) (x : Bool)
    (hx : (T.get L (T.dig b)).isSome = true → ∀ W, Tr W tb mb L → Calls Tryd.prog 22 #[.pointer (some ⟨tb, 0, none⟩), cU64 (T.dig b), cU64 s.lb] W fun e w' => e = .returned (.bool x) ∧ Ext W w') :
    Calls Tryd.prog 31 #[.agg (sV s).toArray, .pointer (some ⟨tb, 0, none⟩), bA b] w fun e w' => e = .returned (.int .i64 (mayC (T.get L (T.dig b)).isSome (decide (b.v ≤ s.vo)) x (decide (b.qv ≤ s.lv)) : Nat)) ∧ Ext w w' := by
  have hk0 := (Blk.new w 89 (sV s)).ext ((Ext.rfl' _).alloc (.cells (bV b).toArray 48))
  have hk1 := Blk.new (w.alloc (.cells (sV s).toArray 89)) 48 (bV b)
  rw [World.size_alloc] at hk1
  have hE : Ext w ((w.alloc (.cells (sV s).toArray 89)).alloc (.cells (bV b).toArray 48)) := ((Ext.rfl' w).alloc _).alloc _
  have HD := Lib.hid (fun (W : World) (hW : Ext w W) => blkdig_calls b hb W (ht.ext hW))
  have HG := Lib.hid (fun (W : World) (hW : Ext w W) => tget_calls W (hT.ext hW) (T.dig b) (T.dig_lt b))
  have HX := Lib.hid hx
  have HT := Lib.hid hT
  have HK0 := Lib.hid (show ∀ W, Ext ((w.alloc (.cells (sV s).toArray 89)).alloc (.cells (bV b).toArray 48)) W → Blk W w.heap.size 89 (sV s) from fun W h => hk0.ext h)
  have HK1 := Lib.hid (show ∀ W, Ext ((w.alloc (.cells (sV s).toArray 89)).alloc (.cells (bV b).toArray 48)) W → Blk W (w.heap.size + 1) 48 (bV b) from fun W h => hk1.ext h)
  have HE := Lib.hid hE
  clear hk0 hk1 hE hx hT ht
  generalize hg : (T.get L (T.dig b)).isSome = g at *
  have HGG := Lib.hid hg
  clear hg
  go_enter Tryd.func31, Tryd.ntmps31
  go_wp2_with (refine wpList_load_row rfl _ _ rfl (w.heap.size + 1) rfl 48 (bV b).toArray (0, 0) _ (HK1.out _ (Ext.rfl' _)) Tryd.underlying48 rfl rfl ?_)
  refine (HD.out _ HE.out).mono ?_
  rintro e w1 ⟨rfl, hx1⟩
  have HX1 := Lib.hid hx1
  clear hx1
  go_wp2_with fail
  refine (HG.out _ (HE.out.tr HX1.out)).mono ?_
  rintro e w2 ⟨rfl, hx2⟩
  have HX2 := Lib.hid (HX1.out.tr hx2)
  clear hx2 HX1
  generalize (T.get L (T.dig b)).getD T.gen = bb at *
  go_upto_region 3 with (refine wpList_store_new rfl _ _ _ rfl _ _ (bV bb) rfl rfl rfl rfl (bV_one _) ?_; intro W3 hX3 hB3)
  have HX3 := Lib.hid (HX2.out.tr hX3)
  have HZ := Lib.hid (HE.out.tr HX3.out)
  have a0 : W3.cell? ⟨w.heap.size, 0, none⟩ = some (.int .i64 s.vo) := (HK0.out _ HX3.out).cell rfl
  have a1 : W3.cell? ⟨w.heap.size, 1, none⟩ = some (.int .i64 s.lv) := (HK0.out _ HX3.out).cell rfl
  have a2 : W3.cell? ⟨w.heap.size, 2, none⟩ = some (cU64 s.lb) := (HK0.out _ HX3.out).cell rfl
  have b0 : W3.cell? ⟨w.heap.size + 1, 0, none⟩ = some (.int .i64 b.v) := (HK1.out _ HX3.out).cell rfl
  have b2 : W3.cell? ⟨w.heap.size + 1, 2, none⟩ = some (.int .i64 b.qv) := (HK1.out _ HX3.out).cell rfl
  clear hX3 hB3
  generalize w2.heap.size = D at *
  cases g with
  | false =>
    clear HX
    go_wp2
    go_ret
    exact ⟨rfl, HZ.out⟩
  | true =>
    replace HX := Lib.hid (HX.out rfl W3 (HT.out.ext HZ.out))
    by_cases hv : b.v ≤ s.vo
    · have HC := Lib.hid (show mayC true (decide (b.v ≤ s.vo)) x (decide (b.qv ≤ s.lv)) = 12 from by simp [mayC, hv])
      go_wp2
      go_ret
      exact ⟨by rw [HC.out]; rfl, HZ.out⟩
    · cases x with
      | true =>
        have HC := Lib.hid (show mayC true (decide (b.v ≤ s.vo)) true (decide (b.qv ≤ s.lv)) = 0 from by simp [mayC, hv])
        go_wp2_with fail
        refine HX.out.mono ?_
        rintro e w4 ⟨rfl, hx4⟩
        have HZ4 := Lib.hid (HZ.out.tr hx4)
        clear hx4
        go_wp2
        go_ret
        exact ⟨by rw [HC.out]; rfl, HZ4.out⟩
      | false =>
        go_wp2_with fail
        refine HX.out.mono ?_
        rintro e w4 ⟨rfl, hx4⟩
        have HZ4 := Lib.hid (HZ.out.tr hx4)
        replace a1 := hx4.cell a1
        replace b2 := hx4.cell b2
        clear hx4 a0 a2 b0
        by_cases hq : b.qv ≤ s.lv
        · have HC := Lib.hid (show mayC true (decide (b.v ≤ s.vo)) false (decide (b.qv ≤ s.lv)) = 13 from by simp [mayC, hv, hq])
          go_wp2
          go_ret
          exact ⟨by rw [HC.out]; rfl, HZ4.out⟩
        · have HC := Lib.hid (show mayC true (decide (b.v ≤ s.vo)) false (decide (b.qv ≤ s.lv)) = 0 from by simp [mayC, hv, hq])
          go_wp2
          go_ret
          exact ⟨by rw [HC.out]; rfl, HZ4.out⟩
end Go.Proofs.YtilengooiffikaaDoor
