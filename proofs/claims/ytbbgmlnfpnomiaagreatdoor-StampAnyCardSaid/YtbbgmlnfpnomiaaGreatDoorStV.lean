/- The reference's SameStamp at equal stamps (turned from XStE's walk of Same). -/
import Derived.Test.YtbbgmlnfpnomiaaGreatDoorStR
import Derived.Test.YtbbgmlnfpnomiaaGreatDoorStE
import Derived.Test.YtbbgmlnfpnomiaaGreatDoorKR4
set_option linter.unusedVariables false
set_option linter.unusedSimpArgs false
namespace Go.Proofs.YtbbgmlnfpnomiaaGreatDoor
open Go.RowKit Go.Sort
set_option maxRecDepth 100000 in
set_option maxHeartbeats 2000000 in
theorem rssame_calls (cmd : Nat) (who at_ : Int) (sw leaf : Int) (one : List Nat) (ho : one.length = 18) (hol : ∀ x ∈ one, x < 18446744073709551616) (l : List Nat) (hn : l.length ≤ 100000) (A B : Option Addr) (c d : Nat) (w : World) (hA : Rd w A (cDg l)) (hB : Rd w B (cDg l)) :
    Calls Tryz.prog 56 #[.agg (stV cmd who at_ (sgV sw leaf one A l.length c)).toArray, .agg (stV cmd who at_ (sgV sw leaf one B l.length d)).toArray] w fun e w' => e = .returned (.bool true) ∧ Ext w w' := by
  have b0 := (Blk.new w 73 (stV cmd who at_ (sgV sw leaf one A l.length c))).ext ((Ext.rfl' _).alloc (.cells (stV cmd who at_ (sgV sw leaf one B l.length d)).toArray 73))
  have b1 := Blk.new (w.alloc (.cells (stV cmd who at_ (sgV sw leaf one A l.length c)).toArray 73)) 73 (stV cmd who at_ (sgV sw leaf one B l.length d))
  rw [World.size_alloc] at b1
  have hE := ((Ext.rfl' w).alloc (.cells (stV cmd who at_ (sgV sw leaf one A l.length c)).toArray 73)).alloc (.cells (stV cmd who at_ (sgV sw leaf one B l.length d)).toArray 73)
  have r0 := stV_range b0
  have r1 := stV_range b1
  have c00 := b0.cell (j := 0) (v := cU64 cmd) rfl
  have c01 := b0.cell (j := 1) (v := .int .i64 who) rfl
  have c02 := b0.cell (j := 2) (v := .int .i64 at_) rfl
  have c10 := b1.cell (j := 0) (v := cU64 cmd) rfl
  have c11 := b1.cell (j := 1) (v := .int .i64 who) rfl
  have c12 := b1.cell (j := 2) (v := .int .i64 at_) rfl
  have hA21 := sgV_len sw leaf one ho A l.length c
  have hB21 := sgV_len sw leaf one ho B l.length d
  have hi21 : (Tryz.prog.info? 45).map (·.size) = some (sgV sw leaf one A l.length c).length := by rw [hA21]; rfl
  have hj21 : (Tryz.prog.info? 45).map (·.size) = some (sgV sw leaf one B l.length d).length := by rw [hB21]; rfl
  have HS := Lib.hid (fun W (hx : Ext w W) => rsame_calls sw leaf one ho hol l hn A B c d W (hA.ext hx) (hB.ext hx))
  have hcc : ((cmd : Int) == (cmd : Int)) = true := by simp
  have hww : (who == who) = true := by simp
  have htt : (at_ == at_) = true := by simp
  clear hA hB b0 b1 hA21 hB21
  generalize stV cmd who at_ (sgV sw leaf one A l.length c) = SVA at *
  generalize stV cmd who at_ (sgV sw leaf one B l.length d) = SVB at *
  generalize sgV sw leaf one A l.length c = SA at *
  generalize sgV sw leaf one B l.length d = SB at *
  go_enter Tryz.func56, Tryz.ntmps56
  go_upto_region 1 with (fail)
  generalize (w.alloc (.cells SVA.toArray 73)).alloc (.cells SVB.toArray 73) = W1 at *
  go_wp2_with (first
    | (refine wpList_load_midw (by rfl) _ _ rfl w.heap.size 3 rfl SA _ r0 Tryz.underlying45 rfl hi21 ?_)
    | (refine wpList_load_midw (by rfl) _ _ rfl (w.heap.size + 1) 3 rfl SB _ r1 Tryz.underlying45 rfl hj21 ?_))
  refine (HS.out _ hE).mono ?_
  rintro e W2 ⟨rfl, hx⟩
  have HX := Lib.hid (Ext.tr hE hx)
  clear hx r0 r1 c00 c01 c02 c10 c11 c12 hE HS
  go_wp2
  go_ret
  exact ⟨rfl, HX.out⟩
end Go.Proofs.YtbbgmlnfpnomiaaGreatDoor
