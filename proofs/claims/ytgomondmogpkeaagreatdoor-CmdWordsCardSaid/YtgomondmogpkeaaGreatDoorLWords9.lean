/- The walk of the law CmdWords. -/
import Derived.Test.YtgomondmogpkeaaGreatDoorWKnown9
import Derived.Test.YtgomondmogpkeaaGreatDoorWRParse9
import Derived.Test.YtgomondmogpkeaaGreatDoorGrow
set_option linter.unusedVariables false
namespace Go.Proofs.YtgomondmogpkeaaGreatDoor
open Go.RowKit Go.Sort
theorem parseC_cases (s : List UInt8) : (∃ (c n f t a : Int) (k : Nat), parseC s = ((c, n, f, t, a), k) ∧ ((k : Int) == 0) = false) ∨
    ∃ c n f t a, parseC s = ((c, n, f, t, a), 0) ∧ I5 c n f t a ∧ numsL [c, n, f, t, a] = s := by
  unfold parseC
  rcases pnums_cases s with ⟨n, hn, hn0⟩ | ⟨l, hl⟩
  · rw [hn]
    exact .inl ⟨_, _, _, _, _, _, rfl, hn0⟩
  · rw [hl]
    have h := J.numsL_pnums hl
    match l, h with
    | [], _ => exact .inl ⟨_, _, _, _, _, _, rfl, rfl⟩
    | [_], _ => exact .inl ⟨_, _, _, _, _, _, rfl, rfl⟩
    | [_, _], _ => exact .inl ⟨_, _, _, _, _, _, rfl, rfl⟩
    | [_, _, _], _ => exact .inl ⟨_, _, _, _, _, _, rfl, rfl⟩
    | [_, _, _, _], _ => exact .inl ⟨_, _, _, _, _, _, rfl, rfl⟩
    | _ :: _ :: _ :: _ :: _ :: _ :: _, _ => exact .inl ⟨_, _, _, _, _, _, rfl, rfl⟩
    | [c, n, f, t, a], h =>
      dsimp only
      split
      · split
        · exact .inr ⟨c, n, f, t, a, rfl, ⟨h.2 c (by simp), h.2 n (by simp), h.2 f (by simp), h.2 t (by simp), h.2 a (by simp)⟩, h.1⟩
        · exact .inl ⟨_, _, _, _, _, _, rfl, rfl⟩
      · exact .inl ⟨_, _, _, _, _, _, rfl, rfl⟩
set_option maxHeartbeats 4000000 in
set_option maxRecDepth 100000 in
theorem cmdWords_walk (s : ByteArray) (w : World) (hr : RngOk w) (ht : TabOk w) :
    Calls Tryz.prog 10 #[.string s] w fun e w' => e = .returned (.bool true) ∧ Ext w w' := by
  have HK := Lib.hid (known9_calls w hr ht)
  have HR := Lib.hid hr
  have HT := Lib.hid ht.all
  clear hr ht
  by_cases hbig : 300 < s.size
  · have hb : (300 : Int) < s.size := by omega
    clear hbig
    go_enter Tryz.func10, Tryz.ntmps10
    go_wp2_with fail
    refine HK.out.mono ?_
    rintro e w1 ⟨rfl, hx⟩
    have HX := Lib.hid hx
    clear hx
    go_wp2
    go_ret
    exact ⟨rfl, HX.out⟩
  · have hb : (s.size : Int) ≤ 300 := by omega
    have HP := Lib.hid (fun w hr => cparse_calls s (by omega) w hr)
    have HQ := Lib.hid (fun w => rparse_calls s (by omega) w)
    rcases parseC_cases (bs s) with ⟨c, n, f, t, a, k, h, hk⟩ | ⟨c, n, f, t, a, h, h5, hs⟩
    · rw [h] at HP HQ
      have hk1 := bne_f hk
      have HOf := Lib.hid (fun W => of9_calls c n f t a W)
      clear h hbig
      go_enter Tryz.func10, Tryz.ntmps10
      go_wp2_with fail
      refine HK.out.mono ?_
      rintro e w1 ⟨rfl, hx⟩
      have HX1 := Lib.hid hx
      clear hx
      go_wp2_with fail
      refine (HP.out _ (HR.out.ext HX1.out)).mono ?_
      rintro e w2 ⟨he, hx⟩
      obtain rfl : e = .returned (.tuple #[cV c n f t a, .int .i64 (k : Int)]) := he
      have HX2 := Lib.hid ((HX1.out.tr hx).alloc (.cells #[.int .i64 c, .int .i64 n, .int .i64 f, .int .i64 t, .int .i64 a] 54))
      have H2 := Lib.hid (Five.new w2 54 c n f t a)
      clear hx
      go_wp2_with fail
      refine (HQ.out _).mono ?_
      rintro e w3 ⟨he, hx⟩
      obtain rfl : e = .returned (.tuple #[cV c n f t a, .int .i64 (k : Int)]) := he
      have HX3 := Lib.hid ((HX2.out.tr hx).alloc (.cells #[.int .i64 c, .int .i64 n, .int .i64 f, .int .i64 t, .int .i64 a] 56))
      have h3 := H2.out.ext (hx.alloc (.cells #[.int .i64 c, .int .i64 n, .int .i64 f, .int .i64 t, .int .i64 a] 56))
      have h4 := Five.new w3 56 c n f t a
      clear hx
      have hlt := h3.lt
      go_wp2_with fail
      generalize w3.alloc (.cells #[.int .i64 c, .int .i64 n, .int .i64 f, .int .i64 t, .int .i64 a] 56) = W at *
      have L1 : ∀ x : ExtW W, Five x.1 w2.heap.size 54 c n f t a := fun x => h3.ext x.2
      have L2 : ∀ x : ExtW W, Five x.1 w3.heap.size 56 c n f t a := fun x => h4.ext x.2
      have c0 : ∀ x : ExtW W, x.1.cell? ⟨w2.heap.size, 0, none⟩ = some (.int .i64 c) := fun x => (L1 x).cells.1
      have c1 : ∀ x : ExtW W, x.1.cell? ⟨w2.heap.size, 1, none⟩ = some (.int .i64 n) := fun x => (L1 x).cells.2.1
      have c2 : ∀ x : ExtW W, x.1.cell? ⟨w2.heap.size, 2, none⟩ = some (.int .i64 f) := fun x => (L1 x).cells.2.2.1
      have c3 : ∀ x : ExtW W, x.1.cell? ⟨w2.heap.size, 3, none⟩ = some (.int .i64 t) := fun x => (L1 x).cells.2.2.2.1
      have c4 : ∀ x : ExtW W, x.1.cell? ⟨w2.heap.size, 4, none⟩ = some (.int .i64 a) := fun x => (L1 x).cells.2.2.2.2
      have d0 : ∀ x : ExtW W, x.1.cell? ⟨w3.heap.size, 0, none⟩ = some (.int .i64 c) := fun x => (L2 x).cells.1
      have d1 : ∀ x : ExtW W, x.1.cell? ⟨w3.heap.size, 1, none⟩ = some (.int .i64 n) := fun x => (L2 x).cells.2.1
      have d2 : ∀ x : ExtW W, x.1.cell? ⟨w3.heap.size, 2, none⟩ = some (.int .i64 f) := fun x => (L2 x).cells.2.2.1
      have d3 : ∀ x : ExtW W, x.1.cell? ⟨w3.heap.size, 3, none⟩ = some (.int .i64 t) := fun x => (L2 x).cells.2.2.2.1
      have d4 : ∀ x : ExtW W, x.1.cell? ⟨w3.heap.size, 4, none⟩ = some (.int .i64 a) := fun x => (L2 x).cells.2.2.2.2
      clear h3 h4 L1 L2
      refine wp_region_grow (by kernel_rfl) (by kernel_rfl) ?_
      repeat (any_goals (go_big_quiet_step ((go_at_call 36; exact grow_of (HOf.out _)))))
      refine wpQuiet_nil ?_
      rintro _ ⟨⟨w4, hx4⟩, rfl⟩
      have HX4 := Lib.hid (HX3.out.tr hx4)
      clear hx4 c0 c1 c2 c3 c4 d0 d1 d2 d3 d4
      go_wp2
      go_ret
      exact ⟨rfl, HX4.out⟩
    · rw [h] at HP HQ
      have hts : textC c n f t a = s := by
        show strOf _ = _
        rw [hs]
      have HOf := Lib.hid (fun W => of9_calls c n f t a W)
      have HTX := Lib.hid (fun W hT => hts ▸ ctext_calls c n f t a h5 W hT)
      clear hts
      clear h hbig hs h5
      go_enter Tryz.func10, Tryz.ntmps10
      go_wp2_with fail
      refine HK.out.mono ?_
      rintro e w1 ⟨rfl, hx⟩
      have HX1 := Lib.hid hx
      clear hx
      go_wp2_with fail
      refine (HP.out _ (HR.out.ext HX1.out)).mono ?_
      rintro e w2 ⟨he, hx⟩
      obtain rfl : e = .returned (.tuple #[cV c n f t a, .int .i64 0]) := he
      have HX2 := Lib.hid ((HX1.out.tr hx).alloc (.cells #[.int .i64 c, .int .i64 n, .int .i64 f, .int .i64 t, .int .i64 a] 54))
      have H2 := Lib.hid (Five.new w2 54 c n f t a)
      clear hx
      go_wp2_with fail
      refine (HQ.out _).mono ?_
      rintro e w3 ⟨he, hx⟩
      obtain rfl : e = .returned (.tuple #[cV c n f t a, .int .i64 0]) := he
      have HX3 := Lib.hid ((HX2.out.tr hx).alloc (.cells #[.int .i64 c, .int .i64 n, .int .i64 f, .int .i64 t, .int .i64 a] 56))
      have h3 := H2.out.ext (hx.alloc (.cells #[.int .i64 c, .int .i64 n, .int .i64 f, .int .i64 t, .int .i64 a] 56))
      have h4 := Five.new w3 56 c n f t a
      clear hx
      have hlt := h3.lt
      go_wp2_with fail
      generalize w3.alloc (.cells #[.int .i64 c, .int .i64 n, .int .i64 f, .int .i64 t, .int .i64 a] 56) = W at *
      have L1 : ∀ x : ExtW W, Five x.1 w2.heap.size 54 c n f t a := fun x => h3.ext x.2
      have L2 : ∀ x : ExtW W, Five x.1 w3.heap.size 56 c n f t a := fun x => h4.ext x.2
      have c0 : ∀ x : ExtW W, x.1.cell? ⟨w2.heap.size, 0, none⟩ = some (.int .i64 c) := fun x => (L1 x).cells.1
      have c1 : ∀ x : ExtW W, x.1.cell? ⟨w2.heap.size, 1, none⟩ = some (.int .i64 n) := fun x => (L1 x).cells.2.1
      have c2 : ∀ x : ExtW W, x.1.cell? ⟨w2.heap.size, 2, none⟩ = some (.int .i64 f) := fun x => (L1 x).cells.2.2.1
      have c3 : ∀ x : ExtW W, x.1.cell? ⟨w2.heap.size, 3, none⟩ = some (.int .i64 t) := fun x => (L1 x).cells.2.2.2.1
      have c4 : ∀ x : ExtW W, x.1.cell? ⟨w2.heap.size, 4, none⟩ = some (.int .i64 a) := fun x => (L1 x).cells.2.2.2.2
      have d0 : ∀ x : ExtW W, x.1.cell? ⟨w3.heap.size, 0, none⟩ = some (.int .i64 c) := fun x => (L2 x).cells.1
      have d1 : ∀ x : ExtW W, x.1.cell? ⟨w3.heap.size, 1, none⟩ = some (.int .i64 n) := fun x => (L2 x).cells.2.1
      have d2 : ∀ x : ExtW W, x.1.cell? ⟨w3.heap.size, 2, none⟩ = some (.int .i64 f) := fun x => (L2 x).cells.2.2.1
      have d3 : ∀ x : ExtW W, x.1.cell? ⟨w3.heap.size, 3, none⟩ = some (.int .i64 t) := fun x => (L2 x).cells.2.2.2.1
      have d4 : ∀ x : ExtW W, x.1.cell? ⟨w3.heap.size, 4, none⟩ = some (.int .i64 a) := fun x => (L2 x).cells.2.2.2.2
      clear h3 h4 L1 L2
      have HTX2 := Lib.hid (fun x : ExtW W => HTX.out x.1 (HT.out _ (HX3.out.tr x.2)))
      refine wp_region_grow (by kernel_rfl) (by kernel_rfl) ?_
      repeat (any_goals (go_big_quiet_step (first | (go_at_call 36; exact grow_of (HOf.out _)) | (go_at_call 38; exact grow_of (HTX2.out _)))))
      refine wpQuiet_nil ?_
      rintro _ ⟨⟨w4, hx4⟩, rfl⟩
      have HX4 := Lib.hid (HX3.out.tr hx4)
      clear hx4 c0 c1 c2 c3 c4 d0 d1 d2 d3 d4
      go_wp2
      go_ret
      exact ⟨rfl, HX4.out⟩
theorem cmdWords_walk' {w : World} (s : ByteArray) (_ws : s.size ≤ maxLen) (hg : RngOk w ∧ TabOk w) :
    Calls Tryz.prog 10 #[.string s] w fun e w' => e = .returned (.bool true) ∧ Ext w w' := cmdWords_walk s w hg.1 hg.2
end Go.Proofs.YtgomondmogpkeaaGreatDoor
