/- What known() of law 11 leans on, reckoned. -/
import Derived.Test.YtbbgmlnfpnomiaaGreatDoorStE
import Derived.Test.YtbbgmlnfpnomiaaGreatDoorStK
set_option linter.unusedVariables false
set_option linter.unusedSimpArgs false
namespace Go.Proofs.YtbbgmlnfpnomiaaGreatDoor
open Go.RowKit Go.Sort
theorem nums_inj {a b : List UInt8} (h : S.nums a = S.nums b) : a = b := by
  have e : ∀ l : List UInt8, (S.nums l).map UInt8.ofNat = l := fun l => by
    rw [S.nums, List.map_map]
    conv => rhs; rw [← List.map_id l]
    exact List.map_congr_left fun x _ => UInt8.ofNat_toNat
  rw [← e a, ← e b, h]
/-- What is signed, as numbers. -/
def stTF (c who at_ : Nat) : List Nat := T.joinF [[115, 116, 97, 109, 112], T.hexG 16 c, T.decF 12 who, T.decF 12 at_]
theorem stT_fast (c : Nat) (hc : c < 18446744073709551616) (who at_ : Nat) (hw : who < 10000000000000) (ha : at_ < 10000000000000) : S.nums (K.stT c (who : Int) (at_ : Int)) = stTF c who at_ := by
  have hp : ∀ s ∈ K.stW c (who : Int) (at_ : Int), ∀ x ∈ s, J.special x = false := by
    intro s hs
    simp only [K.stW, List.mem_cons, List.not_mem_nil, or_false] at hs
    rcases hs with rfl | rfl | rfl | rfl
    · intro x hx; revert x; decide
    · exact T.hexB_plain _
    · exact T.itoa_plain _
    · exact T.itoa_plain _
  unfold K.stT
  rw [T.join_fast _ hp]
  simp only [K.stW, List.map_cons, List.map_nil]
  rw [T.itoa_fast _ (by omega) (by omega), T.itoa_fast _ (by omega) (by omega), T.hexB_nums]
  unfold stTF S.hexT
  rw [T.hex_fast 15 c hc]
  rfl
def stDF (c who at_ : Nat) : Nat := S.mixC ((stTF c who at_).foldl S.mixC 12706832152516552162) (stTF c who at_).length
theorem stD_fast (c : Nat) (hc : c < 18446744073709551616) (who at_ : Nat) (hw : who < 10000000000000) (ha : at_ < 10000000000000) : K.stD c (who : Int) (at_ : Int) = stDF c who at_ := by
  have e := stT_fast c hc who at_ hw ha
  have el : (K.stT c (who : Int) (at_ : Int)).length = (stTF c who at_).length := by rw [← e]; simp [S.nums]
  have et : S.tagN K.tagS = 12706832152516552162 := by
    rw [S.tagN, S.mixN_C]
    decide +kernel
  rw [K.stD, S.sumN, el, e, et, S.mixN_C]
  rfl
theorem stT11 : K.stT 77 2 9 = [124, 115, 116, 97, 109, 112, 124, 48, 48, 48, 48, 48, 48, 48, 48, 48, 48, 48, 48, 48, 48, 52, 100, 124, 50, 124, 57] := by
  refine nums_inj ?_
  have := stT_fast 77 (by decide) 2 9 (by decide) (by decide)
  rw [show K.stT 77 2 9 = K.stT 77 ((2 : Nat) : Int) ((9 : Nat) : Int) from rfl, this]
  decide +kernel
theorem d9_C : K.stD 77 2 9 = 10245224531534997766 := by
  have := stD_fast 77 (by decide) 2 9 (by decide) (by decide)
  rw [show K.stD 77 2 9 = K.stD 77 ((2 : Nat) : Int) ((9 : Nat) : Int) from rfl, this]
  decide +kernel
theorem d10_C : K.stD 77 2 10 = 16565649433065096176 := by
  have := stD_fast 77 (by decide) 2 10 (by decide) (by decide)
  rw [show K.stD 77 2 10 = K.stD 77 ((2 : Nat) : Int) ((10 : Nat) : Int) from rfl, this]
  decide +kernel
theorem q0_C : K.pubC (K.secsC 7 0) = 4775992049909665319 := by decide +kernel
theorem q1_C : K.pubC (K.secsC 7 1) = 2314445641875094269 := by decide +kernel
theorem bad11_C : decide (K.twoC 11560593496035449956 (K.recC (K.signC (K.secsC 7 0) 10245224531534997766) 16565649433065096176) 2314445641875094269 = K.twoC 11560593496035449956 4775992049909665319 2314445641875094269) = false := by decide +kernel
theorem bad11 : decide (K.climb (K.rec (K.sign (K.secs 7 0) (K.stD 77 2 9)) (K.stD 77 2 10)) 0 (K.path 1 (K.pubs 7 1) 0) = K.root 1 (K.pubs 7 1)) = false := by
  have e1 : K.path 1 (K.pubs 7 1) 0 = [K.pub (K.secs 7 1)] := by rw [K.pubs_two]; rfl
  have e2 : K.root 1 (K.pubs 7 1) = S.twoN K.tMT (K.pub (K.secs 7 0)) (K.pub (K.secs 7 1)) := by rw [K.pubs_two]; rfl
  have e3 : ∀ x y, K.climb x 0 [y] = S.twoN K.tMT x y := fun _ _ => rfl
  rw [e1, e2, e3, K.two_C _ _ K.e_MT, K.rec_C, K.sign_C, K.pub_C, K.pub_C, K.secs_C, K.secs_C, q0_C, q1_C, d9_C, d10_C]
  exact bad11_C
/-- A key's own signature. -/
theorem vsig_own (seed h i d : Nat) (hi : i < 2 ^ h) (hh : h ≤ 8) : K.vsig (K.root h (K.pubs seed h)) d (i : Int) (K.sign (K.secs seed i) d) (K.path h (K.pubs seed h) i) (h : Int) = true := by
  have hl := K.path_len h (K.pubs seed h) i
  rw [K.vsig, decide_eq_true (by rw [hl]), Bool.true_and, vpath_in ⟨by omega, by rw [hl]; exact hi⟩, decide_eq_true (K.key_holds seed h i d hi)]
/-- A stamp of a replica's own key is valid. -/
theorem validE_own (seed h k i : Nat) (hk : k < 4) (hi : i < 2 ^ h) (hh : h ≤ 8) (cmd : Nat) (at_ : Int) (ha : K.whenE at_ = 0) :
    K.validE 1 (kRoots seed h 4) (h : Int) cmd (k : Int) at_ (k : Int) (i : Int) (K.sign (K.secs (kSeed seed k) i) (K.stD cmd (k : Int) at_)) (K.path h (K.pubs (kSeed seed k) h) i) = 0 := by
  rw [K.validE, if_pos ⟨by rw [K.whoE, if_pos (by omega)], ha⟩, sgn_in (by rw [kRoots_len]; exact hk) rfl, kRoots_at _ _ _ _ hk, kRoot, vsig_own _ _ _ _ hi hh]
  rfl
noncomputable def d11 : Nat := K.stD 77 2 9
noncomputable def one11 : List Nat := K.sign (K.secs (kSeed 5 2) 0) d11
noncomputable def path11 : List Nat := K.path 1 (K.pubs (kSeed 5 2) 1) 0
theorem path11_len : path11.length = 1 := K.path_len _ _ _
theorem path11_lt : ∀ x ∈ path11, x < 18446744073709551616 := path_lt _ _ _
theorem one11_len : one11.length = 18 := own_len _ _ _
theorem one11_lt : ∀ x ∈ one11, x < 18446744073709551616 := own_lt _ _ _
noncomputable def st11 : K.St := ⟨77, 2, 9, ⟨2, 0, one11, path11⟩⟩
theorem st11_ok : K.StOk st11 := ⟨by decide, by unfold I64; decide, by unfold I64; decide, ⟨by unfold I64; decide, by unfold I64; decide, one11_lt, path11_lt, one11_len⟩⟩
theorem vE1 : K.validE 1 (kRoots 5 1 4) 1 77 2 9 2 0 one11 path11 = 0 := validE_own 5 1 2 0 (by decide) (by decide) (by decide) 77 9 (by decide)
theorem vE2 : K.validE 1 (kRoots 5 1 4) 1 77 2 10 2 0 one11 path11 = 7 := by
  have h7 : kSeed 5 2 = 7 := by decide
  have hs : K.sgn (kRoots 5 1 4) 1 2 2 0 one11 path11 (K.stD 77 2 10) = false := by
    have e := sgn_in (roots := kRoots 5 1 4) (ht := 1) (sw := 2) (leaf := 0) (one := one11) (path := path11) (d := K.stD 77 2 10) (k := 2) (by rw [kRoots_len]; decide) rfl
    refine e.trans ?_
    rw [kRoots_at _ _ _ _ (by decide), kRoot, K.vsig, decide_eq_true (by rw [path11_len]; rfl), Bool.true_and]
    refine (vpath_in (i := 0) ⟨by rw [path11_len]; decide, by rw [path11_len]; decide⟩).trans ?_
    unfold one11 path11 d11
    rw [h7]
    exact bad11
  rw [K.validE, if_pos ⟨by decide, by decide⟩, hs]
  rfl
theorem vE3 : K.validE 1 (kRoots 5 1 4) 1 77 1 9 2 0 one11 path11 = 7 := by
  rw [K.validE, if_pos ⟨by decide, by decide⟩, sgn_no (by decide)]
  rfl
end Go.Proofs.YtbbgmlnfpnomiaaGreatDoor
