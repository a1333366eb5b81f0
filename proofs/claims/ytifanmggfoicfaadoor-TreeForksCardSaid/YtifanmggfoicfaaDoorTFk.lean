/- What the law TreeForks leans on, reckoned. -/
import Derived.Test.YtifanmggfoicfaaDoorTKn
set_option linter.unusedVariables false
namespace Go.Proofs.YtifanmggfoicfaaDoor
/-- The stem's block number i; the one branch's, the other's, above a stem of s. -/
def fS (sd : Nat → Nat) (i : Nat) : T.B := mkB ((i : Int) + 1) (sd i) (10 * i) (10 * i + 10)
def fO (od : Nat → Nat → Nat) (s j : Nat) : T.B := mkB ((s : Int) + 1 + 2 * j) (od s j) (10 * s + 3 * j) (10 * s + 3 * j + 3)
def fP (pd : Nat → Nat → Nat) (s j : Nat) : T.B := mkB ((s : Int) + 2 + 2 * j) (pd s j) (10 * s + 4 * j) (10 * s + 4 * j + 4)
def sT (sd : Nat → Nat) : Nat → List (Nat × T.B)
  | 0 => T.new
  | m + 1 => (sd (m + 1), fS sd m) :: sT sd m
def oT (sd : Nat → Nat) (od : Nat → Nat → Nat) (s : Nat) : Nat → List (Nat × T.B)
  | 0 => sT sd s
  | m + 1 => (od s (m + 1), fO od s m) :: oT sd od s m
def pT (sd : Nat → Nat) (od pd : Nat → Nat → Nat) (s p : Nat) : Nat → List (Nat × T.B)
  | 0 => oT sd od s p
  | m + 1 => (pd s (m + 1), fP pd s m) :: pT sd od pd s p m
def sW (sd : Nat → Nat) : Nat → List Nat
  | 0 => [0]
  | m + 1 => sd (m + 1) :: sW sd m
def oW (sd : Nat → Nat) (od : Nat → Nat → Nat) (s : Nat) : Nat → List Nat
  | 0 => sW sd s
  | m + 1 => od s (m + 1) :: oW sd od s m
theorem sT_len (sd : Nat → Nat) : ∀ m, (sT sd m).length = m + 1
  | 0 => rfl
  | m + 1 => by rw [sT, List.length_cons, sT_len sd m]
theorem oT_len (sd : Nat → Nat) (od : Nat → Nat → Nat) (s : Nat) : ∀ m, (oT sd od s m).length = s + 1 + m
  | 0 => sT_len sd s
  | m + 1 => by rw [oT, List.length_cons, oT_len sd od s m]; omega
theorem pT_len (sd : Nat → Nat) (od pd : Nat → Nat → Nat) (s p : Nat) : ∀ m, (pT sd od pd s p m).length = s + 1 + p + m
  | 0 => oT_len sd od s p
  | m + 1 => by rw [pT, List.length_cons, pT_len sd od pd s p m]; omega
theorem sW_len (sd : Nat → Nat) : ∀ m, (sW sd m).length = m + 1
  | 0 => rfl
  | m + 1 => by rw [sW, List.length_cons, sW_len sd m]
theorem oW_len (sd : Nat → Nat) (od : Nat → Nat → Nat) (s : Nat) : ∀ m, (oW sd od s m).length = s + 1 + m
  | 0 => sW_len sd s
  | m + 1 => by rw [oW, List.length_cons, oW_len sd od s m]; omega
structure Fk17 (sd : Nat → Nat) (od pd : Nat → Nat → Nat) : Prop where
  z : sd 0 = 0
  o0 : ∀ s, s < 8 → od s 0 = sd s
  p0 : ∀ s, s < 8 → pd s 0 = sd s
  ds : ∀ i, i < 7 → T.dig (fS sd i) = sd (i + 1)
  do_ : ∀ s, s < 8 → ∀ j, j < 6 → T.dig (fO od s j) = od s (j + 1)
  dp : ∀ s, s < 8 → ∀ j, j < 6 → T.dig (fP pd s j) = pd s (j + 1)
  ls : ∀ i, i < 8 → sd i < 18446744073709551616
  lo : ∀ s, s < 8 → ∀ j, j < 7 → od s j < 18446744073709551616
  lp : ∀ s, s < 8 → ∀ j, j < 7 → pd s j < 18446744073709551616
  cs : ∀ i, i < 7 → T.code (sT sd i) (sd (i + 1)) (fS sd i) = 0
  co : ∀ s, s < 8 → ∀ j, j < 6 → T.code (oT sd od s j) (od s (j + 1)) (fO od s j) = 0
  cp : ∀ s, s < 8 → ∀ p, p < 6 → ∀ j, j < 6 → T.code (pT sd od pd s (p + 1) j) (pd s (j + 1)) (fP pd s j) = 0
  wo : ∀ s, s < 8 → ∀ p, p < 6 → ∀ q, q < 6 → T.way (pT sd od pd s (p + 1) (q + 1)) 20 (od s (p + 1)) = some (oW sd od s (p + 1))
  wp : ∀ s, s < 8 → ∀ p, p < 6 → ∀ q, q < 6 → T.way (pT sd od pd s (p + 1) (q + 1)) 20 (pd s (q + 1)) = some (oW sd pd s (q + 1))
  no : ∀ s, s < 8 → ∀ p, p < 6 → ∀ q, q < 6 → pd s (q + 1) ∉ oW sd od s (p + 1)
  np : ∀ s, s < 8 → ∀ p, p < 6 → ∀ q, q < 6 → od s (p + 1) ∉ oW sd pd s (q + 1)
  io : ∀ s, s < 8 → ∀ p, p < 6 → ∀ i, i < s + 1 → sd i ∈ oW sd od s (p + 1)
  ip : ∀ s, s < 8 → ∀ q, q < 6 → ∀ i, i < s + 1 → sd i ∈ oW sd pd s (q + 1)
  mo : ∀ s, s < 8 → ∀ p, p < 6 → ∀ q, q < 6 → (T.commit (pT sd od pd s (p + 1) (q + 1)) (oW sd od s (p + 1))).isSome = (decide (p = 0) && decide (2 ≤ s))
  mp : ∀ s, s < 8 → ∀ p, p < 6 → ∀ q, q < 6 → (T.commit (pT sd od pd s (p + 1) (q + 1)) (oW sd pd s (q + 1))).isSome = false
  lwo : ∀ s, s < 8 → ∀ p, p < 7 → ∀ x ∈ oW sd od s p, x < 18446744073709551616
  lwp : ∀ s, s < 8 → ∀ p, p < 7 → ∀ x ∈ oW sd pd s p, x < 18446744073709551616
def tabS : List Nat := [0, 15207245438665048937, 9246956716546406834, 18220417638898545749, 15144991905814429422, 695510333882145170, 9430642276138877386, 13563222252793609325]
def tabO : List (List Nat) := [[0, 1436251077379021347, 12309925105618026877, 5761239766555030189, 11155557754899450593, 9041306511752180728, 5499578669701157881], [15207245438665048937, 11173148519875534406, 6738519101465322284, 4006001691707162488, 8997424688084734902, 8316882533638741288, 15122406679996970190], [9246956716546406834, 8664964613415925917, 2726577074853920278, 8610101345997148387, 4032147569927711729, 9356842178754660065, 9236016636376222408], [18220417638898545749, 3172712973141540851, 7063953202282628556, 7147390941061494639, 14173456189169621012, 15716201119066533474, 280246025139233379], [15144991905814429422, 8456444572672437446, 81833146301756442, 10815142828901716774, 476895776872203668, 1586287468487464725, 4105840469041491113], [695510333882145170, 2117786035302673879, 15261560385806076626, 11521247236394304712, 13759777721625955411, 11836301626463814321, 2873963391943552380], [9430642276138877386, 8156450107685433383, 12877867949543993276, 9224395278801175938, 12079248421494650688, 16975114685135753909, 9489107696889511983], [13563222252793609325, 5296506033071404027, 3196770225229354835, 5598761336068485326, 14891815581968244773, 2338916369816172248, 7257438796942296482]]
def tabP : List (List Nat) := [[0, 898389654222633880, 3645917144749431895, 1379860710485991769, 2286366258288277185, 13802653581424279132, 10270437493088064207], [15207245438665048937, 1919484180521055362, 6521113299595901467, 1907175021482985578, 7686401024753111188, 4884773003253491082, 8611126124124720277], [9246956716546406834, 5542101689545591034, 7703148542477558352, 4334434186514240524, 13488416816282638216, 9115461225741935977, 1023604475321258418], [18220417638898545749, 7727070352890386544, 13504354306268273814, 14901715545592493161, 9702367625537157859, 14747453134983563666, 8444469490467415617], [15144991905814429422, 6368831170327032282, 1250202645042142269, 9122736321534281745, 8350945041815332220, 7620074347073603253, 10381466223522693004], [695510333882145170, 12777595169362721979, 17329525639941077486, 18062709401771137212, 1516681243543232798, 10005892857876990009, 17697171423563120170], [9430642276138877386, 16059702241763892313, 16497354501145209260, 10417129042860101697, 10568383168494277567, 581287610019223735, 18442839560683802597], [13563222252793609325, 1134834913644243630, 12353814929266215136, 1355604742527478010, 1697706507632924362, 8922138141818797361, 15985916383626087638]]
abbrev fnS (i : Nat) : Nat := tabS.getD i 0
abbrev fnO (s j : Nat) : Nat := (tabO.getD s []).getD j 0
abbrev fnP (s j : Nat) : Nat := (tabP.getD s []).getD j 0
theorem fk1 : ∀ i, i < 7 → (T.ok (fS fnS i) && decide (T.digF (fS fnS i) = fnS (i + 1))) = true := by decide +kernel
theorem fk2 : ∀ s, s < 8 → ∀ j, j < 6 → (T.ok (fO fnO s j) && decide (T.digF (fO fnO s j) = fnO s (j + 1))) = true := by decide +kernel
theorem fk3 : ∀ s, s < 8 → ∀ j, j < 6 → (T.ok (fP fnP s j) && decide (T.digF (fP fnP s j) = fnP s (j + 1))) = true := by decide +kernel
theorem fk4 : ∀ s, s < 8 → ∀ p, p < 6 → ∀ j, j < 6 → T.code (pT fnS fnO fnP s (p + 1) j) (fnP s (j + 1)) (fP fnP s j) = 0 := by decide +kernel
theorem fk5 : ∀ s, s < 8 → ∀ p, p < 6 → ∀ q, q < 6 → T.way (pT fnS fnO fnP s (p + 1) (q + 1)) 20 (fnO s (p + 1)) = some (oW fnS fnO s (p + 1)) := by decide +kernel
theorem fk6 : ∀ s, s < 8 → ∀ p, p < 6 → ∀ q, q < 6 → T.way (pT fnS fnO fnP s (p + 1) (q + 1)) 20 (fnP s (q + 1)) = some (oW fnS fnP s (q + 1)) := by decide +kernel
theorem fk7 : ∀ s, s < 8 → ∀ p, p < 6 → ∀ q, q < 6 → (T.commit (pT fnS fnO fnP s (p + 1) (q + 1)) (oW fnS fnO s (p + 1))).isSome = (decide (p = 0) && decide (2 ≤ s)) := by decide +kernel
theorem fk8 : ∀ s, s < 8 → ∀ p, p < 6 → ∀ q, q < 6 → (T.commit (pT fnS fnO fnP s (p + 1) (q + 1)) (oW fnS fnP s (q + 1))).isSome = false := by decide +kernel
theorem fk17 : ∃ sd od pd, Fk17 sd od pd :=
  ⟨fnS, fnO, fnP, rfl, by decide +kernel, by decide +kernel, fun i hi => dig_mk _ _ _ _ _ (fk1 i hi), fun s hs j hj => dig_mk _ _ _ _ _ (fk2 s hs j hj), fun s hs j hj => dig_mk _ _ _ _ _ (fk3 s hs j hj),
    by decide +kernel, by decide +kernel, by decide +kernel, by decide +kernel, by decide +kernel, fk4, fk5, fk6, by decide +kernel, by decide +kernel, by decide +kernel, by decide +kernel, fk7, fk8, by decide +kernel, by decide +kernel⟩
end Go.Proofs.YtifanmggfoicfaaDoor
