/- The walks of strconv.ParseUint (public) at base 16, hash.Parse. -/
import Derived.Test.YthjldedjllkeeaaGreatDoorWPu
import Derived.WideLaws
namespace Go.Proofs.YthjldedjllkeeaaGreatDoor
open Go.RowKit
/-- What the walks read of the library's variables. -/
structure Gl (w : World) : Prop where
  tz : w.cell? ⟨7, 15, none⟩ = some (.int .u8 4)
  syn : ∃ ev, w.cell? ⟨2, 0, none⟩ = some ev ∧ (ev = .nilIface ∨ ∃ te pe, ev = .iface te pe)
  rng : ∃ ev, w.cell? ⟨0, 0, none⟩ = some ev ∧ (ev = .nilIface ∨ ∃ te pe, ev = .iface te pe)
theorem Gl.ext {w w' : World} (h : Gl w) (k : Ext w w') : Gl w' :=
  ⟨k.cell h.tz, h.syn.elim fun ev h => ⟨ev, k.cell h.1, h.2⟩, h.rng.elim fun ev h => ⟨ev, k.cell h.1, h.2⟩⟩
def PuPub (r : Option Nat) (e : Ending) : Prop :=
  match r with
  | some n => e = .returned (.tuple #[cU64 n, .nilIface])
  | none => ∃ (x : Int) (t : TypeId) (v : Value), 0 ≤ x ∧ x < 18446744073709551616 ∧ e = .returned (.tuple #[.int .u64 x, .iface t v])
set_option maxHeartbeats 400000 in
theorem pu_calls (s : ByteArray) (hs : s.size ≤ 281474976710656) (w : World) (hg : Gl w) :
    Calls Tryz.prog 147 #[.string s, .int .i64 16, .int .i64 64] w fun e w' => PuPub (S.pu (S.nums s.data.toList)) e ∧ Ext w w' := by
  have HI := Lib.hid (ipu_calls s (by omega) w)
  have HG := Lib.hid hg
  clear hg
  generalize S.pu (S.nums s.data.toList) = r at *
  go_enter Tryz.func147, Tryz.ntmps147
  go_wp2_with fail
  refine HI.out.mono ?_
  rintro e w1 ⟨he, hx⟩
  have HX := Lib.hid hx
  clear hx
  cases r with
  | some n =>
    obtain rfl : e = .returned (.tuple #[cU64 n, .nilIface]) := he
    go_wp2
    go_ret2
    exact ⟨rfl, HX.out⟩
  | none =>
    obtain ⟨x, c, hcc, hx0, hx1, rfl⟩ : ∃ (x : Int) (c : Int), (c = 1 ∨ c = 2) ∧ 0 ≤ x ∧ x < 18446744073709551616 ∧ e = .returned (.tuple #[.int .u64 x, .iface 262 (.int .i64 c)]) := he
    obtain ⟨ev, hv, hev⟩ := (HG.out.ext HX.out).syn
    obtain ⟨ev2, hv2, hev2⟩ := (HG.out.ext HX.out).rng
    have H1 := Lib.hid (Tryz.strconv_toError_syntax ⟨#[80, 97, 114, 115, 101, 85, 105, 110, 116]⟩ s 16 64 ev w1 hs hv hev)
    have H2 := Lib.hid (Tryz.strconv_toError_range ⟨#[80, 97, 114, 115, 101, 85, 105, 110, 116]⟩ s 16 64 ev2 w1 hs hv2 hev2)
    clear hv hev hv2 hev2
    rcases hcc with rfl | rfl
    · go_wp2_with fail
      refine H2.out.mono ?_
      rintro e w2 ⟨N, rfl, _, _, hb⟩
      have HY := Lib.hid (HX.out.tr hb)
      clear hb
      go_wp2
      go_ret2
      exact ⟨⟨x, _, _, hx0, hx1, rfl⟩, HY.out⟩
    · go_wp2_with fail
      refine H1.out.mono ?_
      rintro e w2 ⟨N, rfl, _, _, hb⟩
      have HY := Lib.hid (HX.out.tr hb)
      clear hb
      go_wp2
      go_ret2
      exact ⟨⟨x, _, _, hx0, hx1, rfl⟩, HY.out⟩
/-- What hash.Parse tells: a digest, or none. -/
def parseH (s : List Nat) : Option Nat := (S.pu s).bind fun n => if S.hexT n = s then some n else none
def ParseEnd (r : Option Nat) : Ending := match r with
  | some n => .returned (.tuple #[cU64 n, .int .i64 0])
  | none => .returned (.tuple #[cU64 0, .int .i64 2])
theorem puFold_lt (l : List Nat) : ∀ n, n < 18446744073709551616 → ∀ m, S.puFold l n = some m → m < 18446744073709551616 := by
  induction l with
  | nil => intro n hn m h; injection h with h; omega
  | cons c l ih =>
    intro n _ m h
    have h' : (S.puStep n c).bind (S.puFold l) = some m := h
    cases hp : S.puStep n c with
    | none => rw [hp] at h'; cases h'
    | some q => rw [hp] at h'; exact ih q (S.puStep_lt hp) m h'
theorem pu_lt {l : List Nat} {m : Nat} (h : S.pu l = some m) : m < 18446744073709551616 := by
  unfold S.pu at h
  split at h
  · cases h
  · exact puFold_lt l 0 (by decide) m h
theorem nums_bstr (l : List Nat) (h : ∀ x ∈ l, x < 256) : S.nums (S.bstr l).data.toList = l := by
  rw [S.bstr_list]
  unfold S.nums
  rw [List.map_map]
  conv => rhs; rw [← List.map_id l]
  refine List.map_congr_left fun x hx => ?_
  show (UInt8.ofNat x).toNat = x
  rw [UInt8.toNat_ofNat']
  exact Nat.mod_eq_of_lt (h x hx)
theorem hexA_bd (k : Nat) : ∀ u, u < 16 ^ (k + 1) → ∀ x ∈ S.hexA u, x < 256 := by
  induction k with
  | zero => intro u h x hx; rw [S.hexA_small (by omega)] at hx; rw [List.mem_singleton] at hx; subst hx; exact S.dig_lt (by omega)
  | succ k ih =>
    intro u h x hx
    by_cases h1 : u < 16
    · rw [S.hexA_small h1] at hx; rw [List.mem_singleton] at hx; subst hx; exact S.dig_lt h1
    · rw [S.hexA_big (by omega), List.mem_append] at hx
      rcases hx with hx | hx
      · exact ih (u / 16) (by rw [Nat.pow_succ] at h; omega) x hx
      · rw [List.mem_singleton] at hx; subst hx; exact S.dig_lt (Nat.mod_lt _ (by decide))
theorem hexT_bd {u : Nat} (h : u < 18446744073709551616) : ∀ x ∈ S.hexT u, x < 256 := by
  intro x hx
  unfold S.hexT at hx
  rw [List.mem_append] at hx
  rcases hx with hx | hx
  · have := List.eq_of_mem_replicate hx; omega
  · exact hexA_bd 15 u (by omega) x hx
theorem text_eq {u : Nat} (h : u < 18446744073709551616) (s : ByteArray) : (S.bstr (S.hexT u)).toList = s.toList ↔ S.hexT u = S.nums s.data.toList := by
  rw [ByteArray.toList_eq, ByteArray.toList_eq]
  constructor
  · intro e; rw [← e, nums_bstr _ (hexT_bd h)]
  · intro e
    rw [e, S.bstr_list]
    unfold S.nums
    rw [List.map_map]
    conv => rhs; rw [← List.map_id s.data.toList]
    refine List.map_congr_left fun x _ => ?_
    show UInt8.ofNat x.toNat = x
    exact UInt8.ofNat_toNat
set_option maxHeartbeats 400000 in
theorem parse_calls (s : ByteArray) (hs : s.size ≤ 281474976710656) (w : World) (hg : Gl w) :
    Calls Tryz.prog 111 #[.string s] w fun e w' => e = ParseEnd (parseH (S.nums s.data.toList)) ∧ Ext w w' := by
  have HI := Lib.hid (pu_calls s hs w hg)
  have HG := Lib.hid hg
  clear hg
  have hp : parseH (S.nums s.data.toList) = (S.pu (S.nums s.data.toList)).bind fun n => if S.hexT n = (S.nums s.data.toList) then some n else none := rfl
  generalize hr : S.pu (S.nums s.data.toList) = r at *
  have HRR := Lib.hid hr
  clear hr
  generalize parseH (S.nums s.data.toList) = v at *
  have HP := Lib.hid hp
  clear hp
  go_enter Tryz.func111, Tryz.ntmps111
  go_wp2_with fail
  refine HI.out.mono ?_
  rintro e w1 ⟨he, hx⟩
  have HX := Lib.hid hx
  clear hx
  cases r with
  | none =>
    obtain ⟨x, t, q, hx0, hx1, rfl⟩ : ∃ (x : Int) (t : TypeId) (v : Value), 0 ≤ x ∧ x < 18446744073709551616 ∧ e = .returned (.tuple #[.int .u64 x, .iface t v]) := he
    go_wp2
    go_ret2
    refine ⟨?_, HX.out⟩
    rw [HP.out]
    rfl
  | some n =>
    obtain rfl : e = .returned (.tuple #[cU64 n, .nilIface]) := he
    have hn := pu_lt HRR.out
    have HT := Lib.hid (text_calls n hn w1 (HG.out.ext HX.out).tz)
    have HE := Lib.hid (text_eq hn s)
    generalize S.bstr (S.hexT n) = Z at *
    by_cases h : Z.toList = s.toList
    · have h1 : (Z.toList == s.toList) = true := by rw [h]; simp
      have h2 : (Z.toList != s.toList) = false := by rw [h]; simp
      have HV := Lib.hid (show v = some n by rw [HP.out, Option.bind_some, if_pos (HE.out.1 h)])
      clear h
      go_wp2_with fail
      refine HT.out.mono ?_
      rintro e w2 ⟨rfl, hx⟩
      have HY := Lib.hid (HX.out.tr hx)
      clear hx
      go_wp2
      go_ret2
      refine ⟨?_, HY.out⟩
      rw [HV.out]
      rfl
    · have h1 : (Z.toList == s.toList) = false := by simpa using h
      have h2 : (Z.toList != s.toList) = true := by simpa using h
      have HV := Lib.hid (show v = none by rw [HP.out, Option.bind_some, if_neg (fun e => h (HE.out.2 e))])
      clear h
      go_wp2_with fail
      refine HT.out.mono ?_
      rintro e w2 ⟨rfl, hx⟩
      have HY := Lib.hid (HX.out.tr hx)
      clear hx
      go_wp2
      go_ret2
      refine ⟨?_, HY.out⟩
      rw [HV.out]
      rfl
end Go.Proofs.YthjldedjllkeeaaGreatDoor
