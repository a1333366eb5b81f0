/- The keys of four replicas: law 11's Keys. -/
import Derived.Test.YtbbgmlnfpnomiaaGreatDoorStC
set_option linter.unusedVariables false
set_option linter.unusedSimpArgs false
namespace Go.Proofs.YtbbgmlnfpnomiaaGreatDoor
open Go.RowKit Go.Sort
/-- A key's seed. -/
def kSeed (seed i : Nat) : Nat := (seed + i) % 18446744073709551616
theorem kSeed_lt (seed i : Nat) : kSeed seed i < 18446744073709551616 := Nat.mod_lt _ (by decide)
/-- The keys' roots. -/
noncomputable def kRoot (seed h i : Nat) : Nat := K.root h (K.pubs (kSeed seed i) h)
noncomputable def kRoots (seed h n : Nat) : List Nat := (List.range n).map (kRoot seed h)
theorem kRoots_len (seed h n : Nat) : (kRoots seed h n).length = n := by simp [kRoots]
theorem kRoots_snoc (seed h n : Nat) : kRoots seed h (n + 1) = kRoots seed h n ++ [kRoot seed h n] := by
  unfold kRoots
  rw [List.range_succ, List.map_append]
  rfl
theorem kRoots_at (seed h n i : Nat) (hi : i < n) : (kRoots seed h n).getD i 0 = kRoot seed h i := by
  simp [kRoots, List.getD, hi]
theorem kRoots_lt (seed h n : Nat) : ∀ x ∈ kRoots seed h n, x < 18446744073709551616 := by
  intro x hx
  obtain ⟨i, _, rfl⟩ := List.mem_map.1 hx
  exact root_lt _ _
/-- Keys that lie apart: each of its own seed, the leaves used till now, the leaves promised. -/
structure KS (W : World) (kb : Nat → Nat) (A : Nat → Option Addr) (c : Nat → Nat) (seed h n : Nat) (nx : Nat → Int) (bd : Int) : Prop where
  ka : ∀ i, i < n → KA W (kb i) (i : Int) (kSeed seed i) h (A i) (c i) (nx i) bd
  ne : ∀ i j, i < n → j < n → i ≠ j → kb i ≠ kb j
  na : ∀ i j, i < n → j < n → ∀ ad, A i = some ad → ad.block ≠ kb j
section
variable {W W' : World} {kb : Nat → Nat} {A : Nat → Option Addr} {c : Nat → Nat} {seed h n : Nat} {nx : Nat → Int} {bd : Int}
theorem KS.ext (k : KS W kb A c seed h n nx bd) (x : Ext W W') : KS W' kb A c seed h n nx bd := ⟨fun i hi => (k.ka i hi).ext x, k.ne, k.na⟩
theorem KA.alt {kb : Nat} {who : Int} {seed h : Nat} {A : Option Addr} {c : Nat} {next bound : Int} (k : KA W kb who seed h A c next bound) : ∀ ad, A = some ad → ad.block < W.heap.size := fun ad e => by
  rcases k.rd with h0 | ⟨ad', e', hb', _⟩
  · have := congrArg List.length h0
    simp [K.pubs_len] at this
  · rw [e] at e'; cases e'; exact hb'
/-- One of the keys was used. -/
theorem KS.use (k : KS W kb A c seed h n nx bd) {i : Nat} (hi : i < n) {v : Int} (g : KG (kb i) W W') (ki : KA W' (kb i) (i : Int) (kSeed seed i) h (A i) (c i) v bd) : KS W' kb A c seed h n (fun j => if j = i then v else nx j) bd := by
  refine ⟨fun j hj => ?_, k.ne, k.na⟩
  by_cases e : j = i
  · subst e
    rw [if_pos rfl]
    exact ki
  · rw [if_neg e]
    exact (k.ka j hj).kg g (k.ne j i hj hi e) (k.na j i hj hi)
/-- One key more. -/
theorem KS.more (k : KS W kb A c seed h n nx bd) {q : Nat} {B : Option Addr} {d : Nat} {v : Int} (x : Ext W W') (kn : KA W' q (n : Int) (kSeed seed n) h B d v bd) (hq : W.heap.size ≤ q) (hB : ∀ ad, B = some ad → W.heap.size ≤ ad.block) :
    KS W' (fun i => if i = n then q else kb i) (fun i => if i = n then B else A i) (fun i => if i = n then d else c i) seed h (n + 1) (fun i => if i = n then v else nx i) bd := by
  refine ⟨fun i hi => ?_, fun i j hi hj hne => ?_, fun i j hi hj ad e => ?_⟩
  · by_cases e : i = n
    · subst e
      simp only [if_true]
      exact kn
    · simp only [if_neg e]
      exact (k.ka i (by omega)).ext x
  · have hl : ∀ i, i < n → kb i < W.heap.size := fun i hi => (k.ka i hi).blk.lt
    by_cases e1 : i = n
    · by_cases e2 : j = n
      · omega
      · simp only [if_pos e1, if_neg e2]
        have := hl j (by omega)
        omega
    · by_cases e2 : j = n
      · simp only [if_neg e1, if_pos e2]
        have := hl i (by omega)
        omega
      · simp only [if_neg e1, if_neg e2]
        exact k.ne i j (by omega) (by omega) hne
  · have hl : ∀ i, i < n → kb i < W.heap.size := fun i hi => (k.ka i hi).blk.lt
    by_cases e1 : i = n
    · simp only [if_pos e1] at e
      by_cases e2 : j = n
      · simp only [if_pos e2]
        subst e1
        exact kn.ap ad e
      · simp only [if_neg e2]
        have := hB ad e
        have := hl j (by omega)
        omega
    · simp only [if_neg e1] at e
      have ha := (k.ka i (by omega)).alt ad e
      by_cases e2 : j = n
      · simp only [if_pos e2]
        omega
      · simp only [if_neg e2]
        exact k.na i j (by omega) (by omega) ad e
end
theorem kyV_set (f : Int) (A : Option Addr) (n c : Nat) (ht : Int) (B : Option Addr) (m d : Nat) : (kyV f A n c ht).set 1 (.slice B m d) = kyV f B m d ht := rfl
theorem kyV_len (f : Int) (A : Option Addr) (n c : Nat) (ht : Int) : (kyV f A n c ht).length = 3 := rfl
/-- A row that lies apart from all the keys' blocks. -/
def Apt (kb : Nat → Nat) (A : Nat → Option Addr) (n : Nat) (r : Option Nat) : Prop := ∀ i, i < n → some (kb i) ≠ r ∧ ∀ ad, A i = some ad → some ad.block ≠ r
section
variable {W W' : World} {kb : Nat → Nat} {A : Nat → Option Addr} {c : Nat → Nat} {seed h n : Nat} {nx : Nat → Int} {bd : Int} {r : Option Nat}
theorem KS.grown (k : KS W kb A c seed h n nx bd) (g : W.grownBy W' r) (ha : Apt kb A n r) : KS W' kb A c seed h n nx bd :=
  ⟨fun i hi => ⟨(g.block _ (k.ka i hi).blk.lt (ha i hi).1).trans (k.ka i hi).blk, (k.ka i hi).rd.grownApart g (ha i hi).2, (k.ka i hi).ap⟩, k.ne, k.na⟩
theorem Apt.more {S q : Nat} {B : Option Addr} (ha : Apt kb A n r) (hr : ∀ b, r = some b → b < S) (hq : S ≤ q) (hB : ∀ ad, B = some ad → S ≤ ad.block) : Apt (fun i => if i = n then q else kb i) (fun i => if i = n then B else A i) (n + 1) r := fun i hi => by
  by_cases e : i = n
  · simp only [if_pos e]
    refine ⟨fun h => ?_, fun ad ha h => ?_⟩
    · have := hr q h.symm
      omega
    · have := hr _ h.symm
      have := hB ad ha
      omega
  · simp only [if_neg e]
    exact ha i (by omega)
theorem KS.apt (k : KS W kb A c seed h n nx bd) {b : Nat} (hb : W.heap.size ≤ b) : Apt kb A n (some b) := fun i hi => by
  refine ⟨fun h => ?_, fun ad ha h => ?_⟩
  · have := (k.ka i hi).blk.lt
    have := Option.some.inj h
    omega
  · have := (k.ka i hi).alt ad ha
    have := Option.some.inj h
    omega
theorem KS.apt_new (k : KS W kb A c seed h n nx bd) {v v' : Value} (ha : Apt kb A n v.ownBlock) (hat : v'.ownBlock = v.ownBlock ∨ v'.ownBlock = some W.heap.size) : Apt kb A n v'.ownBlock := by
  rcases hat with h | h
  · rw [h]; exact ha
  · rw [h]; exact k.apt (Nat.le_refl _)
end
/-- The keys lie behind a place. -/
def LOk (S : Nat) (kb : Nat → Nat) (A : Nat → Option Addr) (n : Nat) : Prop := ∀ i, i < n → S ≤ kb i ∧ ∀ ad, A i = some ad → S ≤ ad.block
theorem LOk.more {S T q n : Nat} {kb : Nat → Nat} {A : Nat → Option Addr} {B : Option Addr} (h : LOk S kb A n) (hs : S ≤ T) (hq : T ≤ q) (hB : ∀ ad, B = some ad → T ≤ ad.block) : LOk S (fun i => if i = n then q else kb i) (fun i => if i = n then B else A i) (n + 1) := fun i hi => by
  by_cases e : i = n
  · simp only [if_pos e]
    exact ⟨by omega, fun ad ha => by have := hB ad ha; omega⟩
  · simp only [if_neg e]
    exact h i (by omega)
/-- The keys' pointers. -/
def kPs (kb : Nat → Nat) (n : Nat) : List Value := (List.range n).map fun i => kP (kb i)
theorem kPs_len (kb : Nat → Nat) (n : Nat) : (kPs kb n).length = n := by simp [kPs]
theorem kPs_more (kb : Nat → Nat) (n q : Nat) : kPs (fun i => if i = n then q else kb i) (n + 1) = kPs kb n ++ [kP q] := by
  unfold kPs
  rw [List.range_succ, List.map_append]
  congr 1
  · refine List.map_congr_left fun i hi => ?_
    have := List.mem_range.1 hi
    simp only [if_neg (show ¬ (i = n) by omega)]
  · simp
theorem kPs_at (kb : Nat → Nat) (n i : Nat) (hi : i < n) : (kPs kb n)[i]? = some (kP (kb i)) := by simp [kPs, hi]
theorem bPK : (Tryz.prog.info? 25).map (fun i => (i.zero, i.size, i.bytes)) = some (some (.pointer none), 1, 8) := by kernel_rfl
theorem step_append_own_at {P : Program} {ops : Array Oper} {o : Oper} {a : Act} {w : World} {K : Act → World → Prop} {Q : Exit → Act → World → Prop} {E : Prop} (hg : o.guard = none) (s x : Operand) (t : TypeId)
    (hop : o.op = Op.call { callee := Callee.builtin Builtin.append, args := #[s, x], argTypes := #[t, t] })
    (base : Nat) (e : TypeId) (i : TypeInfo) (z : Value) (size bytes : Nat) (h1 : P.underlying t = some (.slice e)) (h2 : P.info? e = some i) (h3 : i.zero = some z) (h4 : i.size = size) (h5 : i.bytes = bytes) (h6 : z.cells.size = size) (h7 : 0 < size)
    (v : Value) (k : Nat) (xs : List Value) (hs : a.eval s = v) (hown : w.ownsRow base e size v k xs) (ad : Addr) (m c : Nat) (news : List Value) (hx : a.eval x = .slice (some ad) m c) (hn : news.length = m * size)
    (hc : ∀ j u, news[j]? = some u → w.cell? (ad.add j) = some u) (h1c : ∀ u ∈ news, u.oneCell' = true) (b1 : k + m ≤ maxLen) (b2 : (k + m) * bytes ≤ 140737488355328) (b3 : base ≤ w.heap.size)
    (hK : ∀ v' w', w'.ownsRow base e size v' (k + m) (xs ++ news) → w.grownBy w' v.ownBlock → (v'.ownBlock = v.ownBlock ∨ v'.ownBlock = some w.heap.size) → K (a.put o.dst v') w') :
    if Region.wanted o (yielded ops a.tmps) = true then Oper.wp P o a w K Q else E := by
  have hw : Region.wanted o (yielded ops a.tmps) = true := by simp [Region.wanted, hg]
  rw [if_pos hw]
  obtain ⟨v', w', hrun, r1, r2, _, r3⟩ := run_append_own_at (P := P) w base t o.type e i z size bytes h1 h2 h3 h4 h5 h6 h7 v k xs hown ad m c news hn hc h1c b1 b2 b3
  unfold Oper.wp
  simp [execOp, hop, resolve, invoke, builtin, hs, hx, hrun, Result.andThen]
  exact hK v' w' r1 r2 r3
theorem results_tmp_cell {fn : Func} {p u : Tmp} {ty : TypeId} (h : fn.results = #[.tmp u, .cell p ty]) (tmps : Array Value) (P : Program) (w : World) :
    (results fn tmps).run P w = ((asAddr (tmps.getD p undef)).run P w).andThen fun a w₁ => ((loadVar ty a).run P w₁).andThen fun v w₂ => .ok (.tuple #[tmps.getD u undef, v]) w₂ := by
  simp only [results, h]
  simp [Sem.run_bind, Result.andThen]
/-- A function that hands back a slot and what lies in a block. -/
theorem ret_tmp_cell {P : Program} {fn : Func} {R : Ending → World → Prop} {p u : Tmp} {ty : TypeId} {d : TypeDesc} {W : World} {B : Nat} {T : TypeId} {L : List Value} {tm : Array Value} {v : Value} (hres : fn.results = #[.tmp u, .cell p ty]) (hb : Blk W B T L)
    (hu : P.underlying ty = some d) (hd : (match d with | .struct _ | .array _ _ => true | _ => false) = true) (hi : (P.info? ty).map (·.size) = some L.length) (hp : tm.getD p undef = .pointer (some ⟨B, 0, none⟩)) (hk : tm.getD u undef = v)
    (hR : R (.returned (.tuple #[v, .agg L.toArray])) W) : bodyPost P fn R .ret { tmps := tm, defers := [] } W := by
  refine bodyPost_ret (v := .tuple #[v, .agg L.toArray]) ?_ rfl hR
  rw [results_tmp_cell hres, hp, hk]
  have h := run_loadVar_row (P := P) W B T ty L.toArray (0, 0) d hb hu hd (by simpa using hi)
  simp [asAddr, h]
set_option maxRecDepth 100000 in
set_option maxHeartbeats 4000000 in
theorem keys_calls (seed : Nat) (hs : seed < 18446744073709551616) (h : Nat) (hh : h ≤ 8) (w : World) :
    Calls Tryz.prog 83 #[.int .i64 1, cU64 seed, .int .i64 (h : Int)] w fun e w' => (∃ kb A c L cl RA rc, e = .returned (.tuple #[.slice L 4 cl, .agg (kyV 1 RA 4 rc (h : Int)).toArray]) ∧ Rd w' L (kPs kb 4) ∧ Rd w' RA (cDg (kRoots seed h 4)) ∧ KS w' kb A c seed h 4 (fun _ => 0) ((2 ^ h : Nat) : Int) ∧ (∀ i, i < 4 → w.heap.size ≤ kb i) ∧ (∀ ad, L = some ad → ∀ i, i < 4 → ad.block ≠ kb i) ∧ (∀ ad, RA = some ad → ∀ i, i < 4 → ad.block ≠ kb i)) ∧ Ext w w' := by
  obtain ⟨i0, hi, hz0, hz1, hz2⟩ := info_parts bDg
  obtain ⟨j0, hj, hy0, hy1, hy2⟩ := info_parts bPK
  have hp := pow_le8 hh
  have hp1 : 1 ≤ 2 ^ h := Nat.one_le_two_pow
  have HNW := Lib.hid (fun (k : Nat) (hk : k < 4) W => new_okF (k : Int) (by omega) (kSeed seed k) h (kSeed_lt _ _) hh W)
  have HRV := Lib.hid (fun (kb k : Nat) A c W (hk : KA W kb (k : Int) (kSeed seed k) h A c 0 0) => reserve_ok W hh (((2 ^ h : Nat) : Int)) (by omega) ⟨by decide, by decide⟩ (by omega) hk)
  have HRO := Lib.hid (fun (kb k : Nat) A c nx bd W (hk : KA W kb (k : Int) (kSeed seed k) h A c nx bd) => kroot_calls W hh hk)
  have HWS := Lib.hid (show ∀ k : Nat, IntKind.u64.wrap ((seed : Int) + (k : Int)) = ((kSeed seed k : Nat) : Int) from fun k => by rw [IntKind.wrap_u64, kSeed]; omega)
  simp only [Int.zero_add] at HRV
  obtain ⟨N, hN⟩ : ∃ N, 2 ^ h = N := ⟨_, rfl⟩
  rw [hN] at hp hp1
  have hsh := (pow_i64 hN hp).1
  have hsh2 := (pow_i64 hN hp).2
  rw [hN] at HRV ⊢
  clear hN
  have hb4 : ((h : Nat) : Int) ≤ 64 := by omega
  have hb6 : (0 : Int) ≤ (h : Int) := by omega
  have hb7 : ¬ ((h : Int) < 0) := by omega
  have HRS := Lib.hid (fun k => kRoots_snoc seed h k)
  go_enter Tryz.func83, Tryz.ntmps83
  go_upto_region 2 with (fail)
  have hb7 : Blk ((w.alloc (.cells #[.int .i64 0, .slice none 0 0, .int .i64 0] 77)).alloc (.cells #[.int .i64 1, .slice none 0 0, .int .i64 (h : Int)] 77)) w.heap.size 77 [.int .i64 0, .slice none 0 0, .int .i64 0] := (Blk.new w 77 [.int .i64 0, .slice none 0 0, .int .i64 0]).ext ((Ext.rfl' _).alloc _)
  have hb8 := Blk.new (w.alloc (.cells #[.int .i64 0, .slice none 0 0, .int .i64 0] 77)) 77 [.int .i64 1, .slice none 0 0, .int .i64 (h : Int)]
  rw [World.size_alloc] at hb8
  change Blk ((w.alloc (.cells #[.int .i64 0, .slice none 0 0, .int .i64 0] 77)).alloc (.cells #[.int .i64 1, .slice none 0 0, .int .i64 (h : Int)] 77)) (w.heap.size + 1) 77 [.int .i64 1, .slice none 0 0, .int .i64 (h : Int)] at hb8
  have hE := ((Ext.rfl' w).alloc (.cells #[.int .i64 0, .slice none 0 0, .int .i64 0] 77)).alloc (.cells #[.int .i64 1, .slice none 0 0, .int .i64 (h : Int)] 77)
  have hsz : ((w.alloc (.cells #[.int .i64 0, .slice none 0 0, .int .i64 0] 77)).alloc (.cells #[.int .i64 1, .slice none 0 0, .int .i64 (h : Int)] 77)).heap.size = w.heap.size + 2 := by rw [World.size_alloc, World.size_alloc]
  generalize (w.alloc (.cells #[.int .i64 0, .slice none 0 0, .int .i64 0] 77)).alloc (.cells #[.int .i64 1, .slice none 0 0, .int .i64 (h : Int)] 77) = W0 at *
  have HI := Lib.hid (And.intro hb7 (And.intro hb8 hE))
  have HSZ := Lib.hid hsz
  clear hb7 hb8 hE hsz
  go_wp2
  go_loopw [9, 10] (fun vl i wr => ∃ (k : Nat) (kb : Nat → Nat) (A : Nat → Option Addr) (c : Nat → Nat) (u : Value), k ≤ 4 ∧ i = .int .i64 (k : Int) ∧ wr.ownsRow (w.heap.size + 2) 25 1 vl k (kPs kb k) ∧ wr.ownsRow (w.heap.size + 2) 34 1 u k (cDg (kRoots seed h k)) ∧ Blk wr (w.heap.size + 1) 77 [.int .i64 1, u, .int .i64 (h : Int)] ∧ Blk wr w.heap.size 77 [.int .i64 0, .slice none 0 0, .int .i64 0] ∧ KS wr kb A c seed h k (fun _ => 0) (N : Int) ∧ LOk (w.heap.size + 2) kb A k ∧ Apt kb A k vl.ownBlock ∧ Apt kb A k u.ownBlock ∧ Ext w wr) (fun _ i _ => 4 - (intOf i).toNat)
  case atStart => exact ⟨0, fun _ => 0, fun _ => none, fun _ => 0, _, by omega, rfl, World.ownsRow_nil _ _ _ _, World.ownsRow_nil _ _ _ _, HI.out.2.1, HI.out.1, ⟨fun i hi => by omega, fun i j hi => by omega, fun i j hi => by omega⟩, fun i hi => by omega, fun i hi => by omega, fun i hi => by omega, HI.out.2.2⟩
  case round =>
    obtain ⟨k, kb, A, c, u, hk, rfl, hov, hou, hb8, hb7, hks, hlo, hav, hau, hE⟩ := hrel
    by_cases hlt : k < 4
    · have hk4 : (k : Int) < 4 := by omega
      have hws := HWS.out k
      have HNK := Lib.hid (HNW.out k hlt)
      have HS8 := Lib.hid (HRS.out k)
      have HOV := Lib.hid hov
      have HOU := Lib.hid hou
      have HB8 := Lib.hid hb8
      have HB7 := Lib.hid hb7
      have HKS := Lib.hid hks
      have HLO := Lib.hid hlo
      have HAV := Lib.hid hav
      have HAU := Lib.hid hau
      have HE := Lib.hid hE
      have hwz : w.heap.size + 2 ≤ wr.heap.size := by have := hb8.lt; omega
      clear hov hou hb8 hb7 hks hlo hav hau hE
      go_wp2_with fail
      refine (HNK.out _).mono ?_
      rintro e W1 ⟨⟨q, B, d, rfl, hkn, hq, hB⟩, hx1⟩
      have hqs : q < W1.heap.size := hkn.blk.lt
      go_wp2_with fail
      refine (HRV.out q k B d _ hkn).mono ?_
      rintro e W2 ⟨rfl, hkn2, hx2⟩
      have hX2 : Ext wr W2 := hx1.kg hx2 hq
      have HQ := Lib.hid (And.intro hq hB)
      replace HKS := Lib.hid (show KS W2 (fun i => if i = k then q else kb i) (fun i => if i = k then B else A i) (fun i => if i = k then d else c i) seed h (k + 1) (fun _ => 0) (N : Int) from by
        have := HKS.out.more hX2 hkn2 hq hB
        simpa using this)
      replace HAV := Lib.hid (HAV.out.more (fun b hb => (HOV.out.lt b hb).2) hq hB)
      replace HAU := Lib.hid (HAU.out.more (fun b hb => (HOU.out.lt b hb).2) hq hB)
      replace HLO := Lib.hid (HLO.out.more hwz hq hB)
      have HMO := Lib.hid (kPs_more kb k q)
      replace HOV := Lib.hid (ownsRow_kept HOV.out hX2.block)
      replace HOU := Lib.hid (ownsRow_kept HOU.out hX2.block)
      replace HB8 := Lib.hid (HB8.out.ext hX2)
      replace HB7 := Lib.hid (HB7.out.ext hX2)
      replace HE := Lib.hid (HE.out.tr hX2)
      have hwz2 : w.heap.size + 2 ≤ W2.heap.size := Nat.le_trans hwz hX2.size
      have HKQ := Lib.hid (show ∀ W, KS W (fun i => if i = k then q else kb i) (fun i => if i = k then B else A i) (fun i => if i = k then d else c i) seed h (k + 1) (fun _ => 0) (N : Int) → Calls Tryz.prog 33 #[kP q] W fun e w' => e = .returned (cU64 (kRoot seed h k)) ∧ Ext W w' from fun W hks => by
        have := hks.ka k (by omega)
        simp only [if_true] at this
        exact HRO.out q k B d _ _ W this)
      clear hx1 hx2 hkn hkn2 hX2 hqs hq hB hwz HNK hws HQ
      generalize (fun i => if i = k then q else kb i) = kb2 at *
      generalize (fun i => if i = k then B else A i) = A2 at *
      generalize (fun i => if i = k then d else c i) = c2 at *
      have hoo := HOV.out.alloc (.cells #[kP q] 25)
      have hks3 := HKS.out.ext ((Ext.rfl' W2).alloc (.cells #[kP q] 25))
      have hou3 := ownsRow_kept HOU.out ((Ext.rfl' W2).alloc (.cells #[kP q] 25)).block
      have hb83 := HB8.out.ext ((Ext.rfl' W2).alloc (.cells #[kP q] 25))
      have hb73 := HB7.out.ext ((Ext.rfl' W2).alloc (.cells #[kP q] 25))
      have hE3 := HE.out.alloc (.cells #[kP q] 25)
      go_upto_region 11 with (at_builtin; (refine wpList_append_own_at _ rfl _ _ 150 rfl (w.heap.size + 2) 25 j0 (.pointer none) 1 8 Tryz.underlying150 hj hy0 hy1 hy2 rfl (by decide) _ _ _ rfl hoo ⟨W2.heap.size, 0, none⟩ 1 1 [kP q] rfl rfl (cell_one_new _ _ _) (fun x hx => by simp at hx; subst hx; rfl) (by unfold maxLen; omega) (by omega) (by simp; omega) ?_); intro v' W3 hown' hgrow hnn hat; replace HKS := Lib.hid (hks3.grown hgrow HAV.out); replace HAV := Lib.hid (hks3.apt_new HAV.out hat); replace HOV := Lib.hid hown'; replace HOU := Lib.hid (own_apart hou3 hoo (by decide) hgrow); replace HB8 := Lib.hid (show Blk W3 (w.heap.size + 1) 77 [.int .i64 1, u, .int .i64 (h : Int)] from (hgrow.block _ hb83.lt (fun e => by have := (hoo.lt _ e.symm).1; omega)).trans hb83); replace HB7 := Lib.hid (show Blk W3 w.heap.size 77 [.int .i64 0, .slice none 0 0, .int .i64 0] from (hgrow.block _ hb73.lt (fun e => by have := (hoo.lt _ e.symm).1; omega)).trans hb73); replace HE := Lib.hid (show Ext w W3 from hE3.grown hgrow (by simp; omega) (fun p hp => by have := (hoo.lt p hp).1; omega)); have hwz3 : w.heap.size + 2 ≤ W3.heap.size := Nat.le_trans hwz2 (Nat.le_trans (by simp) hgrow.size); clear hown' hgrow hnn hat)
      clear hoo hks3 hou3 hb83 hb73 hE3 hwz2
      go_upto_region 11 with (fail)
      replace HKS := Lib.hid (HKS.out.ext (Ext.rfl' W3).drew)
      replace HOV := Lib.hid (ownsRow_kept HOV.out (fun _ _ => rfl) : W3.drew.ownsRow _ _ _ _ _ _)
      replace HOU := Lib.hid (ownsRow_kept HOU.out (fun _ _ => rfl) : W3.drew.ownsRow _ _ _ _ _ _)
      replace HB8 := Lib.hid HB8.out.drew
      replace HB7 := Lib.hid HB7.out.drew
      replace HE := Lib.hid (show Ext w W3.drew from HE.out.drew)
      replace hwz3 : w.heap.size + 2 ≤ W3.drew.heap.size := hwz3
      refine wp_region_held_drew (S := fun _ => True) (by kernel_rfl) trivial (fun hHeld => ?_)
      obtain ⟨W4, hW4⟩ : ∃ W4, W3.drew = W4 := ⟨_, rfl⟩
      rw [hW4] at HKS HOV HOU HB8 HB7 HE hwz3 ⊢
      clear hW4
      refine wpAnyH_take (i := 0) (v := ?_) (by first | (simp only [List.getElem?_toArray, List.getElem?_cons_zero, List.getElem?_cons_succ]; done) | (simp only [List.getElem?_toArray, List.getElem?_cons_zero, List.getElem?_cons_succ]; rfl)) (by kernel_rfl) (by kernel_rfl) (by kernel_rfl) (by exact fun _ _ _ h => h) (Or.inl ⟨by rfl, ?hy0⟩) (by assumption) ?_
      case hy0 => (intro w' hSw; clear hSw; go_simp; try with_reducible rfl)
      try simp only [Act.put, List.setIfInBounds_toArray, List.set_cons_zero, List.set_cons_succ]
      refine wpAnyH_take (i := 2) (v := ?_) (by first | (simp only [List.getElem?_toArray, List.getElem?_cons_zero, List.getElem?_cons_succ]; done) | (simp only [List.getElem?_toArray, List.getElem?_cons_zero, List.getElem?_cons_succ]; rfl)) (by kernel_rfl) (by kernel_rfl) (by kernel_rfl) (by exact fun _ _ _ h => h) (Or.inl ⟨by rfl, ?hy2⟩) (by assumption) ?_
      case hy2 => (intro w' hSw; clear hSw; go_simp; try with_reducible rfl)
      try simp only [Act.put, List.setIfInBounds_toArray, List.set_cons_zero, List.set_cons_succ]
      refine wpAnyH_ready (rs := [1, 3]) (by kernel_rfl) (by simp) ?_
      refine AllReadyH.cons (by first | (simp only [List.getElem?_toArray, List.getElem?_cons_zero, List.getElem?_cons_succ]; done) | (simp only [List.getElem?_toArray, List.getElem?_cons_zero, List.getElem?_cons_succ]; rfl)) (fun K hK => ?_) ?_
      · skip
        have hc1 := HB8.out.cell (j := 1) rfl
        go_simp
        clear hc1
        refine hK.out _ _ trivial (fun hHeld => ?_)
        clear hK K
        try simp only [Act.put, List.setIfInBounds_toArray, List.set_cons_zero, List.set_cons_succ]
        refine wpAnyH_ready (rs := [3]) (by kernel_rfl) (by simp) ?_
        refine AllReadyH.cons (by first | (simp only [List.getElem?_toArray, List.getElem?_cons_zero, List.getElem?_cons_succ]; done) | (simp only [List.getElem?_toArray, List.getElem?_cons_zero, List.getElem?_cons_succ]; rfl)) (fun K hK => ?_) ?_
        · skip
          go_simp
          refine (HKQ.out _ HKS.out).mono ?_
          rintro e W4 ⟨rfl, hx⟩
          replace HKS := Lib.hid (HKS.out.ext hx)
          replace HOV := Lib.hid (ownsRow_kept HOV.out hx.block)
          replace HOU := Lib.hid (ownsRow_kept HOU.out hx.block)
          replace HB8 := Lib.hid (HB8.out.ext hx)
          replace HB7 := Lib.hid (HB7.out.ext hx)
          replace HE := Lib.hid (show Ext w W4 from HE.out.tr hx)
          have hwz3 := Nat.le_trans hwz3 hx.size
          clear hx
          try (go_wp2_with fail)
          refine hK.out _ _ trivial (fun hHeld => ?_)
          clear hK K
          try simp only [Act.put, List.setIfInBounds_toArray, List.set_cons_zero, List.set_cons_succ]
          refine wpAnyH_ready (rs := [4]) (by kernel_rfl) (by simp) ?_
          refine AllReadyH.cons (by first | (simp only [List.getElem?_toArray, List.getElem?_cons_zero, List.getElem?_cons_succ]; done) | (simp only [List.getElem?_toArray, List.getElem?_cons_zero, List.getElem?_cons_succ]; rfl)) (fun K hK => ?_) ?_
          · skip
            go_simp
            have HU9 := Lib.hid (HOU.out.alloc (.cells #[cU64 (kRoot seed h k)] 34))
            replace HKS := Lib.hid (HKS.out.ext ((Ext.rfl' W4).alloc (.cells #[cU64 (kRoot seed h k)] 34)))
            replace HOV := Lib.hid (ownsRow_kept HOV.out ((Ext.rfl' W4).alloc (.cells #[cU64 (kRoot seed h k)] 34)).block)
            replace HB8 := Lib.hid (HB8.out.ext ((Ext.rfl' W4).alloc (.cells #[cU64 (kRoot seed h k)] 34)))
            replace HB7 := Lib.hid (HB7.out.ext ((Ext.rfl' W4).alloc (.cells #[cU64 (kRoot seed h k)] 34)))
            replace HE := Lib.hid (show Ext w (W4.alloc (.cells #[cU64 (kRoot seed h k)] 34)) from HE.out.alloc _)
            refine hK.out _ _ trivial (fun hHeld => ?_)
            clear hK K
            try simp only [Act.put, List.setIfInBounds_toArray, List.set_cons_zero, List.set_cons_succ]
            refine wpAnyH_ready (rs := [5]) (by kernel_rfl) (by simp) ?_
            refine AllReadyH.cons (by first | (simp only [List.getElem?_toArray, List.getElem?_cons_zero, List.getElem?_cons_succ]; done) | (simp only [List.getElem?_toArray, List.getElem?_cons_zero, List.getElem?_cons_succ]; rfl)) (fun K hK => ?_) ?_
            · skip
              refine step_append_own_at (by rfl) _ _ _ (by rfl) (w.heap.size + 2) _ i0 (.int .u64 0) 1 8 Tryz.underlying37 hi hz0 hz1 hz2 rfl (by decide) _ k _ (by rfl) HU9.out ⟨W4.heap.size, 0, none⟩ 1 1 [cU64 (kRoot seed h k)] (by rfl) (by rfl) (cell_one_new _ _ _) (fun x hx => by simp at hx; subst hx; rfl) (by unfold maxLen; omega) (by omega) (by simp; omega) ?_
              intro v5 W5 hown' hgrow hat
              obtain ⟨A5, c5, rfl, hr5⟩ := rd_of_own hown'
              have HAU1 := Lib.hid (HKS.out.apt_new HAU.out hat)
              replace HKS := Lib.hid (HKS.out.grown hgrow HAU.out)
              replace HAU := HAU1
              clear HAU1
              replace HOV := Lib.hid (own_apart HOV.out HU9.out (by decide) hgrow)
              replace HB8 := Lib.hid (show Blk W5 (w.heap.size + 1) 77 [.int .i64 1, u, .int .i64 (h : Int)] from (hgrow.block _ HB8.out.lt (fun e => by have := (HU9.out.lt _ e.symm).1; omega)).trans HB8.out)
              replace HB7 := Lib.hid (show Blk W5 w.heap.size 77 [.int .i64 0, .slice none 0 0, .int .i64 0] from (hgrow.block _ HB7.out.lt (fun e => by have := (HU9.out.lt _ e.symm).1; omega)).trans HB7.out)
              replace HE := Lib.hid (show Ext w W5 from HE.out.grown hgrow (by simp; omega) (fun p hp => by have := (HU9.out.lt p hp).1; omega))
              have hwz3 : w.heap.size + 2 ≤ W5.heap.size := Nat.le_trans hwz3 (Nat.le_trans (by simp) hgrow.size)
              replace HOU := Lib.hid hown'
              clear hown' hgrow hat HU9 hr5
              refine hK.out _ _ trivial (fun hHeld => ?_)
              clear hK K
              try simp only [Act.put, List.setIfInBounds_toArray, List.set_cons_zero, List.set_cons_succ]
              refine wpAnyH_take (i := 6) (v := ?_) (by first | (simp only [List.getElem?_toArray, List.getElem?_cons_zero, List.getElem?_cons_succ]; done) | (simp only [List.getElem?_toArray, List.getElem?_cons_zero, List.getElem?_cons_succ]; rfl)) (by kernel_rfl) (by kernel_rfl) (by kernel_rfl) (by exact fun _ _ _ h => h) (Or.inl ⟨by rfl, ?hy6⟩) (by assumption) ?_
              case hy6 => (intro w' hSw; clear hSw; go_simp; try with_reducible rfl)
              try simp only [Act.put, List.setIfInBounds_toArray, List.set_cons_zero, List.set_cons_succ]
              refine wpAnyH_ready (rs := [7]) (by kernel_rfl) (by simp) ?_
              refine AllReadyH.cons (by first | (simp only [List.getElem?_toArray, List.getElem?_cons_zero, List.getElem?_cons_succ]; done) | (simp only [List.getElem?_toArray, List.getElem?_cons_zero, List.getElem?_cons_succ]; rfl)) (fun K hK => ?_) ?_
              · skip
                have hc7 := HB8.out.cell (j := 1) rfl
                have hf7 := HB8.out.frozen 1
                have hks7 : KS (W5.setCell ⟨w.heap.size + 1, 1, none⟩ (.slice A5 (k + 1) c5)) kb2 A2 c2 seed h (k + 1) (fun _ => 0) (N : Int) := ⟨fun i hi => KA.other (HKS.out.ka i hi) (by have := (HLO.out i hi).1; omega) (fun ad e => by have := (HLO.out i hi).2 ad e; omega) _, HKS.out.ne, HKS.out.na⟩
                go_simp
                clear hc7 hf7
                replace HKS := Lib.hid hks7
                replace HOV := Lib.hid (own_setCell1 (show w.heap.size + 1 < w.heap.size + 2 by omega) HOV.out 1 (.slice A5 (k + 1) c5))
                replace HOU := Lib.hid (own_setCell1 (show w.heap.size + 1 < w.heap.size + 2 by omega) HOU.out 1 (.slice A5 (k + 1) c5))
                replace HB7 := Lib.hid (HB7.out.other (x := ⟨w.heap.size + 1, 1, none⟩) (by show w.heap.size ≠ w.heap.size + 1; omega) (.slice A5 (k + 1) c5))
                replace HB8 := Lib.hid (show Blk (W5.setCell ⟨w.heap.size + 1, 1, none⟩ (.slice A5 (k + 1) c5)) (w.heap.size + 1) 77 [.int .i64 1, .slice A5 (k + 1) c5, .int .i64 (h : Int)] from HB8.out.set 1 _)
                replace HE := Lib.hid (show Ext w (W5.setCell ⟨w.heap.size + 1, 1, none⟩ (.slice A5 (k + 1) c5)) from Below.setCell HE.out (by show w.heap.size ≤ w.heap.size + 1; omega) _)
                clear hks7
                refine hK.out _ _ trivial (fun hHeld => ?_)
                clear hK K
                try simp only [Act.put, List.setIfInBounds_toArray, List.set_cons_zero, List.set_cons_succ]
                refine wpAnyH_done (by kernel_rfl) ?_ _
                clear hHeld
                go_wp2
                go_roundw
                case rel => exact ⟨k + 1, kb2, A2, c2, _, hlt, by go_num, by rw [HMO.out]; exact HOV.out, by rw [HS8.out]; simpa [cDg] using HOU.out, HB8.out, HB7.out, HKS.out, HLO.out, HAV.out, HAU.out, HE.out⟩
                case measure => simp [intOf]; omega
              exact AllReadyH.nil
            exact AllReadyH.nil
          exact AllReadyH.nil
        exact AllReadyH.nil
      refine AllReadyH.cons (by first | (simp only [List.getElem?_toArray, List.getElem?_cons_zero, List.getElem?_cons_succ]; done) | (simp only [List.getElem?_toArray, List.getElem?_cons_zero, List.getElem?_cons_succ]; rfl)) (fun K hK => ?_) ?_
      · skip
        go_simp
        refine (HKQ.out _ HKS.out).mono ?_
        rintro e W4 ⟨rfl, hx⟩
        replace HKS := Lib.hid (HKS.out.ext hx)
        replace HOV := Lib.hid (ownsRow_kept HOV.out hx.block)
        replace HOU := Lib.hid (ownsRow_kept HOU.out hx.block)
        replace HB8 := Lib.hid (HB8.out.ext hx)
        replace HB7 := Lib.hid (HB7.out.ext hx)
        replace HE := Lib.hid (show Ext w W4 from HE.out.tr hx)
        have hwz3 := Nat.le_trans hwz3 hx.size
        clear hx
        try (go_wp2_with fail)
        refine hK.out _ _ trivial (fun hHeld => ?_)
        clear hK K
        try simp only [Act.put, List.setIfInBounds_toArray, List.set_cons_zero, List.set_cons_succ]
        refine wpAnyH_ready (rs := [1, 4]) (by kernel_rfl) (by simp) ?_
        refine AllReadyH.cons (by first | (simp only [List.getElem?_toArray, List.getElem?_cons_zero, List.getElem?_cons_succ]; done) | (simp only [List.getElem?_toArray, List.getElem?_cons_zero, List.getElem?_cons_succ]; rfl)) (fun K hK => ?_) ?_
        · skip
          have hc1 := HB8.out.cell (j := 1) rfl
          go_simp
          clear hc1
          refine hK.out _ _ trivial (fun hHeld => ?_)
          clear hK K
          try simp only [Act.put, List.setIfInBounds_toArray, List.set_cons_zero, List.set_cons_succ]
          refine wpAnyH_ready (rs := [4]) (by kernel_rfl) (by simp) ?_
          refine AllReadyH.cons (by first | (simp only [List.getElem?_toArray, List.getElem?_cons_zero, List.getElem?_cons_succ]; done) | (simp only [List.getElem?_toArray, List.getElem?_cons_zero, List.getElem?_cons_succ]; rfl)) (fun K hK => ?_) ?_
          · skip
            go_simp
            have HU9 := Lib.hid (HOU.out.alloc (.cells #[cU64 (kRoot seed h k)] 34))
            replace HKS := Lib.hid (HKS.out.ext ((Ext.rfl' W4).alloc (.cells #[cU64 (kRoot seed h k)] 34)))
            replace HOV := Lib.hid (ownsRow_kept HOV.out ((Ext.rfl' W4).alloc (.cells #[cU64 (kRoot seed h k)] 34)).block)
            replace HB8 := Lib.hid (HB8.out.ext ((Ext.rfl' W4).alloc (.cells #[cU64 (kRoot seed h k)] 34)))
            replace HB7 := Lib.hid (HB7.out.ext ((Ext.rfl' W4).alloc (.cells #[cU64 (kRoot seed h k)] 34)))
            replace HE := Lib.hid (show Ext w (W4.alloc (.cells #[cU64 (kRoot seed h k)] 34)) from HE.out.alloc _)
            refine hK.out _ _ trivial (fun hHeld => ?_)
            clear hK K
            try simp only [Act.put, List.setIfInBounds_toArray, List.set_cons_zero, List.set_cons_succ]
            refine wpAnyH_ready (rs := [5]) (by kernel_rfl) (by simp) ?_
            refine AllReadyH.cons (by first | (simp only [List.getElem?_toArray, List.getElem?_cons_zero, List.getElem?_cons_succ]; done) | (simp only [List.getElem?_toArray, List.getElem?_cons_zero, List.getElem?_cons_succ]; rfl)) (fun K hK => ?_) ?_
            · skip
              refine step_append_own_at (by rfl) _ _ _ (by rfl) (w.heap.size + 2) _ i0 (.int .u64 0) 1 8 Tryz.underlying37 hi hz0 hz1 hz2 rfl (by decide) _ k _ (by rfl) HU9.out ⟨W4.heap.size, 0, none⟩ 1 1 [cU64 (kRoot seed h k)] (by rfl) (by rfl) (cell_one_new _ _ _) (fun x hx => by simp at hx; subst hx; rfl) (by unfold maxLen; omega) (by omega) (by simp; omega) ?_
              intro v5 W5 hown' hgrow hat
              obtain ⟨A5, c5, rfl, hr5⟩ := rd_of_own hown'
              have HAU1 := Lib.hid (HKS.out.apt_new HAU.out hat)
              replace HKS := Lib.hid (HKS.out.grown hgrow HAU.out)
              replace HAU := HAU1
              clear HAU1
              replace HOV := Lib.hid (own_apart HOV.out HU9.out (by decide) hgrow)
              replace HB8 := Lib.hid (show Blk W5 (w.heap.size + 1) 77 [.int .i64 1, u, .int .i64 (h : Int)] from (hgrow.block _ HB8.out.lt (fun e => by have := (HU9.out.lt _ e.symm).1; omega)).trans HB8.out)
              replace HB7 := Lib.hid (show Blk W5 w.heap.size 77 [.int .i64 0, .slice none 0 0, .int .i64 0] from (hgrow.block _ HB7.out.lt (fun e => by have := (HU9.out.lt _ e.symm).1; omega)).trans HB7.out)
              replace HE := Lib.hid (show Ext w W5 from HE.out.grown hgrow (by simp; omega) (fun p hp => by have := (HU9.out.lt p hp).1; omega))
              have hwz3 : w.heap.size + 2 ≤ W5.heap.size := Nat.le_trans hwz3 (Nat.le_trans (by simp) hgrow.size)
              replace HOU := Lib.hid hown'
              clear hown' hgrow hat HU9 hr5
              refine hK.out _ _ trivial (fun hHeld => ?_)
              clear hK K
              try simp only [Act.put, List.setIfInBounds_toArray, List.set_cons_zero, List.set_cons_succ]
              refine wpAnyH_take (i := 6) (v := ?_) (by first | (simp only [List.getElem?_toArray, List.getElem?_cons_zero, List.getElem?_cons_succ]; done) | (simp only [List.getElem?_toArray, List.getElem?_cons_zero, List.getElem?_cons_succ]; rfl)) (by kernel_rfl) (by kernel_rfl) (by kernel_rfl) (by exact fun _ _ _ h => h) (Or.inl ⟨by rfl, ?hy6⟩) (by assumption) ?_
              case hy6 => (intro w' hSw; clear hSw; go_simp; try with_reducible rfl)
              try simp only [Act.put, List.setIfInBounds_toArray, List.set_cons_zero, List.set_cons_succ]
              refine wpAnyH_ready (rs := [7]) (by kernel_rfl) (by simp) ?_
              refine AllReadyH.cons (by first | (simp only [List.getElem?_toArray, List.getElem?_cons_zero, List.getElem?_cons_succ]; done) | (simp only [List.getElem?_toArray, List.getElem?_cons_zero, List.getElem?_cons_succ]; rfl)) (fun K hK => ?_) ?_
              · skip
                have hc7 := HB8.out.cell (j := 1) rfl
                have hf7 := HB8.out.frozen 1
                have hks7 : KS (W5.setCell ⟨w.heap.size + 1, 1, none⟩ (.slice A5 (k + 1) c5)) kb2 A2 c2 seed h (k + 1) (fun _ => 0) (N : Int) := ⟨fun i hi => KA.other (HKS.out.ka i hi) (by have := (HLO.out i hi).1; omega) (fun ad e => by have := (HLO.out i hi).2 ad e; omega) _, HKS.out.ne, HKS.out.na⟩
                go_simp
                clear hc7 hf7
                replace HKS := Lib.hid hks7
                replace HOV := Lib.hid (own_setCell1 (show w.heap.size + 1 < w.heap.size + 2 by omega) HOV.out 1 (.slice A5 (k + 1) c5))
                replace HOU := Lib.hid (own_setCell1 (show w.heap.size + 1 < w.heap.size + 2 by omega) HOU.out 1 (.slice A5 (k + 1) c5))
                replace HB7 := Lib.hid (HB7.out.other (x := ⟨w.heap.size + 1, 1, none⟩) (by show w.heap.size ≠ w.heap.size + 1; omega) (.slice A5 (k + 1) c5))
                replace HB8 := Lib.hid (show Blk (W5.setCell ⟨w.heap.size + 1, 1, none⟩ (.slice A5 (k + 1) c5)) (w.heap.size + 1) 77 [.int .i64 1, .slice A5 (k + 1) c5, .int .i64 (h : Int)] from HB8.out.set 1 _)
                replace HE := Lib.hid (show Ext w (W5.setCell ⟨w.heap.size + 1, 1, none⟩ (.slice A5 (k + 1) c5)) from Below.setCell HE.out (by show w.heap.size ≤ w.heap.size + 1; omega) _)
                clear hks7
                refine hK.out _ _ trivial (fun hHeld => ?_)
                clear hK K
                try simp only [Act.put, List.setIfInBounds_toArray, List.set_cons_zero, List.set_cons_succ]
                refine wpAnyH_done (by kernel_rfl) ?_ _
                clear hHeld
                go_wp2
                go_roundw
                case rel => exact ⟨k + 1, kb2, A2, c2, _, hlt, by go_num, by rw [HMO.out]; exact HOV.out, by rw [HS8.out]; simpa [cDg] using HOU.out, HB8.out, HB7.out, HKS.out, HLO.out, HAV.out, HAU.out, HE.out⟩
                case measure => simp [intOf]; omega
              exact AllReadyH.nil
            exact AllReadyH.nil
          exact AllReadyH.nil
        refine AllReadyH.cons (by first | (simp only [List.getElem?_toArray, List.getElem?_cons_zero, List.getElem?_cons_succ]; done) | (simp only [List.getElem?_toArray, List.getElem?_cons_zero, List.getElem?_cons_succ]; rfl)) (fun K hK => ?_) ?_
        · skip
          go_simp
          have HU9 := Lib.hid (HOU.out.alloc (.cells #[cU64 (kRoot seed h k)] 34))
          replace HKS := Lib.hid (HKS.out.ext ((Ext.rfl' W4).alloc (.cells #[cU64 (kRoot seed h k)] 34)))
          replace HOV := Lib.hid (ownsRow_kept HOV.out ((Ext.rfl' W4).alloc (.cells #[cU64 (kRoot seed h k)] 34)).block)
          replace HB8 := Lib.hid (HB8.out.ext ((Ext.rfl' W4).alloc (.cells #[cU64 (kRoot seed h k)] 34)))
          replace HB7 := Lib.hid (HB7.out.ext ((Ext.rfl' W4).alloc (.cells #[cU64 (kRoot seed h k)] 34)))
          replace HE := Lib.hid (show Ext w (W4.alloc (.cells #[cU64 (kRoot seed h k)] 34)) from HE.out.alloc _)
          refine hK.out _ _ trivial (fun hHeld => ?_)
          clear hK K
          try simp only [Act.put, List.setIfInBounds_toArray, List.set_cons_zero, List.set_cons_succ]
          refine wpAnyH_ready (rs := [1]) (by kernel_rfl) (by simp) ?_
          refine AllReadyH.cons (by first | (simp only [List.getElem?_toArray, List.getElem?_cons_zero, List.getElem?_cons_succ]; done) | (simp only [List.getElem?_toArray, List.getElem?_cons_zero, List.getElem?_cons_succ]; rfl)) (fun K hK => ?_) ?_
          · skip
            have hc1 := HB8.out.cell (j := 1) rfl
            go_simp
            clear hc1
            refine hK.out _ _ trivial (fun hHeld => ?_)
            clear hK K
            try simp only [Act.put, List.setIfInBounds_toArray, List.set_cons_zero, List.set_cons_succ]
            refine wpAnyH_ready (rs := [5]) (by kernel_rfl) (by simp) ?_
            refine AllReadyH.cons (by first | (simp only [List.getElem?_toArray, List.getElem?_cons_zero, List.getElem?_cons_succ]; done) | (simp only [List.getElem?_toArray, List.getElem?_cons_zero, List.getElem?_cons_succ]; rfl)) (fun K hK => ?_) ?_
            · skip
              refine step_append_own_at (by rfl) _ _ _ (by rfl) (w.heap.size + 2) _ i0 (.int .u64 0) 1 8 Tryz.underlying37 hi hz0 hz1 hz2 rfl (by decide) _ k _ (by rfl) HU9.out ⟨W4.heap.size, 0, none⟩ 1 1 [cU64 (kRoot seed h k)] (by rfl) (by rfl) (cell_one_new _ _ _) (fun x hx => by simp at hx; subst hx; rfl) (by unfold maxLen; omega) (by omega) (by simp; omega) ?_
              intro v5 W5 hown' hgrow hat
              obtain ⟨A5, c5, rfl, hr5⟩ := rd_of_own hown'
              have HAU1 := Lib.hid (HKS.out.apt_new HAU.out hat)
              replace HKS := Lib.hid (HKS.out.grown hgrow HAU.out)
              replace HAU := HAU1
              clear HAU1
              replace HOV := Lib.hid (own_apart HOV.out HU9.out (by decide) hgrow)
              replace HB8 := Lib.hid (show Blk W5 (w.heap.size + 1) 77 [.int .i64 1, u, .int .i64 (h : Int)] from (hgrow.block _ HB8.out.lt (fun e => by have := (HU9.out.lt _ e.symm).1; omega)).trans HB8.out)
              replace HB7 := Lib.hid (show Blk W5 w.heap.size 77 [.int .i64 0, .slice none 0 0, .int .i64 0] from (hgrow.block _ HB7.out.lt (fun e => by have := (HU9.out.lt _ e.symm).1; omega)).trans HB7.out)
              replace HE := Lib.hid (show Ext w W5 from HE.out.grown hgrow (by simp; omega) (fun p hp => by have := (HU9.out.lt p hp).1; omega))
              have hwz3 : w.heap.size + 2 ≤ W5.heap.size := Nat.le_trans hwz3 (Nat.le_trans (by simp) hgrow.size)
              replace HOU := Lib.hid hown'
              clear hown' hgrow hat HU9 hr5
              refine hK.out _ _ trivial (fun hHeld => ?_)
              clear hK K
              try simp only [Act.put, List.setIfInBounds_toArray, List.set_cons_zero, List.set_cons_succ]
              refine wpAnyH_take (i := 6) (v := ?_) (by first | (simp only [List.getElem?_toArray, List.getElem?_cons_zero, List.getElem?_cons_succ]; done) | (simp only [List.getElem?_toArray, List.getElem?_cons_zero, List.getElem?_cons_succ]; rfl)) (by kernel_rfl) (by kernel_rfl) (by kernel_rfl) (by exact fun _ _ _ h => h) (Or.inl ⟨by rfl, ?hy6⟩) (by assumption) ?_
              case hy6 => (intro w' hSw; clear hSw; go_simp; try with_reducible rfl)
              try simp only [Act.put, List.setIfInBounds_toArray, List.set_cons_zero, List.set_cons_succ]
              refine wpAnyH_ready (rs := [7]) (by kernel_rfl) (by simp) ?_
              refine AllReadyH.cons (by first | (simp only [List.getElem?_toArray, List.getElem?_cons_zero, List.getElem?_cons_succ]; done) | (simp only [List.getElem?_toArray, List.getElem?_cons_zero, List.getElem?_cons_succ]; rfl)) (fun K hK => ?_) ?_
              · skip
                have hc7 := HB8.out.cell (j := 1) rfl
                have hf7 := HB8.out.frozen 1
                have hks7 : KS (W5.setCell ⟨w.heap.size + 1, 1, none⟩ (.slice A5 (k + 1) c5)) kb2 A2 c2 seed h (k + 1) (fun _ => 0) (N : Int) := ⟨fun i hi => KA.other (HKS.out.ka i hi) (by have := (HLO.out i hi).1; omega) (fun ad e => by have := (HLO.out i hi).2 ad e; omega) _, HKS.out.ne, HKS.out.na⟩
                go_simp
                clear hc7 hf7
                replace HKS := Lib.hid hks7
                replace HOV := Lib.hid (own_setCell1 (show w.heap.size + 1 < w.heap.size + 2 by omega) HOV.out 1 (.slice A5 (k + 1) c5))
                replace HOU := Lib.hid (own_setCell1 (show w.heap.size + 1 < w.heap.size + 2 by omega) HOU.out 1 (.slice A5 (k + 1) c5))
                replace HB7 := Lib.hid (HB7.out.other (x := ⟨w.heap.size + 1, 1, none⟩) (by show w.heap.size ≠ w.heap.size + 1; omega) (.slice A5 (k + 1) c5))
                replace HB8 := Lib.hid (show Blk (W5.setCell ⟨w.heap.size + 1, 1, none⟩ (.slice A5 (k + 1) c5)) (w.heap.size + 1) 77 [.int .i64 1, .slice A5 (k + 1) c5, .int .i64 (h : Int)] from HB8.out.set 1 _)
                replace HE := Lib.hid (show Ext w (W5.setCell ⟨w.heap.size + 1, 1, none⟩ (.slice A5 (k + 1) c5)) from Below.setCell HE.out (by show w.heap.size ≤ w.heap.size + 1; omega) _)
                clear hks7
                refine hK.out _ _ trivial (fun hHeld => ?_)
                clear hK K
                try simp only [Act.put, List.setIfInBounds_toArray, List.set_cons_zero, List.set_cons_succ]
                refine wpAnyH_done (by kernel_rfl) ?_ _
                clear hHeld
                go_wp2
                go_roundw
                case rel => exact ⟨k + 1, kb2, A2, c2, _, hlt, by go_num, by rw [HMO.out]; exact HOV.out, by rw [HS8.out]; simpa [cDg] using HOU.out, HB8.out, HB7.out, HKS.out, HLO.out, HAV.out, HAU.out, HE.out⟩
                case measure => simp [intOf]; omega
              exact AllReadyH.nil
            exact AllReadyH.nil
          exact AllReadyH.nil
        exact AllReadyH.nil
      exact AllReadyH.nil
    · obtain rfl : k = 4 := by omega
      have hk4 : ¬ (((4 : Nat) : Int) < 4) := by omega
      obtain ⟨L, cl, rfl, hrL, hLat⟩ := rd_of_own_at hov
      obtain ⟨RA, rc, rfl, hrA, hRat⟩ := rd_of_own_at hou
      have HFI := Lib.hid (show KS wr kb A c seed h 4 (fun _ => 0) (N : Int) ∧ (∀ i, i < 4 → w.heap.size ≤ kb i) ∧ (∀ ad, L = some ad → ∀ i, i < 4 → ad.block ≠ kb i) ∧ (∀ ad, RA = some ad → ∀ i, i < 4 → ad.block ≠ kb i) from ⟨hks, fun i hi => by have := (hlo i hi).1; omega, fun ad e i hi h => (hav i hi).1 (by rw [e]; show some (kb i) = some ad.block; rw [h]), fun ad e i hi h => (hau i hi).1 (by rw [e]; show some (kb i) = some ad.block; rw [h])⟩)
      have HB8D := Lib.hid hb8.drew
      have HNL := Lib.hid (show (∀ ad, L = some ad → ad.block ≠ w.heap.size) ∧ (∀ ad, RA = some ad → ad.block ≠ w.heap.size) from ⟨fun ad e => by have := (hLat ad e).1; omega, fun ad e => by have := (hRat ad e).1; omega⟩)
      have HKN := Lib.hid (show ∀ i, i < 4 → kb i ≠ w.heap.size ∧ ∀ ad, A i = some ad → ad.block ≠ w.heap.size from fun i hi => ⟨by have := (hlo i hi).1; omega, fun ad e h => by have := (hlo i hi).2 ad e; omega⟩)
      have HRL := Lib.hid (And.intro hrL hrA)
      have hb7d := hb7.drew
      have hrg8 := hb8.drew.range
      have HE := Lib.hid hE
      clear hov hou hrL hrA hb7 hb8 hks hlo hav hau hE hLat hRat
      go_upto_region 12 with (fail)
      refine wp_region_held_drew (S := fun W => W.rangeAt (w.heap.size + 1) 0 [.int .i64 1, .slice RA 4 rc, .int .i64 (h : Int)]) (by kernel_rfl) hrg8 (fun hHeld => ?_)
      refine wpAnyH_take (i := 0) (v := ?_) (by first | (simp only [List.getElem?_toArray, List.getElem?_cons_zero, List.getElem?_cons_succ]; done) | (simp only [List.getElem?_toArray, List.getElem?_cons_zero, List.getElem?_cons_succ]; rfl)) (by kernel_rfl) (by kernel_rfl) (by kernel_rfl) (by exact fun _ _ _ h => h) (Or.inl ⟨by rfl, ?hy0⟩) (by assumption) ?_
      case hy0 => (intro w' hSw; clear hSw; go_simp; try with_reducible rfl)
      try simp only [Act.put, List.setIfInBounds_toArray, List.set_cons_zero, List.set_cons_succ]
      refine wpAnyH_take (i := 1) (v := .agg #[.int .i64 1, .slice RA 4 rc, .int .i64 (h : Int)]) (by first | (simp only [List.getElem?_toArray, List.getElem?_cons_zero, List.getElem?_cons_succ]; done) | (simp only [List.getElem?_toArray, List.getElem?_cons_zero, List.getElem?_cons_succ]; rfl)) (by kernel_rfl) (by kernel_rfl) (by kernel_rfl) (by exact fun _ _ _ h => h) (Or.inl ⟨by rfl, fun w' hSw => run_load_mid _ _ _ _ rfl (w.heap.size + 1) 0 (by rfl) [.int .i64 1, .slice RA 4 rc, .int .i64 (h : Int)] _ w' hSw Tryz.underlying77 rfl rfl⟩) (by assumption) ?_
      try simp only [Act.put, List.setIfInBounds_toArray, List.set_cons_zero, List.set_cons_succ]
      refine wpAnyH_take (i := 2) (v := ?_) (by first | (simp only [List.getElem?_toArray, List.getElem?_cons_zero, List.getElem?_cons_succ]; done) | (simp only [List.getElem?_toArray, List.getElem?_cons_zero, List.getElem?_cons_succ]; rfl)) (by kernel_rfl) (by kernel_rfl) (by kernel_rfl) (by exact fun _ _ _ h => h) (Or.inl ⟨by rfl, ?hy2⟩) (by assumption) ?_
      case hy2 => (intro w' hSw; clear hSw; go_simp; try with_reducible rfl)
      try simp only [Act.put, List.setIfInBounds_toArray, List.set_cons_zero, List.set_cons_succ]
      refine wpAnyH_ready (rs := [3]) (by kernel_rfl) (by simp) ?_
      refine AllReadyH.cons (by first | (simp only [List.getElem?_toArray, List.getElem?_cons_zero, List.getElem?_cons_succ]; done) | (simp only [List.getElem?_toArray, List.getElem?_cons_zero, List.getElem?_cons_succ]; rfl)) (fun K hK => ?_) AllReadyH.nil
      rw [if_pos (by rfl)]
      refine wp_store_mid _ _ _ rfl w.heap.size 0 #[.int .i64 1, .slice RA 4 rc, .int .i64 (h : Int)] rfl rfl hb7d.there rfl (all_oneCell_toArray (cs := [.int .i64 1, .slice RA 4 rc, .int .i64 (h : Int)]) (fun x hx => by simp at hx; rcases hx with rfl | rfl | rfl <;> rfl)) ?_
      have hbF : Blk (wr.drew.setCells w.heap.size 0 [.int .i64 1, .slice RA 4 rc, .int .i64 (h : Int)]) w.heap.size 77 (kyV 1 RA 4 rc (h : Int)) := hb7d.put rfl
      have hFX : Ext wr (wr.drew.setCells w.heap.size 0 [.int .i64 1, .slice RA 4 rc, .int .i64 (h : Int)]) ∨ True := .inr trivial
      have hEF : Ext w (wr.drew.setCells w.heap.size 0 [.int .i64 1, .slice RA 4 rc, .int .i64 (h : Int)]) := Ext.setCells (Nat.le_refl _) _ _ _ HE.out.drew
      have hrg9 : (wr.drew.setCells w.heap.size 0 [.int .i64 1, .slice RA 4 rc, .int .i64 (h : Int)]).rangeAt (w.heap.size + 1) 0 [.int .i64 1, .slice RA 4 rc, .int .i64 (h : Int)] := (HB8D.out.others (by omega) _ _ _).range
      have hRL : Rd (wr.drew.setCells w.heap.size 0 [.int .i64 1, .slice RA 4 rc, .int .i64 (h : Int)]) L (kPs kb 4) := Rd.setCellsO (fun ad e => HNL.out.1 ad e) _ _ _ (HRL.out.1.drew)
      have hRA : Rd (wr.drew.setCells w.heap.size 0 [.int .i64 1, .slice RA 4 rc, .int .i64 (h : Int)]) RA (cDg (kRoots seed h 4)) := Rd.setCellsO (fun ad e => HNL.out.2 ad e) _ _ _ (HRL.out.2.drew)
      have hKF : KS (wr.drew.setCells w.heap.size 0 [.int .i64 1, .slice RA 4 rc, .int .i64 (h : Int)]) kb A c seed h 4 (fun _ => 0) (N : Int) := ⟨fun i hi => KA.setCells (W := wr) (HKN.out i hi).1 (HKN.out i hi).2 _ _ _ ((HFI.out.1.ka i hi).ext (Ext.rfl' wr).drew), HFI.out.1.ne, HFI.out.1.na⟩
      refine hK.out _ _ hrg9 (fun hHeld => ?_)
      clear hK K hrg9 hFX
      try simp only [Act.put, List.setIfInBounds_toArray, List.set_cons_zero, List.set_cons_succ]
      refine wpAnyH_done (by kernel_rfl) ?_ _
      clear hHeld
      have HFF := Lib.hid (And.intro hRL (And.intro hRA (And.intro hKF hEF)))
      clear hRL hRA hKF hEF hb7d hrg8
      generalize wr.drew.setCells w.heap.size 0 [.int .i64 1, .slice RA 4 rc, .int .i64 (h : Int)] = W9 at *
      go_wp2
      exact ret_tmp_cell rfl hbF Tryz.underlying77 rfl rfl rfl rfl (by first | exact ⟨⟨kb, A, c, L, cl, RA, rc, rfl, HFF.out.1, HFF.out.2.1, HFF.out.2.2.1, HFI.out.2.1, HFI.out.2.2.1, HFI.out.2.2.2⟩, HFF.out.2.2.2⟩ | exact ⟨⟨kb, A, c, L, cl, RA, ⟨rc, rfl⟩, HFF.out.1, HFF.out.2.1, HFF.out.2.2.1, HFI.out.2.1, HFI.out.2.2.1, HFI.out.2.2.2⟩, HFF.out.2.2.2⟩)
end Go.Proofs.YtbbgmlnfpnomiaaGreatDoor
