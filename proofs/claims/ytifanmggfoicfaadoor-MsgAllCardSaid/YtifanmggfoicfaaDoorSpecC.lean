/- Plain words: a command. -/
import Derived.Test.YtifanmggfoicfaaDoorLawN
namespace Go.Proofs.YtifanmggfoicfaaDoor
/-- Does a number lie between two? -/
def inB (n lo hi : Int) : Bool := decide (lo ≤ n ∧ n ≤ hi)
theorem inB_true {n lo hi : Int} : inB n lo hi = true ↔ lo ≤ n ∧ n ≤ hi := decide_eq_true_iff
theorem inB_false {n lo hi : Int} : inB n lo hi = false ↔ ¬ (lo ≤ n ∧ n ≤ hi) := decide_eq_false_iff_not
/-- May a command be? -/
def okC (c n f t a : Int) : Bool := inB c 0 15 && (inB n 0 1048576 && (inB f 0 15 && (inB t 0 15 && (!(f == t) && inB a 1 1099511627776))))
def OkC (c n f t a : Int) : Prop := (0 ≤ c ∧ c ≤ 15) ∧ (0 ≤ n ∧ n ≤ 1048576) ∧ (0 ≤ f ∧ f ≤ 15) ∧ (0 ≤ t ∧ t ≤ 15) ∧ f ≠ t ∧ (1 ≤ a ∧ a ≤ 1099511627776)
theorem okC_iff {c n f t a : Int} : okC c n f t a = true ↔ OkC c n f t a := by
  unfold okC OkC
  simp only [Bool.and_eq_true, inB_true, Bool.not_eq_true', beq_eq_false_iff_ne]
def codeC (c n f t a : Int) : Int := if okC c n f t a = true then 0 else 1
theorem codeC_zero {c n f t a : Int} (h : OkC c n f t a) : codeC c n f t a = 0 := if_pos (okC_iff.2 h)
theorem codeC_one {c n f t a : Int} (h : ¬ OkC c n f t a) : codeC c n f t a = 1 := if_neg fun e => h (okC_iff.1 e)
theorem codeC_cases (c n f t a : Int) :
    (inB c 0 15 = false ∧ codeC c n f t a = 1) ∨ (inB c 0 15 = true ∧ inB n 0 1048576 = false ∧ codeC c n f t a = 1) ∨
    (inB c 0 15 = true ∧ inB n 0 1048576 = true ∧ inB f 0 15 = false ∧ codeC c n f t a = 1) ∨
    (inB c 0 15 = true ∧ inB n 0 1048576 = true ∧ inB f 0 15 = true ∧ inB t 0 15 = false ∧ codeC c n f t a = 1) ∨
    (inB c 0 15 = true ∧ inB n 0 1048576 = true ∧ inB f 0 15 = true ∧ inB t 0 15 = true ∧ (f == t) = true ∧ codeC c n f t a = 1) ∨
    (inB c 0 15 = true ∧ inB n 0 1048576 = true ∧ inB f 0 15 = true ∧ inB t 0 15 = true ∧ (f == t) = false ∧ inB a 1 1099511627776 = false ∧ codeC c n f t a = 1) ∨
    (inB c 0 15 = true ∧ inB n 0 1048576 = true ∧ inB f 0 15 = true ∧ inB t 0 15 = true ∧ (f == t) = false ∧ inB a 1 1099511627776 = true ∧ codeC c n f t a = 0) := by
  unfold codeC okC
  cases inB c 0 15 <;> cases inB n 0 1048576 <;> cases inB f 0 15 <;> cases inB t 0 15 <;> cases (f == t) <;> cases inB a 1 1099511627776 <;> simp
theorem rcode_cases (c n f t a : Int) :
    (c < 0 ∧ codeC c n f t a = 1) ∨ (0 ≤ c ∧ 16 ≤ c ∧ codeC c n f t a = 1) ∨ (0 ≤ c ∧ c < 16 ∧ n < 0 ∧ codeC c n f t a = 1) ∨ (0 ≤ c ∧ c < 16 ∧ 0 ≤ n ∧ 1048576 < n ∧ codeC c n f t a = 1) ∨
    (0 ≤ c ∧ c < 16 ∧ 0 ≤ n ∧ n ≤ 1048576 ∧ f < 0 ∧ codeC c n f t a = 1) ∨ (0 ≤ c ∧ c < 16 ∧ 0 ≤ n ∧ n ≤ 1048576 ∧ 0 ≤ f ∧ 16 ≤ f ∧ codeC c n f t a = 1) ∨
    (0 ≤ c ∧ c < 16 ∧ 0 ≤ n ∧ n ≤ 1048576 ∧ 0 ≤ f ∧ f < 16 ∧ t < 0 ∧ codeC c n f t a = 1) ∨ (0 ≤ c ∧ c < 16 ∧ 0 ≤ n ∧ n ≤ 1048576 ∧ 0 ≤ f ∧ f < 16 ∧ 0 ≤ t ∧ 16 ≤ t ∧ codeC c n f t a = 1) ∨
    (0 ≤ c ∧ c < 16 ∧ 0 ≤ n ∧ n ≤ 1048576 ∧ 0 ≤ f ∧ f < 16 ∧ 0 ≤ t ∧ t < 16 ∧ (f == t) = true ∧ codeC c n f t a = 1) ∨
    (0 ≤ c ∧ c < 16 ∧ 0 ≤ n ∧ n ≤ 1048576 ∧ 0 ≤ f ∧ f < 16 ∧ 0 ≤ t ∧ t < 16 ∧ (f == t) = false ∧ a < 1 ∧ codeC c n f t a = 1) ∨
    (0 ≤ c ∧ c < 16 ∧ 0 ≤ n ∧ n ≤ 1048576 ∧ 0 ≤ f ∧ f < 16 ∧ 0 ≤ t ∧ t < 16 ∧ (f == t) = false ∧ 1 ≤ a ∧ 1099511627776 < a ∧ codeC c n f t a = 1) ∨
    (0 ≤ c ∧ c < 16 ∧ 0 ≤ n ∧ n ≤ 1048576 ∧ 0 ≤ f ∧ f < 16 ∧ 0 ≤ t ∧ t < 16 ∧ (f == t) = false ∧ 1 ≤ a ∧ a ≤ 1099511627776 ∧ codeC c n f t a = 0) := by
  by_cases e0 : c < 0
  · exact .inl ⟨e0, codeC_one fun h => by have := h.1; have := h.2.1; have := h.2.2.1; have := h.2.2.2.1; have := h.2.2.2.2.2; omega⟩
  have g0 : 0 ≤ c := by omega
  refine .inr ?_
  by_cases e1 : 16 ≤ c
  · exact .inl ⟨g0, e1, codeC_one fun h => by have := h.1; have := h.2.1; have := h.2.2.1; have := h.2.2.2.1; have := h.2.2.2.2.2; omega⟩
  have g1 : c < 16 := by omega
  refine .inr ?_
  by_cases e2 : n < 0
  · exact .inl ⟨g0, g1, e2, codeC_one fun h => by have := h.1; have := h.2.1; have := h.2.2.1; have := h.2.2.2.1; have := h.2.2.2.2.2; omega⟩
  have g2 : 0 ≤ n := by omega
  refine .inr ?_
  by_cases e3 : 1048576 < n
  · exact .inl ⟨g0, g1, g2, e3, codeC_one fun h => by have := h.1; have := h.2.1; have := h.2.2.1; have := h.2.2.2.1; have := h.2.2.2.2.2; omega⟩
  have g3 : n ≤ 1048576 := by omega
  refine .inr ?_
  by_cases e4 : f < 0
  · exact .inl ⟨g0, g1, g2, g3, e4, codeC_one fun h => by have := h.1; have := h.2.1; have := h.2.2.1; have := h.2.2.2.1; have := h.2.2.2.2.2; omega⟩
  have g4 : 0 ≤ f := by omega
  refine .inr ?_
  by_cases e5 : 16 ≤ f
  · exact .inl ⟨g0, g1, g2, g3, g4, e5, codeC_one fun h => by have := h.1; have := h.2.1; have := h.2.2.1; have := h.2.2.2.1; have := h.2.2.2.2.2; omega⟩
  have g5 : f < 16 := by omega
  refine .inr ?_
  by_cases e6 : t < 0
  · exact .inl ⟨g0, g1, g2, g3, g4, g5, e6, codeC_one fun h => by have := h.1; have := h.2.1; have := h.2.2.1; have := h.2.2.2.1; have := h.2.2.2.2.2; omega⟩
  have g6 : 0 ≤ t := by omega
  refine .inr ?_
  by_cases e7 : 16 ≤ t
  · exact .inl ⟨g0, g1, g2, g3, g4, g5, g6, e7, codeC_one fun h => by have := h.1; have := h.2.1; have := h.2.2.1; have := h.2.2.2.1; have := h.2.2.2.2.2; omega⟩
  have g7 : t < 16 := by omega
  refine .inr ?_
  by_cases e8 : f = t
  · exact .inl ⟨g0, g1, g2, g3, g4, g5, g6, g7, by simpa using e8, codeC_one fun h => h.2.2.2.2.1 e8⟩
  have g8 : (f == t) = false := by simpa using e8
  refine .inr ?_
  by_cases e9 : a < 1
  · exact .inl ⟨g0, g1, g2, g3, g4, g5, g6, g7, g8, e9, codeC_one fun h => by have := h.1; have := h.2.1; have := h.2.2.1; have := h.2.2.2.1; have := h.2.2.2.2.2; omega⟩
  have g9 : 1 ≤ a := by omega
  refine .inr ?_
  by_cases e10 : 1099511627776 < a
  · exact .inl ⟨g0, g1, g2, g3, g4, g5, g6, g7, g8, g9, e10, codeC_one fun h => by have := h.1; have := h.2.1; have := h.2.2.1; have := h.2.2.2.1; have := h.2.2.2.2.2; omega⟩
  have g10 : a ≤ 1099511627776 := by omega
  exact .inr ⟨g0, g1, g2, g3, g4, g5, g6, g7, g8, g9, g10, codeC_zero ⟨⟨g0, by omega⟩, ⟨g2, g3⟩, ⟨g4, by omega⟩, ⟨g6, by omega⟩, e8, ⟨g9, g10⟩⟩⟩
def smallB (n : Int) : Bool := inB n (-2147483648) 2147483647
/-- A command read: the command, and what is wrong. -/
def parseC (s : List UInt8) : (Int × Int × Int × Int × Int) × Nat := match J.pnums s with
  | .error n => ((0, 0, 0, 0, 0), n)
  | .ok [c, n, f, t, a] => if smallB c && (smallB n && (smallB f && smallB t)) then (if okC c n f t a then ((c, n, f, t, a), 0) else ((0, 0, 0, 0, 0), 1)) else ((0, 0, 0, 0, 0), 2)
  | .ok _ => ((0, 0, 0, 0, 0), 2)
end Go.Proofs.YtifanmggfoicfaaDoor
