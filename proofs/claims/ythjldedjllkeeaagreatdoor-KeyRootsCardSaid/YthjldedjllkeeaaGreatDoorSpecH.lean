/- Plain words: the digests of the document, over numbers and lists of bytes alone. -/
import Derived.Laws.Bits64
namespace Go.Proofs.YthjldedjllkeeaaGreatDoor.S
def M64 : Nat := 18446744073709551616
def xs (x : Nat) : Nat := x ^^^ (x / 4294967296)
def mixC (a b : Nat) : Nat := xs ((xs ((xs (a ^^^ (b * 11400714819323198485 % M64))) * 15485907386658061715 % M64)) * 15485907386658061715 % M64)
/- The mixing as a name that the kernel does not open by itself (it would reckon with it where it stands). -/
theorem mix_is : ∃ f : Nat → Nat → Nat, ∀ a b, f a b = mixC a b := ⟨mixC, fun _ _ => rfl⟩
noncomputable def mixN : Nat → Nat → Nat := Classical.choose mix_is
theorem mixN_eq (a b : Nat) : mixN a b = mixC a b := Classical.choose_spec mix_is a b
theorem mixN_C : mixN = mixC := funext fun a => funext fun b => mixN_eq a b
theorem M64_eq : M64 = 2 ^ 64 := by decide
theorem xs_lt {x : Nat} (h : x < M64) : xs x < M64 := by
  unfold xs
  rw [M64_eq] at *
  exact Nat.xor_lt_two_pow h (Nat.lt_of_le_of_lt (Nat.div_le_self _ _) h)
theorem mod_lt (x : Nat) : x % M64 < M64 := Nat.mod_lt _ (by decide)
theorem mixN_lt (a b : Nat) : mixN a b < M64 := by rw [mixN_eq]; exact xs_lt (mod_lt _)
/-- The mixing, on the walk's own numbers. -/
noncomputable def mix (a b : Int) : Int := (mixN a.toNat b.toNat : Nat)
theorem mix_ge (a b : Int) : 0 ≤ mix a b := Int.natCast_nonneg _
theorem mix_lt (a b : Int) : mix a b < 18446744073709551616 := by
  have h := mixN_lt a.toNat b.toNat
  unfold M64 at h
  unfold mix
  omega
/-- Bytes as numbers. -/
def nums (l : List UInt8) : List Nat := l.map UInt8.toNat
/-- A digest of bytes. -/
noncomputable def tagN (tag : List UInt8) : Nat := mixN ((nums tag).foldl mixN 0) 256
noncomputable def sumN (tag b : List UInt8) : Nat := mixN ((nums b).foldl mixN (tagN tag)) b.length
noncomputable def twoN (tag : List UInt8) (a b : Nat) : Nat := mixN (mixN (sumN tag []) a) b
noncomputable def chainN (h x : Nat) : Nat → Nat
  | 0 => x
  | n + 1 => mixN h (chainN h x n)
theorem tagN_lt (tag : List UInt8) : tagN tag < M64 := mixN_lt _ _
theorem sumN_lt (tag b : List UInt8) : sumN tag b < M64 := mixN_lt _ _
theorem twoN_lt (tag : List UInt8) (a b : Nat) : twoN tag a b < M64 := mixN_lt _ _
theorem chainN_lt (h x : Nat) (hx : x < M64) : ∀ n, chainN h x n < M64
  | 0 => hx
  | _ + 1 => mixN_lt _ _
end Go.Proofs.YthjldedjllkeeaaGreatDoor.S
