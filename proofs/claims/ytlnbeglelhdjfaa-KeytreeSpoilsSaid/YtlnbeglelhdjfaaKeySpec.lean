/- One-time keys as plain functions. -/
import Derived.Test.YtlnbeglelhdjfaaKey1
set_option linter.unusedSimpArgs false
set_option linter.unusedVariables false
namespace Go.Adm
open Go Go.RowKit

def b8 (i : Int) : UInt8 := UInt8.ofNat (i % 256).toNat
theorem b8_val (i : Int) : ((b8 i).toNat : Int) = i % 256 := by
  unfold b8
  rw [UInt8.toNat_ofNat']
  omega
theorem b8_v (i : Int) : Value.int .u8 (i % 256) = bv (b8 i) := by unfold bv; rw [b8_val]
theorem b8_small {i : Int} (h0 : 0 ≤ i) (h1 : i < 256) : Value.int .u8 i = bv (b8 i) := by rw [← b8_v, Int.emod_eq_of_lt h0 h1]
def twoS (i : Int) : List UInt8 := [b8 (i / 256), b8 i]
def secretS (seed : List UInt8) (leaf chain : Int) : List UInt8 := halfS (3 :: seed ++ twoS leaf ++ [b8 chain])
def stepS (x : List UInt8) (leaf chain at_ : Int) : List UInt8 := halfS (4 :: x ++ twoS leaf ++ [b8 chain, b8 at_])
def climbN (x : List UInt8) (leaf chain from_ : Int) : Nat → List UInt8
  | 0 => x
  | n + 1 => stepS (climbN x leaf chain from_ n) leaf chain (from_ + n)
def climbS (x : List UInt8) (leaf chain from_ to : Int) : List UInt8 := if from_ < 0 ∨ 3 < to then x else climbN x leaf chain from_ (to - from_).toNat
def joinS (level index : Int) (a b : List UInt8) : List UInt8 := halfS ([6, b8 level, b8 (index / 256), b8 index] ++ a ++ b)
def combineS (leaf : Int) (ends : List (List UInt8)) : List UInt8 := halfS (5 :: twoS leaf ++ ends.flatten)
def publicS (seed : List UInt8) (leaf : Int) : List UInt8 := combineS leaf ((List.range 68).map fun (i : Nat) => climbS (secretS seed leaf (i : Int)) leaf (i : Int) 0 3)
theorem halfS_len' (b : List UInt8) : (halfS b).length = 16 := halfS_len b
theorem stepS_len (x : List UInt8) (l c a : Int) : (stepS x l c a).length = 16 := halfS_len _
theorem secretS_len (x : List UInt8) (l c : Int) : (secretS x l c).length = 16 := halfS_len _
theorem joinS_len (l c : Int) (x y : List UInt8) : (joinS l c x y).length = 16 := halfS_len _
theorem combineS_len (l : Int) (x : List (List UInt8)) : (combineS l x).length = 16 := halfS_len _
theorem climbN_len (x : List UInt8) (l c f : Int) (hx : x.length = 16) : ∀ n, (climbN x l c f n).length = 16
  | 0 => hx
  | _ + 1 => stepS_len _ _ _ _
theorem climbS_len (x : List UInt8) (l c f t : Int) (hx : x.length = 16) : (climbS x l c f t).length = 16 := by
  unfold climbS; split
  · exact hx
  · exact climbN_len x l c f hx _
theorem publicS_len (s : List UInt8) (l : Int) : (publicS s l).length = 16 := halfS_len _
/-- a slice of a block that is known whole -/
theorem BytesAt.of {w : World} {g B : Nat} {t : TypeId} {b : List UInt8} {n c : Nat} (h : Cells w g t (b.map bv)) (hB : g < B) (hn : n = b.length) (hc : b.length ≤ c) (hc2 : c ≤ 1000) : BytesAt w B (.slice (some ⟨g, 0, none⟩) n c) b := by
  subst hn
  refine ⟨_, c, rfl, hc, by unfold maxLen; omega, ?_⟩
  have := (h.rd (o := 0) (n := b.length) (by simp)).mono (B' := B) (by omega)
  rw [List.drop_zero, List.take_of_length_le (by simp)] at this
  exact this
theorem Parts.of {w : World} {g B : Nat} {t : TypeId} {vs : List Value} {ps : List (List UInt8)} (h : Cells w g t vs) (hB : g < B) {n : Nat} (hn : n = vs.length) (hp : All2 (BytesAt w B) vs ps) : Parts w B (some ⟨g, 0, none⟩) n ps := by
  subst hn
  refine ⟨vs, ?_, hp⟩
  have := (h.rd (o := 0) (n := vs.length) (by simp)).mono (B' := B) (by omega)
  rw [List.drop_zero, List.take_length] at this
  exact this
end Go.Adm
