/- The words of a digest, in plain Lean. -/
import Derived.Test.YtkcmaembpfakdaaDoorGen1
set_option linter.unusedSimpArgs false
set_option linter.unusedVariables false
set_option maxRecDepth 100000
namespace Go.Adm
open Go Go.RowKit
def hexl (c : UInt8) : UInt8 := if c < 10 then 48 + c else 87 + c
def hexL (l : List UInt8) : List UInt8 := l.flatMap fun (b : UInt8) => [hexl (b >>> 4), hexl (b &&& 15)]
def prefL : List UInt8 := [115, 104, 97, 50, 53, 54, 58]
def fmtL (d : List UInt8) : List UInt8 := prefL ++ hexL d
theorem hexL_len (l : List UInt8) : (hexL l).length = 2 * l.length := by
  induction l with
  | nil => rfl
  | cons b l ih => rw [hexL, List.flatMap_cons, List.length_append, show (l.flatMap fun (b : UInt8) => [hexl (b >>> 4), hexl (b &&& 15)]) = hexL l from rfl, ih]; simp; omega
theorem hexL_snoc (l : List UInt8) (b : UInt8) : hexL (l ++ [b]) = hexL l ++ [hexl (b >>> 4), hexl (b &&& 15)] := by
  unfold hexL
  rw [List.flatMap_append]
  simp
def hexTl : ByteArray := ⟨#[48, 49, 50, 51, 52, 53, 54, 55, 56, 57, 97, 98, 99, 100, 101, 102]⟩
theorem hexl_fin : ∀ n : Fin 16, hexTl[n.val]'(show n.val < 16 from n.isLt) = hexl (UInt8.ofNat n.val) := by decide +kernel
theorem hexl_of (i : Int) (n : Nat) (hn : n < 16) (e : i.toNat = n) (h : i.toNat < 16) : (⟨#[48, 49, 50, 51, 52, 53, 54, 55, 56, 57, 97, 98, 99, 100, 101, 102]⟩ : ByteArray)[i.toNat]'h = hexl (UInt8.ofNat n) := by
  subst e
  exact hexl_fin ⟨i.toNat, h⟩
theorem hexl_div (c : UInt8) (h : ((c.toNat : Int) / 16).toNat < 16) : (⟨#[48, 49, 50, 51, 52, 53, 54, 55, 56, 57, 97, 98, 99, 100, 101, 102]⟩ : ByteArray)[((c.toNat : Int) / 16).toNat]'h = hexl (c >>> 4) := by
  have e : UInt8.ofNat (c.toNat / 16) = c >>> 4 := by
    apply UInt8.toNat_inj.1
    have := c.toNat_lt
    rw [UInt8.toNat_shiftRight, Nat.shiftRight_eq_div_pow]
    simp
    omega
  rw [hexl_of _ (c.toNat / 16) (by have := c.toNat_lt; omega) (by omega) h, e]
theorem hexl_mod (c : UInt8) (h : ((c.toNat : Int) % 16).toNat < 16) : (⟨#[48, 49, 50, 51, 52, 53, 54, 55, 56, 57, 97, 98, 99, 100, 101, 102]⟩ : ByteArray)[((c.toNat : Int) % 16).toNat]'h = hexl (c &&& 15) := by
  have e : UInt8.ofNat (c.toNat % 16) = c &&& 15 := by
    apply UInt8.toNat_inj.1
    rw [UInt8.toNat_and, show (15 : UInt8).toNat = 2 ^ 4 - 1 from rfl, Nat.and_two_pow_sub_one_eq_mod]
    simp
    omega
  rw [hexl_of _ (c.toNat % 16) (by omega) (by omega) h, e]
theorem hexl_divN (c : UInt8) (h : c.toNat / 16 < 16) : (⟨#[48, 49, 50, 51, 52, 53, 54, 55, 56, 57, 97, 98, 99, 100, 101, 102]⟩ : ByteArray)[c.toNat / 16]'h = hexl (c >>> 4) := hexl_div c (by have := c.toNat_lt; omega)
theorem hexl_modN (c : UInt8) (h : c.toNat % 16 < 16) : (⟨#[48, 49, 50, 51, 52, 53, 54, 55, 56, 57, 97, 98, 99, 100, 101, 102]⟩ : ByteArray)[c.toNat % 16]'h = hexl (c &&& 15) := hexl_mod c (by omega)
theorem fmt_size {d : List UInt8} (h : d.length = 32) : (⟨(fmtL d).toArray⟩ : ByteArray).size = 71 := by
  show (fmtL d).toArray.size = 71
  rw [List.size_toArray, fmtL, List.length_append, hexL_len, h]; rfl
end Go.Adm
