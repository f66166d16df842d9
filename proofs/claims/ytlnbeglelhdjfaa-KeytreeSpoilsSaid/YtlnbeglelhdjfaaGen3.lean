/- SHA-256 as a plain function on lists of bytes. SHA-256: a block mixed into the state, as a plain function. -/
import Derived.Test.YtlnbeglelhdjfaaGen1
set_option linter.unusedSimpArgs false
set_option linter.unusedVariables false
namespace Go.Adm
open Go Go.RowKit

def uv (x : UInt32) : Value := .int .u32 x.toNat
theorem uv_one (l : List UInt32) : ∀ u ∈ l.map uv, u.oneCell' = true := by
  intro u hu
  obtain ⟨b, _, rfl⟩ := List.mem_map.1 hu
  rfl

/-! ### the model's operations on numbers of 32 bits, as Lean's -/
theorem w_lt (x : UInt32) : (x.toNat : Int) < 4294967296 := by have := x.toNat_lt; omega
theorem w_add (x y : UInt32) : IntKind.u32.wrap ((x.toNat : Int) + y.toNat) = ((x + y).toNat : Int) := by
  rw [IntKind.wrap_u32', UInt32.toNat_add]; omega
theorem w_xor (x y : UInt32) : bits .xor .u32 (x.toNat : Int) (y.toNat : Int) = ((x ^^^ y).toNat : Int) := by
  rw [u32_xor_nat _ _ x.toNat_lt y.toNat_lt, UInt32.toNat_xor]
theorem w_and (x y : UInt32) : bits .and .u32 (x.toNat : Int) (y.toNat : Int) = ((x &&& y).toNat : Int) := by
  rw [u32_and_nat _ _ x.toNat_lt y.toNat_lt, UInt32.toNat_and]
theorem w_or (x y : UInt32) : bits .or .u32 (x.toNat : Int) (y.toNat : Int) = ((x ||| y).toNat : Int) := by
  rw [u32_or_nat _ _ x.toNat_lt y.toNat_lt, UInt32.toNat_or]
def shr (x : UInt32) (k : Nat) : UInt32 := UInt32.ofNat (x.toNat / 2 ^ k)
def shl (x : UInt32) (k : Nat) : UInt32 := UInt32.ofNat (x.toNat * 2 ^ k)
theorem w_shr (x : UInt32) (k : Nat) : (x.toNat : Int) / 2 ^ k = ((shr x k).toNat : Int) := by
  unfold shr
  have h := x.toNat_lt
  have h2 : x.toNat / 2 ^ k ≤ x.toNat := Nat.div_le_self _ _
  rw [UInt32.toNat_ofNat', Nat.mod_eq_of_lt (by omega)]
  simp
theorem w_shl (x : UInt32) (k : Nat) : IntKind.u32.wrap ((x.toNat : Int) * 2 ^ k) = ((shl x k).toNat : Int) := by
  unfold shl
  rw [IntKind.wrap_u32', UInt32.toNat_ofNat']
  simp
theorem w_shl' (x : UInt32) (k : Nat) : (x.toNat : Int) * 2 ^ k % 4294967296 = ((shl x k).toNat : Int) := by
  rw [← w_shl, IntKind.wrap_u32']
def rotr (x : UInt32) (k : Nat) : UInt32 := shr x k ||| shl x (32 - k)
theorem rot_mask (k : Nat) (h1 : 1 ≤ k) (h2 : k ≤ 31) : bits .and .u64 (IntKind.u64.wrap (-(k : Int))) 31 = ((32 - k : Nat) : Int) := by
  have e : IntKind.u64.wrap (-(k : Int)) = ((18446744073709551616 - k : Nat) : Int) := by
    simp only [IntKind.wrap, IntKind.bits, IntKind.signed]; simp; omega
  rw [e, show (31 : Int) = ((31 : Nat) : Int) from rfl, u64_and_nat _ _ (by omega) (by omega), show 31 = 2 ^ 5 - 1 from rfl, Nat.and_two_pow_sub_one_eq_mod]
  omega

theorem w_not (x : UInt32) : bits .xor .u32 (x.toNat : Int) 4294967295 = ((x ^^^ 4294967295).toNat : Int) := w_xor x 4294967295

/-! ### the function -/
def wordAt (b : List UInt8) (i : Nat) : UInt32 :=
  shl (UInt32.ofNat (b.getD (4 * i) 0).toNat) 24 ||| shl (UInt32.ofNat (b.getD (4 * i + 1) 0).toNat) 16 ||| shl (UInt32.ofNat (b.getD (4 * i + 2) 0).toNat) 8 ||| UInt32.ofNat (b.getD (4 * i + 3) 0).toNat
theorem w_byte (a : UInt8) : IntKind.u32.wrap (a.toNat : Int) = ((UInt32.ofNat a.toNat).toNat : Int) := by
  have := a.toNat_lt
  rw [IntKind.wrap_u32', UInt32.toNat_ofNat']; omega
theorem word_eq (a b c d : UInt8) :
    bits .or .u32 (bits .or .u32 (bits .or .u32 (IntKind.u32.wrap (IntKind.u32.wrap (a.toNat : Int) * 16777216)) (IntKind.u32.wrap (IntKind.u32.wrap (b.toNat : Int) * 65536))) (IntKind.u32.wrap (IntKind.u32.wrap (c.toNat : Int) * 256))) (IntKind.u32.wrap (d.toNat : Int)) =
      ((shl (UInt32.ofNat a.toNat) 24 ||| shl (UInt32.ofNat b.toNat) 16 ||| shl (UInt32.ofNat c.toNat) 8 ||| UInt32.ofNat d.toNat).toNat : Int) := by
  rw [w_byte, w_byte, w_byte, w_byte, show (16777216 : Int) = 2 ^ 24 from rfl, show (65536 : Int) = 2 ^ 16 from rfl, show (256 : Int) = 2 ^ 8 from rfl, w_shl, w_shl, w_shl, w_or, w_or, w_or]
theorem word_eq' (a b c d : UInt8) :
    bits .or .u32 (bits .or .u32 (bits .or .u32 ((a.toNat : Int) % 4294967296 * 16777216 % 4294967296) ((b.toNat : Int) % 4294967296 * 65536 % 4294967296)) ((c.toNat : Int) % 4294967296 * 256 % 4294967296)) ((d.toNat : Int) % 4294967296) =
      ((shl (UInt32.ofNat a.toNat) 24 ||| shl (UInt32.ofNat b.toNat) 16 ||| shl (UInt32.ofNat c.toNat) 8 ||| UInt32.ofNat d.toNat).toNat : Int) := by
  rw [← word_eq]
  simp only [IntKind.wrap_u32']
def sg0 (x : UInt32) : UInt32 := rotr x 7 ^^^ rotr x 18 ^^^ shr x 3
def sg1 (x : UInt32) : UInt32 := rotr x 17 ^^^ rotr x 19 ^^^ shr x 10
theorem sg0_eq (x : UInt32) : bits .xor .u32 (bits .xor .u32 ((rotr x 7).toNat : Int) ((rotr x 18).toNat : Int)) ((x.toNat : Int) / 8) = ((sg0 x).toNat : Int) := by
  rw [show (8 : Int) = 2 ^ 3 from rfl, w_shr, w_xor, w_xor]; rfl
theorem sg1_eq (x : UInt32) : bits .xor .u32 (bits .xor .u32 ((rotr x 17).toNat : Int) ((rotr x 19).toNat : Int)) ((x.toNat : Int) / 1024) = ((sg1 x).toNat : Int) := by
  rw [show (1024 : Int) = 2 ^ 10 from rfl, w_shr, w_xor, w_xor]; rfl
theorem sum2 (a b : UInt32) : ((a.toNat : Int) + b.toNat) % 4294967296 = ((a + b).toNat : Int) := by rw [← w_add, IntKind.wrap_u32']
theorem sum3 (a b c : UInt32) : (((a.toNat : Int) + b.toNat) % 4294967296 + c.toNat) % 4294967296 = ((a + b + c).toNat : Int) := by rw [sum2, sum2]
def add4 (a b c d : UInt32) : UInt32 := a + b + c + d
theorem w_add4 (a b c d : UInt32) : IntKind.u32.wrap (IntKind.u32.wrap (IntKind.u32.wrap ((a.toNat : Int) + b.toNat) + c.toNat) + d.toNat) = ((add4 a b c d).toNat : Int) := by rw [w_add, w_add, w_add]; rfl
def ext (W : List UInt32) : List UInt32 := W ++ [add4 (W.getD (W.length - 16) 0) (sg0 (W.getD (W.length - 15) 0)) (W.getD (W.length - 7) 0) (sg1 (W.getD (W.length - 2) 0))]
def extN : Nat → List UInt32 → List UInt32
  | 0, W => W
  | n + 1, W => ext (extN n W)
def first16 (b : List UInt8) : List UInt32 := (List.range 16).map (wordAt b)
def sched (b : List UInt8) : List UInt32 := extN 48 (first16 b)
theorem first16_succ (b : List UInt8) (k : Nat) (h : k < 16) : (first16 b).take (k + 1) = (first16 b).take k ++ [wordAt b k] := by
  unfold first16
  rw [← List.map_take, ← List.map_take, List.take_range, List.take_range, show min (k + 1) 16 = k + 1 from by omega, show min k 16 = k from by omega, List.range_succ, List.map_append]
  rfl
theorem extN_len (n : Nat) (W : List UInt32) : (extN n W).length = W.length + n := by
  induction n with
  | zero => rfl
  | succ n ih => simp [extN, ext, ih]; omega
theorem first16_len (b : List UInt8) : (first16 b).length = 16 := by simp [first16]
theorem sched_len (b : List UInt8) : (sched b).length = 64 := by simp [sched, extN_len, first16_len]
end Go.Adm
namespace Go.Adm
open Go Go.RowKit

structure S8 where
  (a b c d e f g h : UInt32)
def S8.list (s : S8) : List UInt32 := [s.a, s.b, s.c, s.d, s.e, s.f, s.g, s.h]
def S8.of (l : List UInt32) : S8 := ⟨l.getD 0 0, l.getD 1 0, l.getD 2 0, l.getD 3 0, l.getD 4 0, l.getD 5 0, l.getD 6 0, l.getD 7 0⟩
theorem S8.list_len (s : S8) : s.list.length = 8 := rfl
def addw (x y : UInt32) : UInt32 := x + y
def chf (e f g : UInt32) : UInt32 := (e &&& f) ^^^ ((e ^^^ 4294967295) &&& g)
def maj (a b c : UInt32) : UInt32 := (a &&& b) ^^^ (a &&& c) ^^^ (b &&& c)
def bs0 (a : UInt32) : UInt32 := rotr a 2 ^^^ rotr a 13 ^^^ rotr a 22
def bs1 (e : UInt32) : UInt32 := rotr e 6 ^^^ rotr e 11 ^^^ rotr e 25
def t1a (h k w e f g : UInt32) : UInt32 := h + k + w + chf e f g
def t1 (h k w e f g : UInt32) : UInt32 := t1a h k w e f g + bs1 e
def t2 (a b c : UInt32) : UInt32 := maj a b c + bs0 a
def round1 (s : S8) (k w : UInt32) : S8 :=
  ⟨addw (t1 s.h k w s.e s.f s.g) (t2 s.a s.b s.c), s.a, s.b, s.c, addw s.d (t1 s.h k w s.e s.f s.g), s.e, s.f, s.g⟩
def roundN (K W : List UInt32) (s : S8) : Nat → S8
  | 0 => s
  | n + 1 => round1 (roundN K W s n) (K.getD n 0) (W.getD n 0)
def addS (s t : S8) : S8 := ⟨addw s.a t.a, addw s.b t.b, addw s.c t.c, addw s.d t.d, addw s.e t.e, addw s.f t.f, addw s.g t.g, addw s.h t.h⟩
def absorbS (K : List UInt32) (s : S8) (b : List UInt8) : S8 := addS s (roundN K (sched b) s 64)

theorem absorbS_of {K : List UInt32} {s t : S8} {b : List UInt8} {n : Nat} (ht : t = roundN K (sched b) s n) (hn : n = 64) : absorbS K s b = addS s t := by
  unfold absorbS; rw [ht, hn]
theorem w_addw (x y : UInt32) : IntKind.u32.wrap ((x.toNat : Int) + y.toNat) = ((addw x y).toNat : Int) := w_add x y
theorem w_t1a (h k w e f g : UInt32) :
    IntKind.u32.wrap (IntKind.u32.wrap (IntKind.u32.wrap ((h.toNat : Int) + k.toNat) + w.toNat) + bits .xor .u32 (bits .and .u32 (e.toNat : Int) (f.toNat : Int)) (bits .and .u32 (bits .xor .u32 (e.toNat : Int) 4294967295) (g.toNat : Int))) = ((t1a h k w e f g).toNat : Int) := by
  rw [w_not, w_and, w_and, w_xor, w_add, w_add, w_add]; rfl
theorem u32_ones : (if IntKind.u32.signed = true then (-1 : Int) else IntKind.u32.max) = 4294967295 := by decide
theorem w_t1a' (h k w e f g : UInt32) :
    (((h.toNat : Int) + k.toNat + w.toNat) % 4294967296 + bits .xor .u32 (bits .and .u32 (e.toNat : Int) (f.toNat : Int)) (bits .and .u32 (bits .xor .u32 4294967295 (e.toNat : Int)) (g.toNat : Int))) % 4294967296 = ((t1a h k w e f g).toNat : Int) := by
  have e1 : (4294967295 : Int) = ((4294967295 : UInt32).toNat : Int) := by decide
  have e2 : (4294967295 : UInt32) ^^^ e = e ^^^ 4294967295 := by
    apply UInt32.toNat_inj.1
    rw [UInt32.toNat_xor, UInt32.toNat_xor, Nat.xor_comm]
  have e3 : ((h.toNat : Int) + k.toNat + w.toNat) % 4294967296 = ((h + k + w).toNat : Int) := by
    rw [UInt32.toNat_add, UInt32.toNat_add]; omega
  rw [e3, e1, w_xor, e2, w_and, w_and, w_xor, sum2]; rfl
theorem m_t1 (h k w e f g : UInt32) : (((t1a h k w e f g).toNat : Int) + (bs1 e).toNat) % 4294967296 = ((t1 h k w e f g).toNat : Int) := by rw [sum2]; rfl
theorem m_t2 (a b c : UInt32) : (((maj a b c).toNat : Int) + (bs0 a).toNat) % 4294967296 = ((t2 a b c).toNat : Int) := by rw [sum2]; rfl
theorem m_addw (x y : UInt32) : ((x.toNat : Int) + y.toNat) % 4294967296 = ((addw x y).toNat : Int) := by rw [sum2]; rfl
theorem w_bs1 (e : UInt32) : bits .xor .u32 (bits .xor .u32 ((rotr e 6).toNat : Int) ((rotr e 11).toNat : Int)) ((rotr e 25).toNat : Int) = ((bs1 e).toNat : Int) := by rw [w_xor, w_xor]; rfl
theorem w_bs0 (e : UInt32) : bits .xor .u32 (bits .xor .u32 ((rotr e 2).toNat : Int) ((rotr e 13).toNat : Int)) ((rotr e 22).toNat : Int) = ((bs0 e).toNat : Int) := by rw [w_xor, w_xor]; rfl
theorem w_maj (a b c : UInt32) : bits .xor .u32 (bits .xor .u32 (bits .and .u32 (a.toNat : Int) (b.toNat : Int)) (bits .and .u32 (a.toNat : Int) (c.toNat : Int))) (bits .and .u32 (b.toNat : Int) (c.toNat : Int)) = ((maj a b c).toNat : Int) := by
  rw [w_and, w_and, w_and, w_xor, w_xor]; rfl
theorem w_t1 (h k w e f g : UInt32) : IntKind.u32.wrap (((t1a h k w e f g).toNat : Int) + (bs1 e).toNat) = ((t1 h k w e f g).toNat : Int) := by rw [w_add]; rfl
theorem w_t2 (a b c : UInt32) : IntKind.u32.wrap (((maj a b c).toNat : Int) + (bs0 a).toNat) = ((t2 a b c).toNat : Int) := by rw [w_add]; rfl
/-- the state while the sums are stored one by one -/
def mixS (s t : S8) (k : Nat) : List UInt32 := (addS s t).list.take k ++ s.list.drop k
theorem mixS_len (s t : S8) (k : Nat) (h : k ≤ 8) : (mixS s t k).length = 8 := by simp [mixS, S8.list_len]; omega
theorem mixS_get (s t : S8) (k : Nat) (h : k < 8) : (mixS s t k).getD k 0 = s.list.getD k 0 := by
  have : (mixS s t k)[k]? = s.list[k]? := by
    unfold mixS
    rw [List.getElem?_append_right (by simp [S8.list_len]; omega), List.length_take, S8.list_len, show min k 8 = k from by omega, Nat.sub_self, List.getElem?_drop, Nat.add_zero]
  simp [List.getD, this]
theorem mixS_set (s t : S8) (k : Nat) (h : k < 8) : ((mixS s t k).map uv).set k (.int .u32 (addw (s.list.getD k 0) (t.list.getD k 0)).toNat) = (mixS s t (k + 1)).map uv := by
  match k, h with
  | 0, _ => rfl
  | 1, _ => rfl
  | 2, _ => rfl
  | 3, _ => rfl
  | 4, _ => rfl
  | 5, _ => rfl
  | 6, _ => rfl
  | 7, _ => rfl
theorem mixS_zero (s t : S8) : mixS s t 0 = s.list := rfl
theorem mixS_all (s t : S8) : mixS s t 8 = (addS s t).list := rfl
/-- the constants of the rounds -/
def KS : List UInt32 := [1116352408, 1899447441, 3049323471, 3921009573, 961987163, 1508970993, 2453635748, 2870763221, 3624381080, 310598401, 607225278, 1426881987, 1925078388, 2162078206, 2614888103, 3248222580, 3835390401, 4022224774, 264347078, 604807628, 770255983, 1249150122, 1555081692, 1996064986, 2554220882, 2821834349, 2952996808, 3210313671, 3336571891, 3584528711, 113926993, 338241895, 666307205, 773529912, 1294757372, 1396182291, 1695183700, 1986661051, 2177026350, 2456956037, 2730485921, 2820302411, 3259730800, 3345764771, 3516065817, 3600352804, 4094571909, 275423344, 430227734, 506948616, 659060556, 883997877, 958139571, 1322822218, 1537002063, 1747873779, 1955562222, 2024104815, 2227730452, 2361852424, 2428436474, 2756734187, 3204031479, 3329325298]
theorem KS_len : KS.length = 64 := by decide
end Go.Adm
