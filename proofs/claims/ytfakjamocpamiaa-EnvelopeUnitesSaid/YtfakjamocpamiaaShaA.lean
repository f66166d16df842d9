/- SHA-256 as a plain function on lists of bytes. SHA-256: a block mixed into the state, as a plain function. SHA-256: rotations. SHA-256: the schedule. SHA-256: digest.absorb. SHA-256: the constants. SHA-256: the whole function, as the program computes it. SHA-256: the padded message. SHA-256: digest.Sum. SHA-256: the reference's block. SHA-256: the reference's Sum. -/
import Derived.Test.YtfakjamocpamiaaGen1
import Derived.Deep.RegionHeld3
import Derived.IntWalk
import Derived.Deep.QuietTactic
import Derived.BigQuiet
import Derived.Test.YtfakjamocpamiaaGen2
set_option linter.unusedSimpArgs false
set_option linter.unusedVariables false
namespace Go.Adm
open Go Go.RowKit

def uv (x : UInt32) : Value := .int .u32 x.toNat
theorem uv_one (l : List UInt32) : ∀ u ∈ l.map uv, u.oneCell' = true := by
 intro u hu
 obtain ⟨b, _, rfl⟩ := List.mem_map.1 hu
 rfl

/-! ### the model's operations on numbers of 32 bits, as Lean's -/
theorem w_add (x y : UInt32) : IntKind.u32.wrap ((x.toNat : Int) + y.toNat) = ((x + y).toNat : Int) := by
 rw [IntKind.wrap_u32', UInt32.toNat_add]; omega
theorem w_xor (x y : UInt32) : bits .xor .u32 (x.toNat : Int) (y.toNat : Int) = ((x ^^^ y).toNat : Int) := by
 rw [u32_xor_nat _ _ x.toNat_lt y.toNat_lt, UInt32.toNat_xor]
theorem w_and (x y : UInt32) : bits .and .u32 (x.toNat : Int) (y.toNat : Int) = ((x &&& y).toNat : Int) := by
 rw [u32_and_nat _ _ x.toNat_lt y.toNat_lt, UInt32.toNat_and]
theorem w_or (x y : UInt32) : bits .or .u32 (x.toNat : Int) (y.toNat : Int) = ((x ||| y).toNat : Int) := by
 rw [u32_or_nat _ _ x.toNat_lt y.toNat_lt, UInt32.toNat_or]
def shr (x : UInt32) (k : Nat) : UInt32 := UInt32.ofNat (x.toNat / 2 ^ k)
def shl (x : UInt32) (k : Nat) : UInt32 := UInt32.ofNat (x.toNat * 2 ^ k)
theorem w_shr (x : UInt32) (k : Nat) : (x.toNat : Int) / 2 ^ k = ((shr x k).toNat : Int) := by
 unfold shr
 have h := x.toNat_lt
 have h2 : x.toNat / 2 ^ k ≤ x.toNat := Nat.div_le_self _ _
 rw [UInt32.toNat_ofNat', Nat.mod_eq_of_lt (by omega)]
 simp
theorem w_shl (x : UInt32) (k : Nat) : IntKind.u32.wrap ((x.toNat : Int) * 2 ^ k) = ((shl x k).toNat : Int) := by
 unfold shl
 rw [IntKind.wrap_u32', UInt32.toNat_ofNat']
 simp
theorem w_shl' (x : UInt32) (k : Nat) : (x.toNat : Int) * 2 ^ k % 4294967296 = ((shl x k).toNat : Int) := by
 rw [← w_shl, IntKind.wrap_u32']
def rotr (x : UInt32) (k : Nat) : UInt32 := shr x k ||| shl x (32 - k)
theorem rot_mask (k : Nat) (h1 : 1 ≤ k) (h2 : k ≤ 31) : bits .and .u64 (IntKind.u64.wrap (-(k : Int))) 31 = ((32 - k : Nat) : Int) := by
 have e : IntKind.u64.wrap (-(k : Int)) = ((18446744073709551616 - k : Nat) : Int) := by
  simp only [IntKind.wrap, IntKind.bits, IntKind.signed]; simp; omega
 rw [e, show (31 : Int) = ((31 : Nat) : Int) from rfl, u64_and_nat _ _ (by omega) (by omega), show 31 = 2 ^ 5 - 1 from rfl, Nat.and_two_pow_sub_one_eq_mod]
 omega

/-! ### the function -/
def wordAt (b : List UInt8) (i : Nat) : UInt32 :=
 shl (UInt32.ofNat (b.getD (4 * i) 0).toNat) 24 ||| shl (UInt32.ofNat (b.getD (4 * i + 1) 0).toNat) 16 ||| shl (UInt32.ofNat (b.getD (4 * i + 2) 0).toNat) 8 ||| UInt32.ofNat (b.getD (4 * i + 3) 0).toNat
theorem w_byte (a : UInt8) : IntKind.u32.wrap (a.toNat : Int) = ((UInt32.ofNat a.toNat).toNat : Int) := by
 have := a.toNat_lt
 rw [IntKind.wrap_u32', UInt32.toNat_ofNat']; omega
theorem word_eq (a b c d : UInt8) :
  bits .or .u32 (bits .or .u32 (bits .or .u32 (IntKind.u32.wrap (IntKind.u32.wrap (a.toNat : Int) * 16777216)) (IntKind.u32.wrap (IntKind.u32.wrap (b.toNat : Int) * 65536))) (IntKind.u32.wrap (IntKind.u32.wrap (c.toNat : Int) * 256))) (IntKind.u32.wrap (d.toNat : Int)) =
   ((shl (UInt32.ofNat a.toNat) 24 ||| shl (UInt32.ofNat b.toNat) 16 ||| shl (UInt32.ofNat c.toNat) 8 ||| UInt32.ofNat d.toNat).toNat : Int) := by
 rw [w_byte, w_byte, w_byte, w_byte, show (16777216 : Int) = 2 ^ 24 from rfl, show (65536 : Int) = 2 ^ 16 from rfl, show (256 : Int) = 2 ^ 8 from rfl, w_shl, w_shl, w_shl, w_or, w_or, w_or]
theorem word_eq' (a b c d : UInt8) :
  bits .or .u32 (bits .or .u32 (bits .or .u32 ((a.toNat : Int) % 4294967296 * 16777216 % 4294967296) ((b.toNat : Int) % 4294967296 * 65536 % 4294967296)) ((c.toNat : Int) % 4294967296 * 256 % 4294967296)) ((d.toNat : Int) % 4294967296) =
   ((shl (UInt32.ofNat a.toNat) 24 ||| shl (UInt32.ofNat b.toNat) 16 ||| shl (UInt32.ofNat c.toNat) 8 ||| UInt32.ofNat d.toNat).toNat : Int) := by
 rw [← word_eq]
 simp only [IntKind.wrap_u32']
def sg0 (x : UInt32) : UInt32 := rotr x 7 ^^^ rotr x 18 ^^^ shr x 3
def sg1 (x : UInt32) : UInt32 := rotr x 17 ^^^ rotr x 19 ^^^ shr x 10
theorem sg0_eq (x : UInt32) : bits .xor .u32 (bits .xor .u32 ((rotr x 7).toNat : Int) ((rotr x 18).toNat : Int)) ((x.toNat : Int) / 8) = ((sg0 x).toNat : Int) := by
 rw [show (8 : Int) = 2 ^ 3 from rfl, w_shr, w_xor, w_xor]; rfl
theorem sg1_eq (x : UInt32) : bits .xor .u32 (bits .xor .u32 ((rotr x 17).toNat : Int) ((rotr x 19).toNat : Int)) ((x.toNat : Int) / 1024) = ((sg1 x).toNat : Int) := by
 rw [show (1024 : Int) = 2 ^ 10 from rfl, w_shr, w_xor, w_xor]; rfl
theorem sum2 (a b : UInt32) : ((a.toNat : Int) + b.toNat) % 4294967296 = ((a + b).toNat : Int) := by rw [← w_add, IntKind.wrap_u32']
theorem sum3 (a b c : UInt32) : (((a.toNat : Int) + b.toNat) % 4294967296 + c.toNat) % 4294967296 = ((a + b + c).toNat : Int) := by rw [sum2, sum2]
def add4 (a b c d : UInt32) : UInt32 := a + b + c + d
theorem w_add4 (a b c d : UInt32) : IntKind.u32.wrap (IntKind.u32.wrap (IntKind.u32.wrap ((a.toNat : Int) + b.toNat) + c.toNat) + d.toNat) = ((add4 a b c d).toNat : Int) := by rw [w_add, w_add, w_add]; rfl
def ext (W : List UInt32) : List UInt32 := W ++ [add4 (W.getD (W.length - 16) 0) (sg0 (W.getD (W.length - 15) 0)) (W.getD (W.length - 7) 0) (sg1 (W.getD (W.length - 2) 0))]
def extN : Nat → List UInt32 → List UInt32
 | 0, W => W
 | n + 1, W => ext (extN n W)
def first16 (b : List UInt8) : List UInt32 := (List.range 16).map (wordAt b)
def sched (b : List UInt8) : List UInt32 := extN 48 (first16 b)
theorem first16_succ (b : List UInt8) (k : Nat) (h : k < 16) : (first16 b).take (k + 1) = (first16 b).take k ++ [wordAt b k] := by
 unfold first16
 rw [← List.map_take, ← List.map_take, List.take_range, List.take_range, show min (k + 1) 16 = k + 1 from by omega, show min k 16 = k from by omega, List.range_succ, List.map_append]
 rfl
theorem extN_len (n : Nat) (W : List UInt32) : (extN n W).length = W.length + n := by
 induction n with
 | zero => rfl
 | succ n ih => simp [extN, ext, ih]; omega
theorem first16_len (b : List UInt8) : (first16 b).length = 16 := by simp [first16]
theorem sched_len (b : List UInt8) : (sched b).length = 64 := by simp [sched, extN_len, first16_len]
end Go.Adm
namespace Go.Adm
open Go Go.RowKit

structure S8 where
 (a b c d e f g h : UInt32)
def S8.list (s : S8) : List UInt32 := [s.a, s.b, s.c, s.d, s.e, s.f, s.g, s.h]
def S8.of (l : List UInt32) : S8 := ⟨l.getD 0 0, l.getD 1 0, l.getD 2 0, l.getD 3 0, l.getD 4 0, l.getD 5 0, l.getD 6 0, l.getD 7 0⟩
theorem S8.list_len (s : S8) : s.list.length = 8 := rfl
def addw (x y : UInt32) : UInt32 := x + y
def chf (e f g : UInt32) : UInt32 := (e &&& f) ^^^ ((e ^^^ 4294967295) &&& g)
def maj (a b c : UInt32) : UInt32 := (a &&& b) ^^^ (a &&& c) ^^^ (b &&& c)
def bs0 (a : UInt32) : UInt32 := rotr a 2 ^^^ rotr a 13 ^^^ rotr a 22
def bs1 (e : UInt32) : UInt32 := rotr e 6 ^^^ rotr e 11 ^^^ rotr e 25
def t1a (h k w e f g : UInt32) : UInt32 := h + k + w + chf e f g
def t1 (h k w e f g : UInt32) : UInt32 := t1a h k w e f g + bs1 e
def t2 (a b c : UInt32) : UInt32 := maj a b c + bs0 a
def round1 (s : S8) (k w : UInt32) : S8 :=
 ⟨addw (t1 s.h k w s.e s.f s.g) (t2 s.a s.b s.c), s.a, s.b, s.c, addw s.d (t1 s.h k w s.e s.f s.g), s.e, s.f, s.g⟩
def roundN (K W : List UInt32) (s : S8) : Nat → S8
 | 0 => s
 | n + 1 => round1 (roundN K W s n) (K.getD n 0) (W.getD n 0)
def addS (s t : S8) : S8 := ⟨addw s.a t.a, addw s.b t.b, addw s.c t.c, addw s.d t.d, addw s.e t.e, addw s.f t.f, addw s.g t.g, addw s.h t.h⟩
def absorbS (K : List UInt32) (s : S8) (b : List UInt8) : S8 := addS s (roundN K (sched b) s 64)

theorem absorbS_of {K : List UInt32} {s t : S8} {b : List UInt8} {n : Nat} (ht : t = roundN K (sched b) s n) (hn : n = 64) : absorbS K s b = addS s t := by
 unfold absorbS; rw [ht, hn]
theorem u32_ones : (if IntKind.u32.signed = true then (-1 : Int) else IntKind.u32.max) = 4294967295 := by decide
theorem w_t1a' (h k w e f g : UInt32) :
  (((h.toNat : Int) + k.toNat + w.toNat) % 4294967296 + bits .xor .u32 (bits .and .u32 (e.toNat : Int) (f.toNat : Int)) (bits .and .u32 (bits .xor .u32 4294967295 (e.toNat : Int)) (g.toNat : Int))) % 4294967296 = ((t1a h k w e f g).toNat : Int) := by
 have e1 : (4294967295 : Int) = ((4294967295 : UInt32).toNat : Int) := by decide
 have e2 : (4294967295 : UInt32) ^^^ e = e ^^^ 4294967295 := by
  apply UInt32.toNat_inj.1
  rw [UInt32.toNat_xor, UInt32.toNat_xor, Nat.xor_comm]
 have e3 : ((h.toNat : Int) + k.toNat + w.toNat) % 4294967296 = ((h + k + w).toNat : Int) := by
  rw [UInt32.toNat_add, UInt32.toNat_add]; omega
 rw [e3, e1, w_xor, e2, w_and, w_and, w_xor, sum2]; rfl
theorem m_t1 (h k w e f g : UInt32) : (((t1a h k w e f g).toNat : Int) + (bs1 e).toNat) % 4294967296 = ((t1 h k w e f g).toNat : Int) := by rw [sum2]; rfl
theorem m_t2 (a b c : UInt32) : (((maj a b c).toNat : Int) + (bs0 a).toNat) % 4294967296 = ((t2 a b c).toNat : Int) := by rw [sum2]; rfl
theorem m_addw (x y : UInt32) : ((x.toNat : Int) + y.toNat) % 4294967296 = ((addw x y).toNat : Int) := by rw [sum2]; rfl
theorem w_bs1 (e : UInt32) : bits .xor .u32 (bits .xor .u32 ((rotr e 6).toNat : Int) ((rotr e 11).toNat : Int)) ((rotr e 25).toNat : Int) = ((bs1 e).toNat : Int) := by rw [w_xor, w_xor]; rfl
theorem w_bs0 (e : UInt32) : bits .xor .u32 (bits .xor .u32 ((rotr e 2).toNat : Int) ((rotr e 13).toNat : Int)) ((rotr e 22).toNat : Int) = ((bs0 e).toNat : Int) := by rw [w_xor, w_xor]; rfl
theorem w_maj (a b c : UInt32) : bits .xor .u32 (bits .xor .u32 (bits .and .u32 (a.toNat : Int) (b.toNat : Int)) (bits .and .u32 (a.toNat : Int) (c.toNat : Int))) (bits .and .u32 (b.toNat : Int) (c.toNat : Int)) = ((maj a b c).toNat : Int) := by
 rw [w_and, w_and, w_and, w_xor, w_xor]; rfl
/-- the state while the sums are stored one by one -/
def mixS (s t : S8) (k : Nat) : List UInt32 := (addS s t).list.take k ++ s.list.drop k
theorem mixS_len (s t : S8) (k : Nat) (h : k ≤ 8) : (mixS s t k).length = 8 := by simp [mixS, S8.list_len]; omega
theorem mixS_get (s t : S8) (k : Nat) (h : k < 8) : (mixS s t k).getD k 0 = s.list.getD k 0 := by
 have : (mixS s t k)[k]? = s.list[k]? := by
  unfold mixS
  rw [List.getElem?_append_right (by simp [S8.list_len]; omega), List.length_take, S8.list_len, show min k 8 = k from by omega, Nat.sub_self, List.getElem?_drop, Nat.add_zero]
 simp [List.getD, this]
theorem mixS_set (s t : S8) (k : Nat) (h : k < 8) : ((mixS s t k).map uv).set k (.int .u32 (addw (s.list.getD k 0) (t.list.getD k 0)).toNat) = (mixS s t (k + 1)).map uv := by
 match k, h with
 | 0, _ => rfl
 | 1, _ => rfl
 | 2, _ => rfl
 | 3, _ => rfl
 | 4, _ => rfl
 | 5, _ => rfl
 | 6, _ => rfl
 | 7, _ => rfl
theorem mixS_all (s t : S8) : mixS s t 8 = (addS s t).list := rfl
/-- the constants of the rounds -/
def KS : List UInt32 := [1116352408, 1899447441, 3049323471, 3921009573, 961987163, 1508970993, 2453635748, 2870763221, 3624381080, 310598401, 607225278, 1426881987, 1925078388, 2162078206, 2614888103, 3248222580, 3835390401, 4022224774, 264347078, 604807628, 770255983, 1249150122, 1555081692, 1996064986, 2554220882, 2821834349, 2952996808, 3210313671, 3336571891, 3584528711, 113926993, 338241895, 666307205, 773529912, 1294757372, 1396182291, 1695183700, 1986661051, 2177026350, 2456956037, 2730485921, 2820302411, 3259730800, 3345764771, 3516065817, 3600352804, 4094571909, 275423344, 430227734, 506948616, 659060556, 883997877, 958139571, 1322822218, 1537002063, 1747873779, 1955562222, 2024104815, 2227730452, 2361852424, 2428436474, 2756734187, 3204031479, 3329325298]
theorem KS_len : KS.length = 64 := by decide
end Go.Adm
set_option linter.unusedSimpArgs false
set_option linter.unusedVariables false
namespace Go.Proofs.Ytfakjamocpamiaa
open Go Go.RowKit Go.Adm

theorem or_comm' (x y : UInt32) : x ||| y = y ||| x := by
 apply UInt32.toNat_inj.1
 rw [UInt32.toNat_or, UInt32.toNat_or, Nat.or_comm]

set_option maxHeartbeats 400000 in
theorem rot_any (x : UInt32) (k : Nat) (h1 : 1 ≤ k) (h2 : k ≤ 31) (w : World) :
  Calls Try.prog 84 #[.int .u32 x.toNat, .int .i64 (-(k : Int))] w fun e w' => e = .returned (.int .u32 (rotr x k).toNat) ∧ w = w' := by
 have hx := x.toNat_lt
 have hq := rot_mask k h1 h2
 have e1 := Lib.hid (w_shl' x (32 - k))
 have e2 := Lib.hid (w_shr x k)
 have e3 := Lib.hid (w_or (shl x (32 - k)) (shr x k))
 go_enter Try.func84, Try.ntmps84
 go_wp2
 go_ret
 exact ⟨ret_int (by
  simp only [show 32 - (32 - k) = k from by omega]
  rw [e1.out, e2.out, e3.out, or_comm']; rfl), rfl⟩
theorem rot_lit (x : UInt32) (n : Int) (k : Nat) (hn : n = -(k : Int)) (h1 : 1 ≤ k) (h2 : k ≤ 31) (w : World) :
  Calls Try.prog 84 #[.int .u32 x.toNat, .int .i64 n] w fun e w' => e = .returned (.int .u32 (rotr x k).toNat) ∧ w = w' := by
 subst hn; exact rot_any x k h1 h2 w
set_option maxHeartbeats 400000 in
theorem rotate_any (x : UInt32) (k : Nat) (h1 : 1 ≤ k) (h2 : k ≤ 31) (w : World) :
  Calls Try.prog 86 #[.int .u32 x.toNat, .int .i64 (k : Int)] w fun e w' => e = .returned (.int .u32 (rotr x k).toNat) ∧ w = w' := by
 have hx := x.toNat_lt
 have e1 := Lib.hid (w_shl' x (32 - k))
 have e2 := Lib.hid (w_shr x k)
 have e3 := Lib.hid (w_or (shr x k) (shl x (32 - k)))
 go_enter Try.func86, Try.ntmps86
 go_wp2
 go_ret
 exact ⟨ret_int (by rw [e1.out, e2.out, e3.out]; rfl), rfl⟩
theorem rotate_lit (x : UInt32) (n : Int) (k : Nat) (hn : n = (k : Int)) (h1 : 1 ≤ k) (h2 : k ≤ 31) (w : World) :
  Calls Try.prog 86 #[.int .u32 x.toNat, .int .i64 n] w fun e w' => e = .returned (.int .u32 (rotr x k).toNat) ∧ w = w' := by
 subst hn; exact rotate_any x k h1 h2 w
end Go.Proofs.Ytfakjamocpamiaa
set_option linter.unusedSimpArgs false
set_option linter.unusedVariables false
namespace Go.Proofs.Ytfakjamocpamiaa
open Go Go.RowKit Go.Adm

/-- an array of 64 numbers, of which the first are known -/
def arr64 (l : List UInt32) : List Value := (l ++ List.replicate (64 - l.length) 0).map uv
theorem arr64_len {l : List UInt32} (h : l.length ≤ 64) : (arr64 l).length = 64 := by simp [arr64]; omega
theorem arr64_nil : arr64 [] = List.replicate 64 (.int .u32 0) := by simp [arr64, uv]
theorem arr64_get {l : List UInt32} {i : Nat} (h : i < l.length) (hi : i < (arr64 l).length) : (arr64 l)[i] = .int .u32 (l.getD i 0).toNat := by
 simp [arr64, List.getElem_append_left h, uv, h]
theorem arr64_set {l : List UInt32} (x : UInt32) (h : l.length < 64) : (arr64 l).set l.length (.int .u32 x.toNat) = arr64 (l ++ [x]) := by
 unfold arr64
 obtain ⟨n, hn⟩ : ∃ n, 64 - l.length = n + 1 := ⟨63 - l.length, by omega⟩
 have h2 : 64 - (l ++ [x]).length = n := by simp; omega
 rw [hn, h2, List.replicate_succ, List.map_append, List.map_cons, List.set_append_right _ _ (by simp)]
 simp [uv]

set_option maxRecDepth 100000 in
set_option maxHeartbeats 2000000 in
theorem schedule_any (w : World) (B : Nat) (A : Option Addr) (c : Nat) (b : List UInt8) (h : Rd w B 1 A 64 (b.map bv)) (hB : B ≤ w.heap.size) :
  Calls Try.prog 83 #[.slice A 64 c] w fun e w' => e = .returned (.agg ((sched b).map uv).toArray) ∧ Below w.heap.size w w' := by
 have hbl : b.length = 64 := by have := h.len; simpa using this
 obtain ⟨ad, rfl, had, hcell⟩ := h.at_ (by decide)
 have HC := Lib.hid hcell
 have HBL := Lib.hid hbl
 clear hcell h hbl
 go_enter Try.func83, Try.ntmps83
 go_wp2
 go_loopw [4, 10] (fun _ i wr => ∃ k : Nat, k ≤ 16 ∧ i = .int .i64 k ∧ Cells wr (w.heap.size + 1) 103 (arr64 ((first16 b).take k)) ∧ Cells wr w.heap.size 103 (arr64 []) ∧ wr.heap.size = w.heap.size + 2 ∧ Below w.heap.size w wr) (fun _ i _ => 16 - (intOf i).toNat)
 case atStart =>
  refine ⟨0, by omega, rfl, ?_, ?_, by simp, (((Below.refl _ _).alloc (Nat.le_refl _) _).alloc (by simp) _)⟩
  ·rw [List.take_zero, arr64_nil]
   refine Cells.new' _ _ _ ?_ ?_
   ·simp
   ·rfl
  ·rw [arr64_nil]
   refine Cells.alloc (cs := List.replicate 64 (.int .u32 0)) ?_ _
   refine Cells.new' _ _ _ ?_ ?_
   ·rfl
   ·rfl
 case round =>
  obtain ⟨k, hk, rfl, hW, hR, hsz, hbel⟩ := hrel
  have HW := Lib.hid hW
  have HR := Lib.hid hR
  have HS := Lib.hid hsz
  clear hW hR hsz
  by_cases hlt : k < 16
  ·have g : ∀ j, j < 4 → wr.cell? (ad.add (4 * k + j)) = some (.int .u8 (b.getD (4 * k + j) 0).toNat) := fun j hj => by
    rw [hbel.cell (p := ad.add (4 * k + j)) (by rw [add_block]; omega)]
    refine HC.out _ _ ?_
    have hl := HBL.out
    rw [List.getElem?_map, List.getElem?_eq_getElem (by omega), List.getD, List.getElem?_eq_getElem (by omega)]
    rfl
   have g0 := g 0 (by omega)
   have g1 := g 1 (by omega)
   have g2 := g 2 (by omega)
   have g3 := g 3 (by omega)
   clear g
   rw [Nat.add_zero] at g0
   have e1 : ad.add (4 * k + 1) = ⟨ad.block, ad.off + (4 * k + 1), none⟩ := by unfold Addr.add; rw [if_neg (by omega)]
   have e2 : ad.add (4 * k + 2) = ⟨ad.block, ad.off + (4 * k + 1 + 1), none⟩ := by unfold Addr.add; rw [if_neg (by omega)]
   have e3 : ad.add (4 * k + 3) = ⟨ad.block, ad.off + (4 * k + 2 + 1), none⟩ := by unfold Addr.add; rw [if_neg (by omega)]
   rw [e1] at g1
   rw [e2] at g2
   rw [e3] at g3
   clear e1 e2 e3
   go_wp2
   have gs := HW.out.cell (i := k) (by rw [arr64_len]; omega; simp [first16_len]; omega)
   have gf := HW.out.frozen k
   have wa0 : IntKind.i64.wrap (4 * (k : Int)) = 4 * (k : Int) := IntWalk.i64_in _ (by omega)
   have wb0 : (0 : Int) ≤ 4 * (k : Int) := by omega
   have wc0 : 4 * (k : Int) < 64 := by omega
   have wd0 : (4 * (k : Int)).toNat = 4 * k := by omega
   have wa1 : IntKind.i64.wrap (4 * (k : Int) + 1) = 4 * (k : Int) + 1 := IntWalk.i64_in _ (by omega)
   have wb1 : (0 : Int) ≤ 4 * (k : Int) + 1 := by omega
   have wc1 : 4 * (k : Int) + 1 < 64 := by omega
   have wd1 : (4 * (k : Int) + 1).toNat = 4 * k + 1 := by omega
   have wa2 : IntKind.i64.wrap (4 * (k : Int) + 2) = 4 * (k : Int) + 2 := IntWalk.i64_in _ (by omega)
   have wb2 : (0 : Int) ≤ 4 * (k : Int) + 2 := by omega
   have wc2 : 4 * (k : Int) + 2 < 64 := by omega
   have wd2 : (4 * (k : Int) + 2).toNat = 4 * k + 2 := by omega
   have wa3 : IntKind.i64.wrap (4 * (k : Int) + 3) = 4 * (k : Int) + 3 := IntWalk.i64_in _ (by omega)
   have wb3 : (0 : Int) ≤ 4 * (k : Int) + 3 := by omega
   have wc3 : 4 * (k : Int) + 3 < 64 := by omega
   have wd3 : (4 * (k : Int) + 3).toNat = 4 * k + 3 := by omega
   have we : (0 : Int) ≤ (k : Int) := by omega
   have wf : (k : Int) < 64 := by omega
   go_region_held3 (fun w' => w'.cell? (ad.add (4 * k)) = some (.int .u8 (b.getD (4 * k) 0).toNat) ∧ w'.cell? ⟨ad.block, ad.off + (4 * k + 1), none⟩ = some (.int .u8 (b.getD (4 * k + 1) 0).toNat) ∧ w'.cell? ⟨ad.block, ad.off + (4 * k + 1 + 1), none⟩ = some (.int .u8 (b.getD (4 * k + 2) 0).toNat) ∧ w'.cell? ⟨ad.block, ad.off + (4 * k + 2 + 1), none⟩ = some (.int .u8 (b.getD (4 * k + 3) 0).toNat)) (first | exact ⟨g0, g1, g2, g3⟩ | exact ⟨cell_apart g0 (by rw [add_block]; simp; omega), cell_apart g1 (by simp; omega), cell_apart g2 (by simp; omega), cell_apart g3 (by simp; omega)⟩) (first | fail)
   clear wa0 wa1 wa2 wa3
   go_wp2
   rw [word_eq']
   have hsz2 : (wr.setCell ⟨w.heap.size + 1, k, none⟩ (.int .u32 (wordAt b k).toNat)).heap.size = w.heap.size + 2 := by rw [size_setCell]; exact HS.out
   have hlk : ((first16 b).take k).length = k := by rw [List.length_take, first16_len]; omega
   refine ⟨⟨k + 1, by omega, by go_num, ?_, ?_, hsz2, (hbel.setCell (by simp) _).drew⟩, by simp [intOf]; omega⟩
   ·have := (HW.out.store k (.int .u32 (wordAt b k).toNat)).drew
    refine this.cast ?_
    rw [first16_succ b k hlt, ← arr64_set _ (by rw [hlk]; omega), hlk]
   ·exact (HR.out.far (by simp) _).drew
  ·have hW := HW.out
   rw [show (first16 b).take k = extN 0 (first16 b) from by rw [List.take_of_length_le (by rw [first16_len]; omega)]; rfl] at hW
   have HW2 := Lib.hid hW
   clear hW HW
   go_wp2
   obtain ⟨wo, rfl⟩ : ∃ wo : World, wo = wr := ⟨_, rfl⟩
   have HBO := Lib.hid hbel
   clear hbel
   go_loopw [5] (fun i wr => ∃ m : Nat, m ≤ 48 ∧ i = .int .i64 ((m : Int) + 16) ∧ Cells wr (w.heap.size + 1) 103 (arr64 (extN m (first16 b))) ∧ Cells wr w.heap.size 103 (arr64 []) ∧ wr.heap.size = w.heap.size + 2 ∧ Below w.heap.size w wr) (fun i _ => 64 - (intOf i).toNat)
   case atStart => exact ⟨0, by omega, rfl, HW2.out, HR.out, HS.out, HBO.out⟩
   case round =>
    obtain ⟨m, hm, rfl, hW, hR, hsz, hbel⟩ := hrel
    have HW := Lib.hid hW
    have HRR := Lib.hid hR
    have HSS := Lib.hid hsz
    clear hW hR hsz HR HS HW2 HBO
    have hWl : (extN m (first16 b)).length = m + 16 := by rw [extN_len, first16_len]; omega
    generalize hWd : extN m (first16 b) = W at *
    have HWD := Lib.hid hWd
    have HWL := Lib.hid hWl
    have gl : ∀ j, j < m + 16 → wr.cell? ⟨w.heap.size + 1, j, none⟩ = some (.int .u32 (W.getD j 0).toNat) := fun j hj => by
     rw [HW.out.cell (i := j) (by rw [arr64_len (by rw [hWl]; omega)]; omega), arr64_get (by rw [hWl]; exact hj)]
    clear hWd hWl
    by_cases hlt : m < 48
    ·have l1 := gl (m + 1) (by omega)
     have l2 := gl (m + 14) (by omega)
     have l3 := gl m (by omega)
     have l4 := gl (m + 9) (by omega)
     clear gl
     have hext : extN (m + 1) (first16 b) = W ++ [add4 (W.getD m 0) (sg0 (W.getD (m + 1) 0)) (W.getD (m + 9) 0) (sg1 (W.getD (m + 14) 0))] := by
      show ext (extN m (first16 b)) = _
      rw [HWD.out]
      unfold ext
      rw [HWL.out, show m + 16 - 16 = m from by omega, show m + 16 - 15 = m + 1 from by omega, show m + 16 - 7 = m + 9 from by omega, show m + 16 - 2 = m + 14 from by omega]
     generalize W.getD (m + 1) 0 = x1 at *
     generalize W.getD (m + 14) 0 = x2 at *
     generalize W.getD m 0 = x3 at *
     generalize W.getD (m + 9) 0 = x4 at *
     have HEXT := Lib.hid hext
     clear hext
     have wa1 : IntKind.i64.wrap ((m : Int) + 16 - 15) = (m : Int) + 1 := by rw [IntWalk.i64_in _ (by omega)]; omega
     have wa2 : IntKind.i64.wrap ((m : Int) + 16 - 2) = (m : Int) + 14 := by rw [IntWalk.i64_in _ (by omega)]; omega
     have wb1 : (0 : Int) ≤ (m : Int) + 1 := by omega
     have wb2 : (0 : Int) ≤ (m : Int) + 14 := by omega
     have wc1 : (m : Int) + 1 < 64 := by omega
     have wc2 : (m : Int) + 14 < 64 := by omega
     have wd1 : ((m : Int) + 1).toNat = m + 1 := by omega
     have wd2 : ((m : Int) + 14).toNat = m + 14 := by omega
     have hq0 := sg0_eq x1
     have hq1 := sg1_eq x2
     go_wp2
     go_quiet (fail)
     clear wa1 wa2
     go_wp2_with fail
     refine (rot_lit x1 (-7) 7 rfl (by decide) (by decide) _).mono ?_
     rintro e w' ⟨rfl, rfl⟩
     go_wp2_with fail
     refine (rot_lit x1 (-18) 18 rfl (by decide) (by decide) _).mono ?_
     rintro e w' ⟨rfl, rfl⟩
     go_wp2_with fail
     refine (rot_lit x2 (-17) 17 rfl (by decide) (by decide) _).mono ?_
     rintro e w' ⟨rfl, rfl⟩
     go_wp2_with fail
     refine (rot_lit x2 (-19) 19 rfl (by decide) (by decide) _).mono ?_
     rintro e w' ⟨rfl, rfl⟩
     go_wp2
     have gs := HW.out.cellD (i := m + 16) (d := undef) (by rw [arr64_len (by rw [HWL.out]; omega)]; omega)
     have gf := HW.out.frozen (m + 16)
     have hq2 := sum3 x3 (sg0 x1) x4
     have wa3 : IntKind.i64.wrap ((m : Int) + 16 - 16) = (m : Int) := by rw [IntWalk.i64_in _ (by omega)]; omega
     have wa4 : IntKind.i64.wrap ((m : Int) + 16 - 7) = (m : Int) + 9 := by rw [IntWalk.i64_in _ (by omega)]; omega
     have wa6 : IntKind.i64.wrap (m : Int) = (m : Int) := IntWalk.i64_in _ (by omega)
     have wb3 : (0 : Int) ≤ (m : Int) := by omega
     have wb4 : (0 : Int) ≤ (m : Int) + 9 := by omega
     have wb5 : (0 : Int) ≤ (m : Int) + 16 := by omega
     have wc3 : (m : Int) < 64 := by omega
     have wc4 : (m : Int) + 9 < 64 := by omega
     have wc5 : (m : Int) + 16 < 64 := by omega
     have wd4 : ((m : Int) + 9).toNat = m + 9 := by omega
     have wd5 : ((m : Int) + 16).toNat = m + 16 := by omega
     go_region_held3 (fun w' => w'.cell? ⟨w.heap.size + 1, m, none⟩ = some (.int .u32 x3.toNat) ∧ w'.cell? ⟨w.heap.size + 1, m + 9, none⟩ = some (.int .u32 x4.toNat)) (first | exact ⟨l3, l4⟩ | exact ⟨cell_off l3 (by omega), cell_off l4 (by omega)⟩) (first | fail)
     clear wa3 wa4 wa6 hq2 hq0 hq1
     rw [w_add4]
     go_wp2
     have hsz2 : ((wr.drewN (nq + 1)).setCell ⟨w.heap.size + 1, m + 16, none⟩ (.int .u32 (add4 x3 (sg0 x1) x4 (sg1 x2)).toNat)).heap.size = w.heap.size + 2 := by rw [size_setCell]; exact HSS.out
     refine ⟨⟨m + 1, by omega, by go_num, ?_, ?_, hsz2, (below_drewN' hbel _).setCell (by simp) _⟩, by simp [intOf]; omega⟩
     ·have := ((HW.out.drewN (nq + 1)).store (m + 16) (.int .u32 (add4 x3 (sg0 x1) x4 (sg1 x2)).toNat))
      refine this.cast ?_
      rw [HEXT.out, ← arr64_set _ (by rw [HWL.out]; omega), HWL.out]
     ·exact (HRR.out.drewN (nq + 1)).far (by simp) _
    ·have hm48 : 48 ≤ m := by omega
     have HS48 : Hid (W = sched b) := Lib.hid (by rw [← HWD.out, show m = 48 from by omega]; rfl)
     have HAL : (arr64 W).length = 64 := arr64_len (by rw [HWL.out]; omega)
     have HA := Lib.hid HAL
     clear HAL gl
     have hth : wr.there w.heap.size 0 (arr64 W).toArray.size := by
      have := HRR.out.there
      rwa [arr64_len (by simp), ← HA.out, ← List.size_toArray] at this
     have hin : (Try.prog.info? 103).map (·.size) = some (arr64 W).toArray.size := by rw [List.size_toArray, HA.out]; kernel_rfl
     have HTH := Lib.hid hth
     have HIN := Lib.hid hin
     have HONE := Lib.hid (all_oneCell_toArray (uv_one (W ++ List.replicate (64 - W.length) 0)))
     clear hth hin
     go_wp2_with (first | (refine wpList_load_mid rfl 103 _ rfl (w.heap.size + 1) 0 rfl (arr64 W) _ HW.out.range Try.underlying103 rfl (by rw [HA.out]; kernel_rfl) ?_) | (refine wpList_store_mid rfl 103 _ _ rfl w.heap.size 0 (arr64 W).toArray rfl rfl HTH.out HIN.out HONE.out ?_))
     have hfin := HRR.out.storeAll (vs := (arr64 W).toArray.toList) (by rw [← List.size_toArray, List.size_toArray]; show (arr64 W).length = _; rw [HA.out, arr64_len (by simp)])
     have hbel2 := below_setCells (vs := (arr64 W).toArray.toList) (o := 0) (Nat.le_refl w.heap.size) hbel
     have hval : (arr64 W).toArray = ((sched b).map uv).toArray := by rw [← HS48.out]; unfold arr64; rw [show 64 - W.length = 0 from by rw [HWL.out]; omega]; simp
     refine bodyPost_ret (v := .agg ((sched b).map uv).toArray) ?_ rfl ⟨rfl, hbel2⟩
     rw [← hval]
     exact results_cell_row rfl _ _ w.heap.size 103 (arr64 W).toArray (0, 0) _ rfl hfin Try.underlying103 rfl (HIN.out)
end Go.Proofs.Ytfakjamocpamiaa
set_option linter.unusedSimpArgs false
set_option linter.unusedVariables false
namespace Go.Proofs.Ytfakjamocpamiaa
open Go Go.RowKit Go.Adm

theorem idx8 (t : S8) (k : Nat) (hk : k < 8) (W : World) : (Instr.index 102 (.agg #[.int .u32 t.a.toNat, .int .u32 t.b.toNat, .int .u32 t.c.toNat, .int .u32 t.d.toNat, .int .u32 t.e.toNat, .int .u32 t.f.toNat, .int .u32 t.g.toNat, .int .u32 t.h.toNat]) (.int .i64 (k : Int))).run Try.prog W = .ok (.int .u32 (t.list.getD k 0).toNat) W := by
 obtain rfl | rfl | rfl | rfl | rfl | rfl | rfl | rfl : k = 0 ∨ k = 1 ∨ k = 2 ∨ k = 3 ∨ k = 4 ∨ k = 5 ∨ k = 6 ∨ k = 7 := by omega
 all_goals kernel_rfl

set_option maxRecDepth 100000 in
set_option maxHeartbeats 1600000 in
theorem absorb_any (w : World) (B gs gk : Nat) (A : Option Addr) (c : Nat) (b : List UInt8) (s : S8) (K : List UInt32) (ts tk : TypeId) (hs : Cells w gs ts (s.list.map uv)) (hk : Cells w gk tk (K.map uv)) (hK : K.length = 64) (hne : gs ≠ gk)
  (h : Rd w B 1 A 64 (b.map bv)) (hB : B ≤ w.heap.size) :
  Calls Try.prog 63 #[.pointer (some ⟨gs, 0, none⟩), .pointer (some ⟨gk, 0, none⟩), .slice A 64 c] w fun e w' => e = .returned (.tuple #[]) ∧ Cells w' gs ts ((absorbS K s b).list.map uv) ∧ w.grownBy w' (some gs) := by
 have HS := Lib.hid hs
 have HK := Lib.hid hk
 have hgs := hs.lt
 have hgk := hk.lt
 have HKL := Lib.hid hK
 have q0 : w.cell? ⟨gs, 0, none⟩ = some (.int .u32 s.a.toNat) := hs.cell (i := 0) (Nat.lt_of_sub_eq_succ rfl)
 have q1 : w.cell? ⟨gs, 1, none⟩ = some (.int .u32 s.b.toNat) := hs.cell (i := 1) (Nat.lt_of_sub_eq_succ rfl)
 have q2 : w.cell? ⟨gs, 2, none⟩ = some (.int .u32 s.c.toNat) := hs.cell (i := 2) (Nat.lt_of_sub_eq_succ rfl)
 have q3 : w.cell? ⟨gs, 3, none⟩ = some (.int .u32 s.d.toNat) := hs.cell (i := 3) (Nat.lt_of_sub_eq_succ rfl)
 have q4 : w.cell? ⟨gs, 4, none⟩ = some (.int .u32 s.e.toNat) := hs.cell (i := 4) (Nat.lt_of_sub_eq_succ rfl)
 have q5 : w.cell? ⟨gs, 5, none⟩ = some (.int .u32 s.f.toNat) := hs.cell (i := 5) (Nat.lt_of_sub_eq_succ rfl)
 have q6 : w.cell? ⟨gs, 6, none⟩ = some (.int .u32 s.g.toNat) := hs.cell (i := 6) (Nat.lt_of_sub_eq_succ rfl)
 have q7 : w.cell? ⟨gs, 7, none⟩ = some (.int .u32 s.h.toNat) := hs.cell (i := 7) (Nat.lt_of_sub_eq_succ rfl)
 clear hs hk hK
 go_enter Try.func63, Try.ntmps63
 go_wp2_with fail
 refine (schedule_any w B A c b h hB).mono ?_
 rintro e w1 ⟨rfl, hb1⟩
 have hsl : ((sched b).map uv).length = 64 := by simp [sched_len]
 have hinf : (Try.prog.info? 103).map (·.size) = some ((sched b).map uv).length := by rw [hsl]; kernel_rfl
 have HSL := Lib.hid hsl
 have HINF := Lib.hid hinf
 clear hsl hinf
 have HC1 := Lib.hid (HS.out.below hb1 hgs)
 have HC2 := Lib.hid (HK.out.below hb1 hgk)
 have hsz1 := hb1.size
 have hg1 : w.grownBy w1 (some gs) := ⟨hb1.os, hb1.tape, hb1.output, hb1.size, fun k hk _ => hb1.block k hk⟩
 have HG1 := Lib.hid hg1
 clear q0 q1 q2 q3 q4 q5 q6 q7 hb1 hg1
 go_wp2_with (refine wl_store_all rfl 103 _ _ rfl w1.heap.size _ _ ((sched b).map uv) rfl rfl (Cells.new _ _ _) HSL.out HINF.out (uv_one _) ?_; intro w2 hc2 hg2 hs2)
 have hb2 : Below w1.heap.size w1 w2 := ((Below.refl _ _).alloc (Nat.le_refl _) _).grown hg2 (by simp) (fun k hk => by injection hk with hk; omega)
 have hs3 : w2.heap.size = w1.heap.size + 1 := by simpa using hs2
 clear hg2 hs2
 have D1 := HC1.out.below hb2 (by omega)
 have D2 := HC2.out.below hb2 (by omega)
 have hg3 : w.grownBy w2 (some gs) := by
  have h1 := HG1.out
  exact ⟨hb2.os.trans h1.os, hb2.tape.trans h1.tape, hb2.output.trans h1.output, Nat.le_trans h1.size hb2.size, fun k hk hn => (hb2.block k (by omega)).trans (h1.block k hk hn)⟩
 have HG3 := Lib.hid hg3
 have q0 : w2.cell? ⟨gs, 0, none⟩ = some (.int .u32 s.a.toNat) := D1.cell (i := 0) (Nat.lt_of_sub_eq_succ rfl)
 have q1 : w2.cell? ⟨gs, 1, none⟩ = some (.int .u32 s.b.toNat) := D1.cell (i := 1) (Nat.lt_of_sub_eq_succ rfl)
 have q2 : w2.cell? ⟨gs, 2, none⟩ = some (.int .u32 s.c.toNat) := D1.cell (i := 2) (Nat.lt_of_sub_eq_succ rfl)
 have q3 : w2.cell? ⟨gs, 3, none⟩ = some (.int .u32 s.d.toNat) := D1.cell (i := 3) (Nat.lt_of_sub_eq_succ rfl)
 have q4 : w2.cell? ⟨gs, 4, none⟩ = some (.int .u32 s.e.toNat) := D1.cell (i := 4) (Nat.lt_of_sub_eq_succ rfl)
 have q5 : w2.cell? ⟨gs, 5, none⟩ = some (.int .u32 s.f.toNat) := D1.cell (i := 5) (Nat.lt_of_sub_eq_succ rfl)
 have q6 : w2.cell? ⟨gs, 6, none⟩ = some (.int .u32 s.g.toNat) := D1.cell (i := 6) (Nat.lt_of_sub_eq_succ rfl)
 have q7 : w2.cell? ⟨gs, 7, none⟩ = some (.int .u32 s.h.toNat) := D1.cell (i := 7) (Nat.lt_of_sub_eq_succ rfl)
 have HD1 := Lib.hid D1
 have HD2 := Lib.hid D2
 have HD3 := Lib.hid hc2
 have HS3 := Lib.hid hs3
 clear D1 D2 hc2 hs3 hb2 hg3 HC1 HC2 HG1
 go_wp2
 go_quiet (fail)
 go_wp2
 go_quiet (fail)
 go_wp2
 clear q0 q1 q2 q3 q4 q5 q6 q7
 go_loopw [7, 8, 9, 10, 11, 12, 13, 14, 54] (fun va vb vc vd ve vf vg vh i wr => ∃ (n q : Nat) (t : S8), n ≤ 64 ∧ i = .int .i64 n ∧ Hid (t = roundN K (sched b) s n) ∧ va = .int .u32 t.a.toNat ∧ vb = .int .u32 t.b.toNat ∧ vc = .int .u32 t.c.toNat ∧ vd = .int .u32 t.d.toNat ∧ ve = .int .u32 t.e.toNat ∧ vf = .int .u32 t.f.toNat ∧ vg = .int .u32 t.g.toNat ∧ vh = .int .u32 t.h.toNat ∧ wr = w2.drewN q) (fun _ _ _ _ _ _ _ _ i _ => 64 - (intOf i).toNat)
 case atStart => exact ⟨0, _, s, by omega, rfl, Lib.hid rfl, rfl, rfl, rfl, rfl, rfl, rfl, rfl, rfl, by rw [World.drewN_drewN]⟩
 case round =>
  obtain ⟨n, q, t, hn, rfl, ht, rfl, rfl, rfl, rfl, rfl, rfl, rfl, rfl, rfl⟩ := hrel
  have HT : Hid (t = roundN K (sched b) s n) := ht
  clear ht
  by_cases hlt : n < 64
  ·have lk : (w2.drewN q).cell? ⟨gk, n, none⟩ = some (.int .u32 (K.getD n 0).toNat) := by
    rw [World.cell?_drewN, HD2.out.cell (i := n) (by rw [List.length_map, HKL.out]; exact hlt)]
    simp [uv, List.getD, HKL.out, hlt]
   have lw : (w2.drewN q).cell? ⟨w1.heap.size, n, none⟩ = some (.int .u32 ((sched b).getD n 0).toNat) := by
    rw [World.cell?_drewN, HD3.out.cell (i := n) (by rw [List.length_map, sched_len]; exact hlt)]
    simp [uv, List.getD, sched_len, hlt]
   have hstep : roundN K (sched b) s (n + 1) = round1 t (K.getD n 0) ((sched b).getD n 0) := by rw [HT.out]; rfl
   have HSTEP := Lib.hid hstep
   clear hstep
   generalize K.getD n 0 = xk at *
   generalize (sched b).getD n 0 = xw at *
   rw [World.cell?_drewN] at lk lw
   have hb1 : (0 : Int) ≤ (n : Int) := by omega
   have hb2 : (n : Int) < 64 := by omega
   have hmx := u32_ones
   go_wp2
   go_quiet (fail)
   clear hmx
   rw [w_t1a' t.h xk xw t.e t.f t.g]
   have r1 := w_bs1 t.e
   have r2 := m_t1 t.h xk xw t.e t.f t.g
   have r3 := w_maj t.a t.b t.c
   have r4 := w_bs0 t.a
   have r5 := m_t2 t.a t.b t.c
   have r6 := m_addw t.d (t1 t.h xk xw t.e t.f t.g)
   have r7 := m_addw (t1 t.h xk xw t.e t.f t.g) (t2 t.a t.b t.c)
   go_wp2_with fail
   refine (rot_lit t.e (-6) 6 rfl (by decide) (by decide) _).mono ?_
   rintro e w' ⟨rfl, rfl⟩
   go_wp2_with fail
   refine (rot_lit t.e (-11) 11 rfl (by decide) (by decide) _).mono ?_
   rintro e w' ⟨rfl, rfl⟩
   go_wp2_with fail
   refine (rot_lit t.e (-25) 25 rfl (by decide) (by decide) _).mono ?_
   rintro e w' ⟨rfl, rfl⟩
   go_wp2_with fail
   refine (rot_lit t.a (-2) 2 rfl (by decide) (by decide) _).mono ?_
   rintro e w' ⟨rfl, rfl⟩
   go_wp2_with fail
   refine (rot_lit t.a (-13) 13 rfl (by decide) (by decide) _).mono ?_
   rintro e w' ⟨rfl, rfl⟩
   go_wp2_with fail
   refine (rot_lit t.a (-22) 22 rfl (by decide) (by decide) _).mono ?_
   rintro e w' ⟨rfl, rfl⟩
   go_wp2
   refine ⟨⟨n + 1, _, round1 t xk xw, by omega, by go_num, Lib.hid HSTEP.out.symm, rfl, rfl, rfl, rfl, rfl, rfl, rfl, rfl, rfl⟩, by simp [intOf]; omega⟩
  ·have hn64 : n = 64 := by omega
   have HT64 : Hid (absorbS K s b = addS s t) := Lib.hid (absorbS_of HT.out hn64)
   have hd : decide ((n : Int) < 64) = false := by simp; omega
   clear hn64 hlt hn
   go_wp2
   have HB := HG3.out
   have h0 : Cells (w2.drewN q) gs ts ((mixS s t 0).map uv) := HD1.out.drewN q
   have h1 : w.grownBy (w2.drewN q) (some gs) := ⟨HB.os, HB.tape, HB.output, HB.size, HB.block⟩
   generalize w2.drewN q = w3 at *
   have H0 := Lib.hid h0
   have H1 := Lib.hid h1
   clear h0 h1
   have hidx := fun (k : Nat) (W : World) (hk : k < 8) => idx8 t k hk W
   have HIDX := Lib.hid hidx
   clear hidx
   go_loopw [130] (fun i wr => ∃ k : Nat, k ≤ 8 ∧ i = .int .i64 k ∧ Cells wr gs ts ((mixS s t k).map uv) ∧ w.grownBy wr (some gs)) (fun i _ => 8 - (intOf i).toNat)
   case atStart => exact ⟨0, by omega, rfl, H0.out, H1.out⟩
   case round =>
    obtain ⟨k, hk, rfl, hC, hG⟩ := hrel
    have HC := Lib.hid hC
    have HG := Lib.hid hG
    clear hC hG
    by_cases hk8 : k < 8
    ·have hix := fun W => HIDX.out k W hk8
     have l1 : wr.cell? ⟨gs, k, none⟩ = some (.int .u32 (s.list.getD k 0).toNat) := by
      rw [HC.out.cell (i := k) (by rw [List.length_map, mixS_len _ _ _ hk]; exact hk8), ← mixS_get s t k hk8]
      simp [uv, List.getD, mixS_len _ _ _ hk, hk8]
     have lf := HC.out.frozen k
     have HSET := Lib.hid (mixS_set s t k hk8)
     generalize s.list.getD k 0 = x at *
     generalize t.list.getD k 0 = y at *
     have wb1 : (0 : Int) ≤ (k : Int) := by omega
     have wb2 : (k : Int) < 8 := by omega
     go_wp2
     clear hix
     go_region
     all_goals
      rw [m_addw]
      go_wp2
      refine ⟨⟨k + 1, by omega, by go_num, ((HC.out.store k (.int .u32 (addw x y).toNat)).drew).cast HSET.out, HG.out.trans ⟨rfl, rfl, rfl, Nat.le_of_eq (size_setCell wr ⟨gs, k, none⟩ _).symm, fun j hj hn => Below.heap_setCell wr ⟨gs, k, none⟩ _ j (fun e => hn (by rw [e]))⟩⟩, by simp [intOf]; omega⟩
    ·have hd : decide ((k : Int) < 8) = false := by simp; omega
     have hk88 : k = 8 := by omega
     have hfin := HC.out
     rw [hk88, mixS_all, ← HT64.out] at hfin
     have HF := Lib.hid hfin
     clear hfin hk88 hk8 hk
     go_wp2
     go_end0
     exact ⟨rfl, HF.out, HG.out⟩
end Go.Proofs.Ytfakjamocpamiaa
set_option linter.unusedSimpArgs false
set_option linter.unusedVariables false
namespace Go.Proofs.Ytfakjamocpamiaa
open Go Go.RowKit Go.Adm

theorem KS_vals : (KS.map uv).toArray = #[.int .u32 1116352408, .int .u32 1899447441, .int .u32 3049323471, .int .u32 3921009573, .int .u32 961987163, .int .u32 1508970993, .int .u32 2453635748, .int .u32 2870763221, .int .u32 3624381080, .int .u32 310598401, .int .u32 607225278, .int .u32 1426881987, .int .u32 1925078388, .int .u32 2162078206, .int .u32 2614888103, .int .u32 3248222580, .int .u32 3835390401, .int .u32 4022224774, .int .u32 264347078, .int .u32 604807628, .int .u32 770255983, .int .u32 1249150122, .int .u32 1555081692, .int .u32 1996064986, .int .u32 2554220882, .int .u32 2821834349, .int .u32 2952996808, .int .u32 3210313671, .int .u32 3336571891, .int .u32 3584528711, .int .u32 113926993, .int .u32 338241895, .int .u32 666307205, .int .u32 773529912, .int .u32 1294757372, .int .u32 1396182291, .int .u32 1695183700, .int .u32 1986661051, .int .u32 2177026350, .int .u32 2456956037, .int .u32 2730485921, .int .u32 2820302411, .int .u32 3259730800, .int .u32 3345764771, .int .u32 3516065817, .int .u32 3600352804, .int .u32 4094571909, .int .u32 275423344, .int .u32 430227734, .int .u32 506948616, .int .u32 659060556, .int .u32 883997877, .int .u32 958139571, .int .u32 1322822218, .int .u32 1537002063, .int .u32 1747873779, .int .u32 1955562222, .int .u32 2024104815, .int .u32 2227730452, .int .u32 2361852424, .int .u32 2428436474, .int .u32 2756734187, .int .u32 3204031479, .int .u32 3329325298] := by rfl

set_option maxRecDepth 100000 in
set_option maxHeartbeats 1600000 in
theorem rounds_any (w : World) : Calls Try.prog 62 #[] w fun e w' => e = .returned (.agg (KS.map uv).toArray) ∧ Below w.heap.size w w' := by
 have hinf : (Try.prog.info? 103).map (·.size) = some (KS.map uv).length := by rw [List.length_map, KS_len]; kernel_rfl
 have HINF := Lib.hid hinf
 clear hinf
 go_enter Try.func62, Try.ntmps62
 go_wp2_with (refine wl_store_all rfl 103 _ _ rfl w.heap.size _ _ (KS.map uv) rfl (congrArg Value.agg KS_vals.symm) (Cells.new _ _ _) rfl HINF.out (uv_one _) ?_; intro w2 hc2 hg2 hs2)
 have hb2 : Below w.heap.size w w2 := ((Below.refl _ _).alloc (Nat.le_refl _) _).grown hg2 (by simp) (fun k hk => by injection hk with hk; omega)
 refine bodyPost_ret (v := .agg (KS.map uv).toArray) ?_ rfl ⟨rfl, hb2⟩
 exact results_cell_row rfl _ _ w.heap.size 103 (KS.map uv).toArray (0, 0) _ rfl hc2 Try.underlying103 rfl (by rw [List.size_toArray]; exact HINF.out)

set_option maxRecDepth 100000 in
set_option maxHeartbeats 1600000 in
theorem constants_any (w : World) : Calls Try.prog 87 #[] w fun e w' => e = .returned (.agg (KS.map uv).toArray) ∧ Below w.heap.size w w' := by
 have hinf : (Try.prog.info? 103).map (·.size) = some (KS.map uv).length := by rw [List.length_map, KS_len]; kernel_rfl
 have HINF := Lib.hid hinf
 clear hinf
 go_enter Try.func87, Try.ntmps87
 go_wp2_with (refine wl_store_all rfl 103 _ _ rfl w.heap.size _ _ (KS.map uv) rfl (congrArg Value.agg KS_vals.symm) (Cells.new _ _ _) rfl HINF.out (uv_one _) ?_; intro w2 hc2 hg2 hs2)
 have hb2 : Below w.heap.size w w2 := ((Below.refl _ _).alloc (Nat.le_refl _) _).grown hg2 (by simp) (fun k hk => by injection hk with hk; omega)
 refine bodyPost_ret (v := .agg (KS.map uv).toArray) ?_ rfl ⟨rfl, hb2⟩
 exact results_cell_row rfl _ _ w.heap.size 103 (KS.map uv).toArray (0, 0) _ rfl hc2 Try.underlying103 rfl (by rw [List.size_toArray]; exact HINF.out)
end Go.Proofs.Ytfakjamocpamiaa
set_option linter.unusedSimpArgs false
set_option linter.unusedVariables false
namespace Go.Adm
open Go Go.RowKit

def initS : S8 := ⟨1779033703, 3144134277, 1013904242, 2773480762, 1359893119, 2600822924, 528734635, 1541459225⟩
def blk (l : List UInt8) (n : Nat) : List UInt8 := (l.drop (64 * n)).take 64
def absN (s : S8) (l : List UInt8) : Nat → S8
 | 0 => s
 | n + 1 => absorbS KS (absN s l n) (blk l n)
/-- eight bytes of a number, the most significant one first, as far as i of them are known from the end -/
def lenByte (n i : Nat) : UInt8 := UInt8.ofNat (n * 8 / 2 ^ (8 * i))
def lenBytes (n : Nat) : List UInt8 := [lenByte n 7, lenByte n 6, lenByte n 5, lenByte n 4, lenByte n 3, lenByte n 2, lenByte n 1, lenByte n 0]
def tailEnd (r : Nat) : Nat := if 56 ≤ r then 128 else 64
def tailS (b : List UInt8) : List UInt8 :=
 b.drop (64 * (b.length / 64)) ++ 128 :: (List.replicate (tailEnd (b.length % 64) - 9 - b.length % 64) 0 ++ lenBytes b.length)
def stateS (b : List UInt8) : S8 := absN (absN initS b (b.length / 64)) (tailS b) (tailEnd (b.length % 64) / 64)
def digByte (s : S8) (i : Nat) : UInt8 := UInt8.ofNat ((s.list.getD (i / 4) 0).toNat / 2 ^ (24 - 8 * (i % 4)))
def digS (s : S8) : List UInt8 := (List.range 32).map (digByte s)
def shaS (b : List UInt8) : List UInt8 := digS (stateS b)
theorem digS_len (s : S8) : (digS s).length = 32 := by simp [digS]
theorem shaS_len (b : List UInt8) : (shaS b).length = 32 := digS_len _
theorem lenBytes_len (n : Nat) : (lenBytes n).length = 8 := rfl
theorem tailS_len (b : List UInt8) : (tailS b).length = tailEnd (b.length % 64) := by
 have h1 : b.length % 64 < 64 := Nat.mod_lt _ (by decide)
 have h2 : b.length - 64 * (b.length / 64) = b.length % 64 := by omega
 simp only [tailS, List.length_append, List.length_drop, List.length_cons, List.length_replicate, lenBytes_len, h2]
 unfold tailEnd
 split <;> omega
/-- the tail's 128 bytes when i bytes of the length are written -/
def tailT (r : List UInt8) (E n i : Nat) : List UInt8 := r ++ 128 :: (List.replicate (E - 1 - r.length - i) 0 ++ ((lenBytes n).drop (8 - i) ++ List.replicate (128 - E) 0))
theorem set_mid {α : Type} (r X : List α) (a z v : α) (k : Nat) : (r ++ a :: (List.replicate (k + 1) z ++ X)).set (r.length + 1 + k) v = r ++ a :: (List.replicate k z ++ v :: X) := by
 rw [List.set_append_right _ _ (by omega), show r.length + 1 + k - r.length = k + 1 from by omega, List.set_cons_succ]
 congr 2
 rw [List.replicate_succ', List.append_assoc, List.set_append_right _ _ (by simp)]
 simp
theorem lenBytes_drop (n i : Nat) (h : i < 8) : (lenBytes n).drop (8 - (i + 1)) = lenByte n i :: (lenBytes n).drop (8 - i) := by
 match i, h with
 | 0, _ => rfl
 | 1, _ => rfl
 | 2, _ => rfl
 | 3, _ => rfl
 | 4, _ => rfl
 | 5, _ => rfl
 | 6, _ => rfl
 | 7, _ => rfl
theorem tailT_set (r : List UInt8) (E n i : Nat) (h : i < 8) (hE : r.length + 9 ≤ E) : (tailT r E n i).set (E - 1 - i) (lenByte n i) = tailT r E n (i + 1) := by
 unfold tailT
 obtain ⟨k, hk⟩ : ∃ k, E - 1 - r.length - i = k + 1 := ⟨E - 1 - r.length - i - 1, by omega⟩
 rw [hk, show E - 1 - i = r.length + 1 + k from by omega, set_mid, lenBytes_drop n i h, show E - 1 - r.length - (i + 1) = k from by omega]
 rfl
theorem tailT_len (r : List UInt8) (E n i : Nat) (h : i ≤ 8) (hE : r.length + 9 ≤ E) (hE2 : E ≤ 128) : (tailT r E n i).length = 128 := by
 simp [tailT, lenBytes_len]; omega
theorem tailT_start (r : List UInt8) (E n : Nat) (h1 : r.length + 9 ≤ E) (h2 : E ≤ 128) :
  ((((List.replicate 128 (Value.int .u8 0)).take 0) ++ (r.map bv ++ (List.replicate 128 (Value.int .u8 0)).drop (0 + r.length))).set r.length (Value.int .u8 128)) = (tailT r E n 0).map bv := by
 have e0 : bv 0 = .int .u8 0 := rfl
 have e1 : bv 128 = .int .u8 128 := rfl
 unfold tailT
 rw [List.take_zero, List.nil_append, Nat.zero_add, List.set_append_right _ _ (by simp), List.length_map, Nat.sub_self, List.drop_replicate, show 128 - r.length = (E - 1 - r.length - 0) + (128 - E) + 1 from by omega, List.replicate_succ, List.set_cons_zero, List.replicate_append_replicate.symm]
 simp [lenBytes, e0, e1]
theorem lenByte_eq (n i : Nat) : IntKind.u8.wrap ((n : Int) * 8 / 2 ^ (8 * i)) = ((lenByte n i).toNat : Int) := by
 unfold lenByte
 rw [IntKind.wrap_u8', UInt8.toNat_ofNat']
 have : ((n : Int) * 8 / 2 ^ (8 * i)) = ((n * 8 / 2 ^ (8 * i) : Nat) : Int) := by simp
 rw [this]
 omega
theorem lenByte_mod (n i : Nat) : (n : Int) * 8 / 2 ^ (8 * i) % 256 = ((lenByte n i).toNat : Int) := by rw [← lenByte_eq, IntKind.wrap_u8']
theorem tail_step {w : World} {g : Nat} {t : TypeId} {r : List UInt8} {E n k j : Nat} (h : Cells w g t ((tailT r E n k).map bv)) (hk : k < 8) (hE : r.length + 9 ≤ E) (hj : j = E - 1 - k) :
  Cells (w.setCell ⟨g, j, none⟩ (.int .u8 ((n : Int) * 8 / 2 ^ (8 * k) % 256))) g t ((tailT r E n (k + 1)).map bv) := by
 subst hj
 rw [lenByte_mod, ← tailT_set r E n k hk hE, List.map_set]
 exact h.store _ _
theorem tailT_all (b : List UInt8) (n : Nat) (hn : b.length = n) : tailT (b.drop (64 * (n / 64))) (tailEnd (n % 64)) n 8 = tailS b ++ List.replicate (128 - tailEnd (n % 64)) 0 := by
 subst hn
 have h1 : b.length % 64 < 64 := Nat.mod_lt _ (by decide)
 have h2 : (b.drop (64 * (b.length / 64))).length = b.length % 64 := by rw [List.length_drop]; omega
 unfold tailT tailS
 rw [h2, Nat.sub_self, List.drop_zero, show tailEnd (b.length % 64) - 1 - b.length % 64 - 8 = tailEnd (b.length % 64) - 9 - b.length % 64 from by omega]
 simp
theorem blk_append (l x : List UInt8) (j : Nat) (h : 64 * j + 64 ≤ l.length) : blk (l ++ x) j = blk l j := by
 unfold blk
 rw [List.drop_append_of_le_length (by omega), List.take_append_of_le_length (by rw [List.length_drop]; omega)]
theorem absN_append (s : S8) (l x : List UInt8) : ∀ j, 64 * j ≤ l.length → absN s (l ++ x) j = absN s l j
 | 0, _ => rfl
 | j + 1, h => by rw [absN, absN, absN_append s l x j (by omega), blk_append l x j (by omega)]
theorem stateS_of (b : List UInt8) (n m : Nat) (hn : b.length = n) (hm : m = n / 64) :
  absN (absN initS b m) (tailT (b.drop (64 * m)) (tailEnd (n % 64)) n 8) (tailEnd (n % 64) / 64) = stateS b := by
 subst hm
 rw [tailT_all b n hn, absN_append, stateS, hn]
 rw [tailS_len, hn]
 exact Nat.mul_div_le _ _
/-- the digest when k of its bytes are written -/
def digT (s : S8) (k : Nat) : List UInt8 := (digS s).take k ++ List.replicate (32 - k) 0
theorem digT_len (s : S8) (k : Nat) (h : k ≤ 32) : (digT s k).length = 32 := by simp [digT, digS_len]; omega
theorem digT_zero (s : S8) : (digT s 0).map bv = List.replicate 32 (.int .u8 0) := by rfl
theorem digT_all (s : S8) : digT s 32 = digS s := by simp [digT]; rw [List.take_of_length_le]; rw [digS_len]; omega
theorem digT_set (s : S8) (k : Nat) (h : k < 32) : (digT s k).set k (digByte s k) = digT s (k + 1) := by
 unfold digT
 rw [List.set_append_right _ _ (by simp [digS_len]; omega), List.length_take, digS_len, show min k 32 = k from by omega, Nat.sub_self, show 32 - k = (32 - (k + 1)) + 1 from by omega, List.replicate_succ, List.set_cons_zero, List.take_succ_eq_append_getElem (by rw [digS_len]; omega)]
 simp [digS]
theorem dig_step {w : World} {g : Nat} {t : TypeId} {s : S8} {k : Nat} {x : UInt32} (hx : s.list.getD (k / 4) 0 = x) (h : Cells w g t ((digT s k).map bv)) (hk : k < 32) :
  Cells (w.setCell ⟨g, k, none⟩ (.int .u8 ((x.toNat : Int) / 2 ^ (24 - 8 * (k % 4)) % 256))) g t ((digT s (k + 1)).map bv) := by
 have e : (x.toNat : Int) / 2 ^ (24 - 8 * (k % 4)) % 256 = ((digByte s k).toNat : Int) := by
  unfold digByte
  rw [hx, UInt8.toNat_ofNat']
  simp
 rw [e, ← digT_set s k hk, List.map_set]
 exact h.store _ _
theorem getD_uv (l : List UInt32) (i : Nat) : (l.map uv).getD i (uv 0) = uv (l.getD i 0) := by
 simp only [List.getD, List.getElem?_map]
 cases l[i]? <;> rfl
end Go.Adm
namespace Go.Adm
open Go Go.RowKit

def zpad (n : Nat) : Nat := (119 - n % 64) % 64
def padS (b : List UInt8) : List UInt8 := b ++ 128 :: (List.replicate (zpad b.length) 0 ++ lenBytes b.length)
theorem zpad_eq (n : Nat) : zpad n = tailEnd (n % 64) - 9 - n % 64 := by
 have h1 : n % 64 < 64 := Nat.mod_lt _ (by decide)
 unfold zpad tailEnd
 split <;> omega
theorem padS_eq (b : List UInt8) : padS b = b.take (64 * (b.length / 64)) ++ tailS b := by
 unfold padS tailS
 rw [← List.append_assoc, List.take_append_drop, zpad_eq]
theorem blk_append_right (x y : List UInt8) (p q : Nat) (h : x.length = 64 * p) : blk (x ++ y) (p + q) = blk y q := by
 unfold blk
 rw [List.drop_append, List.drop_of_length_le (by omega), List.nil_append, show 64 * (p + q) - x.length = 64 * q from by omega]
theorem absN_append_right (s : S8) (x y : List UInt8) (p : Nat) (h : x.length = 64 * p) : ∀ q, absN s (x ++ y) (p + q) = absN (absN s x p) y q
 | 0 => by rw [Nat.add_zero, absN_append s x y p (by omega)]; rfl
 | q + 1 => by rw [← Nat.add_assoc, absN, absN, absN_append_right s x y p h q, blk_append_right x y p q h]
theorem padS_len (b : List UInt8) : (padS b).length = 64 * (b.length / 64 + tailEnd (b.length % 64) / 64) := by
 rw [padS_eq, List.length_append, tailS_len, List.length_take]
 unfold tailEnd
 split <;> omega
theorem stateS_pad (b : List UInt8) : absN initS (padS b) (b.length / 64 + tailEnd (b.length % 64) / 64) = stateS b := by
 have h : (b.take (64 * (b.length / 64))).length = 64 * (b.length / 64) := by rw [List.length_take]; omega
 have h2 : absN initS b (b.length / 64) = absN initS (b.take (64 * (b.length / 64))) (b.length / 64) := by
  have h3 := absN_append initS (b.take (64 * (b.length / 64))) (b.drop (64 * (b.length / 64))) (b.length / 64) (by omega)
  rw [List.take_append_drop] at h3
  exact h3
 rw [padS_eq, absN_append_right _ _ _ _ h, stateS, h2]
theorem pad_zero (b : List UInt8) (z : Nat) : (b ++ 128 :: List.replicate z 0) ++ [0] = b ++ 128 :: List.replicate (z + 1) 0 := by
 rw [List.replicate_succ']; simp
theorem pad_len (b : List UInt8) (z j n : Nat) (hj : j < 8) : (b ++ 128 :: (List.replicate z 0 ++ (lenBytes n).take j)) ++ [lenByte n (7 - j)] = b ++ 128 :: (List.replicate z 0 ++ (lenBytes n).take (j + 1)) := by
 have : (lenBytes n).take (j + 1) = (lenBytes n).take j ++ [lenByte n (7 - j)] := by
  match j, hj with
  | 0, _ => rfl
  | 1, _ => rfl
  | 2, _ => rfl
  | 3, _ => rfl
  | 4, _ => rfl
  | 5, _ => rfl
  | 6, _ => rfl
  | 7, _ => rfl
 rw [this]; simp
end Go.Adm
set_option linter.unusedSimpArgs false
set_option linter.unusedVariables false
namespace Go.Proofs.Ytfakjamocpamiaa
open Go Go.RowKit Go.Adm

attribute [local irreducible] KS

theorem init_vals : #[Value.int .u32 1779033703, .int .u32 3144134277, .int .u32 1013904242, .int .u32 2773480762, .int .u32 1359893119, .int .u32 2600822924, .int .u32 528734635, .int .u32 1541459225] = (initS.list.map uv).toArray := by rfl

def Z128 : Array Value := (List.replicate 128 (.int .u8 0)).toArray
theorem zero128 (W : World) : (zeroValue 109).run Try.prog W = .ok (.agg Z128) W := by kernel_rfl

theorem slice128 (g a : Nat) (h : a + 64 ≤ 128) (W : World) :
  (Instr.sliceAt 109 (.pointer (some ⟨g, 0, none⟩)) (some (.int .i64 a)) (some (.int .i64 (a + 64))) none).run Try.prog W = .ok (.slice (some ⟨g, a, none⟩) 64 (128 - a)) W := by
 have e1 : Try.prog.arrayLen 109 = 128 := by kernel_rfl
 have e2 : (sizeOf (Try.prog.elem 109)).run Try.prog W = .ok 1 W := by kernel_rfl
 rw [run_sliceAt_array_lh (P := Try.prog) W 109 _ (by kernel_rfl) .i64 .i64 a (a + 64) (by omega) (by omega) (by rw [e1]; omega), e2, e1]
 have e3 : ((a : Int) + 64).toNat = a + 64 := by omega
 simp only [Result.andThen, slicedAt, e3, Int.toNat_natCast, Nat.mul_one]
 rw [if_neg (by omega), add_lit, Nat.zero_add, Nat.add_sub_cancel_left]

def lenOf : Value → Nat
 | .slice _ n _ => n
 | _ => 0

set_option maxRecDepth 100000 in
set_option maxHeartbeats 1600000 in
theorem ShaSum_any (w : World) (B : Nat) (A : Option Addr) (n c : Nat) (b : List UInt8) (h : Rd w B 1 A n (b.map bv)) (hB : B ≤ w.heap.size) (hn : n ≤ 140737488355328) (hnc : n ≤ c) (hc : c ≤ maxLen) :
  Calls Try.prog 36 #[.slice A n c] w fun e w' => e = .returned (.agg ((shaS b).map bv).toArray) ∧ Below w.heap.size w w' := by
 have hbl : b.length = n := by have := h.len; simpa using this
 have hinf : (Try.prog.info? 103).map (·.size) = some (KS.map uv).length := by rw [List.length_map, KS_len]; kernel_rfl
 have hin8 : (Try.prog.info? 102).map (·.size) = some (initS.list.map uv).length := by kernel_rfl
 have HINF := Lib.hid hinf
 have HIN8 := Lib.hid hin8
 have HBL := Lib.hid hbl
 have H := Lib.hid h
 clear hinf hin8 h hbl
 go_enter Try.func36, Try.ntmps36
 go_wp2_with (refine wl_store_all rfl 102 (.tmp 3) _ rfl (w.heap.size + 1) _ _ (initS.list.map uv) rfl (congrArg Value.agg init_vals) (Cells.new' _ _ _ (by simp) rfl) rfl HIN8.out (uv_one _) ?_; intro w2 hc2 hg2 hs2)
 have hb2 : Below w.heap.size w w2 := (((Below.refl _ _).alloc (Nat.le_refl _) _).alloc (by simp) _).grown hg2 (by simp; omega) (fun k hk => by injection hk with hk; omega)
 have hR2 : Cells w2 w.heap.size 37 (List.replicate 32 (.int .u8 0)) := by
  refine Cells.grown ?_ hg2 (by simp)
  refine Cells.alloc ?_ _
  exact Cells.new' w _ _ rfl rfl
 have hs2' : w.heap.size + 2 ≤ w2.heap.size := Nat.le_of_eq (by rw [hs2]; simp)
 clear hg2 hs2
 refine (rounds_any w2).mono ?_
 rintro e w3 ⟨rfl, hb3⟩
 have hc3 := hc2.below hb3 (by omega)
 have hR3 := hR2.below hb3 (by omega)
 have hB3 := hb2.trans (hb3.mono hb2.size)
 have hs3 := hb3.size
 clear hb2 hb3 hc2 hR2
 go_wp2_with (refine wl_store_all rfl 103 _ _ rfl w3.heap.size _ _ (KS.map uv) rfl rfl (Cells.new _ _ _) (by rw [List.length_map, KS_len]; rfl) HINF.out (uv_one _) ?_; intro w4 hc4 hg4 hs4)
 have hb4 : Below w3.heap.size w3 w4 := ((Below.refl _ _).alloc (Nat.le_refl _) _).grown hg4 (by simp) (fun k hk => by injection hk with hk; omega)
 have hs4' : w3.heap.size < w4.heap.size := Nat.lt_of_lt_of_eq (by simp) hs4.symm
 clear hg4 hs4
 have q1 := Lib.hid (hc3.below hb4 (by omega))
 have q2 := Lib.hid (hR3.below hb4 (by omega))
 have q3 := Lib.hid hc4
 have q4 := Lib.hid (hB3.trans (hb4.mono (by omega)))
 clear hb4 hc3 hR3 hc4 hB3
 have H4 := Lib.hid (H.out.below q4.out hB)
 go_loopw [0] (fun v wr => ∃ (m : Nat) (A' : Option Addr) (c' : Nat), 64 * m ≤ n ∧ v = .slice A' (n - 64 * m) c' ∧ n - 64 * m ≤ c' ∧ c' ≤ maxLen ∧ Rd wr B 1 A' (n - 64 * m) ((b.drop (64 * m)).map bv) ∧ Cells wr (w.heap.size + 1) 102 ((absN initS b m).list.map uv) ∧ Cells wr w3.heap.size 103 (KS.map uv) ∧ Cells wr w.heap.size 37 (List.replicate 32 (.int .u8 0)) ∧ Below w.heap.size w wr ∧ w3.heap.size < wr.heap.size) (fun v _ => lenOf v)
 case atStart => exact ⟨0, A, c, by omega, rfl, by omega, hc, H4.out, q1.out, q3.out, q2.out, q4.out, hs4'⟩
 case round =>
  obtain ⟨m, A', c', hm, rfl, hcl, hcb, hrd, hst, hks, hres, hbel, hsz⟩ := hrel
  have K1 := Lib.hid hrd
  have K2 := Lib.hid hst
  have K3 := Lib.hid hks
  have K4 := Lib.hid hres
  have K5 := Lib.hid hbel
  clear hrd hst hks hres hbel q1 q2 q3 q4 H4
  have hsw : w.heap.size ≤ wr.heap.size := by omega
  by_cases hlt : 64 ≤ n - 64 * m
  ·have hd : decide ((64 : Int) ≤ ((n - 64 * m : Nat) : Int)) = true := by simp; omega
   generalize hN : n - 64 * m = N at *
   have HN := Lib.hid hN
   clear hN
   have htk : Rd wr B 1 A' 64 ((blk b m).map bv) := by
    have := K1.out.take hlt
    rw [Nat.mul_one, ← List.map_take] at this
    exact this
   have HTK := Lib.hid htk
   clear htk
   go_wp2_with fail
   refine (absorb_any wr B (w.heap.size + 1) w3.heap.size A' c' (blk b m) (absN initS b m) KS _ _ K2.out K3.out KS_len (by omega) HTK.out (by omega)).mono ?_
   rintro e w5 ⟨rfl, hst5, hg5⟩
   have hks5 := K3.out.grown hg5 (by simp; omega)
   have hres5 := K4.out.grown hg5 (by simp)
   have hbel5 := K5.out.grown hg5 hsw (fun k hk => by injection hk with hk; omega)
   have hrd5 : Rd w5 B 1 A' N ((b.drop (64 * m)).map bv) := K1.out.keep fun p hp => hg5.cell_far p (by omega) (by simp; omega)
   have hcut := hrd5.cut (k := 64) hlt hcl
   have hs5 := hg5.size
   have L1 := Lib.hid hst5
   have L2 := Lib.hid hks5
   have L3 := Lib.hid hres5
   have L4 := Lib.hid hbel5
   have L5 := Lib.hid hcut
   clear hst5 hks5 hres5 hbel5 hrd5 hcut hg5
   go_wp2
   have eN : n - 64 * (m + 1) = N - 64 := by have := HN.out; omega
   have eL : (b.drop (64 * m)).drop 64 = b.drop (64 * (m + 1)) := by rw [List.drop_drop]; congr 1
   refine ⟨⟨m + 1, _, _, by have := HN.out; omega, by rw [eN], by rw [eN]; omega, by omega, ?_, L1.out, L2.out, L3.out, L4.out, by omega⟩, by simp [lenOf]; omega⟩
   rw [eN]
   have := L5.out
   rw [Nat.mul_one, ← List.map_drop, eL] at this
   exact this
  ·have hN : n - 64 * m < 64 := by omega
   have hd : decide ((64 : Int) ≤ ((n - 64 * m : Nat) : Int)) = false := by simp; omega
   have hmq : m = n / 64 := by omega
   have hNr : n - 64 * m = n % 64 := by omega
   have HMQ := Lib.hid hmq
   clear hlt
   generalize hNN : n - 64 * m = N at *
   have HNR := Lib.hid hNr
   clear hNN hmq hNr
   have hz := zero128
   have HRL : Hid ((b.drop (64 * m)).length = N) := Lib.hid (by have := K1.out.len; simpa using this)
   have HTS : Hid (∀ E, N + 9 ≤ E → E ≤ 128 → ((((List.replicate 128 (Value.int .u8 0)).take 0) ++ ((b.drop (64 * m)).map bv ++ (List.replicate 128 (Value.int .u8 0)).drop (0 + N))).set N (Value.int .u8 128)) = (tailT (b.drop (64 * m)) E n 0).map bv) := Lib.hid (fun E h1 h2 => by have := tailT_start (b.drop (64 * m)) E n (by rw [HRL.out]; exact h1) h2; rw [HRL.out] at this; exact this)
   have hbr : (decide ((56 : Int) ≤ (N : Int)) = true ∧ Hid (tailEnd N = 128 ∧ 56 ≤ N)) ∨ (decide ((56 : Int) ≤ (N : Int)) = false ∧ Hid (tailEnd N = 64 ∧ N < 56)) := by
    rcases Nat.lt_or_ge N 56 with h | h
    ·exact Or.inr ⟨by simp; omega, Lib.hid ⟨by unfold tailEnd; rw [if_neg (by omega)], h⟩⟩
    ·exact Or.inl ⟨by simp; omega, Lib.hid ⟨by unfold tailEnd; rw [if_pos h], h⟩⟩
   have HNN : Hid (N = n - 64 * m) := Lib.hid (by have := HNR.out; have := HMQ.out; omega)
   obtain ⟨hd5, HTE⟩ | ⟨hd5, HTE⟩ := hbr
   all_goals (
    go_wp2_with (refine wl_copy rfl _ _ _ _ rfl 5 Try.underlying22 (by kernel_rfl) wr.heap.size 0 128 128 109 (List.replicate 128 (.int .u8 0)) ((b.drop (64 * m)).map bv) B A' N c' rfl rfl (Cells.new' wr _ _ rfl rfl) (K1.out.alloc (by omega) _) (by omega) (by simp; omega) (bv_one _) ?_; intro w6 hc6 hb6; have f6 := hc6.frozen N; have g6 := hc6.cellD (i := N) (d := undef) (by simp; omega))
    have hc7 := hc6.store N (.int .u8 128)
    have hb7 := (((Below.refl wr.heap.size wr).alloc (Nat.le_refl _) _).trans hb6).setCell (p := ⟨wr.heap.size, N, none⟩) (u := .int .u8 128) (Nat.le_refl _)
    have hs7 : wr.heap.size < (w6.setCell ⟨wr.heap.size, N, none⟩ (.int .u8 128)).heap.size := hc7.lt
    rw [HTS.out (tailEnd N) (by have := HTE.out; omega) (by have := HTE.out; omega)] at hc7
    generalize w6.setCell ⟨wr.heap.size, N, none⟩ (.int .u8 128) = w7 at *
    have M1 := Lib.hid hc7
    have M2 := Lib.hid hb7
    clear hc7 hb7 hc6 hb6 f6 g6 hz
    obtain ⟨wo, hwo⟩ : ∃ x, x = wr := ⟨_, rfl⟩
    subst hwo
    go_loopw [35] (fun i wv => ∃ k : Nat, k ≤ 8 ∧ i = .int .i64 k ∧ Cells wv wo.heap.size 109 ((tailT (b.drop (64 * m)) (tailEnd N) n k).map bv) ∧ Below wo.heap.size wo wv) (fun i _ => 8 - (intOf i).toNat)
    case atStart => exact ⟨0, by omega, rfl, M1.out, M2.out⟩
    case round =>
     obtain ⟨k, hk, rfl, hC, hG⟩ := hrel
     have HC := Lib.hid hC
     have HG := Lib.hid hG
     clear hC hG
     by_cases hlt : k < 8
     ·have hlen := tailT_len (b.drop (64 * m)) (tailEnd N) n k hk (by have := HTE.out; have := HRL.out; omega) (by have := HTE.out; omega)
      have HL := Lib.hid hlen
      clear hlen
      have fq := HC.out.frozen (tailEnd N - 1 - k)
      have cq := HC.out.cellD (i := tailEnd N - 1 - k) (d := undef) (by rw [List.length_map, HL.out]; have := HTE.out; omega)
      rw [HTE.out.1] at fq cq
      go_wp2
      exact ⟨⟨k + 1, by omega, by go_num, tail_step HC.out hlt (by have := HTE.out; have := HRL.out; omega) (by have := HTE.out; omega), HG.out.setCell (p := ⟨wo.heap.size, _, none⟩) (Nat.le_refl _) _⟩, by simp [intOf]; omega⟩
     ·have hk8 : k = 8 := by omega
      have hsz8 := HC.out.lt
      obtain ⟨wp, hwp⟩ : ∃ x, x = wr := ⟨_, rfl⟩
      subst hwp
      have HST : Hid (absN (absN initS b m) (tailT (b.drop (64 * m)) (tailEnd N) n k) (tailEnd N / 64) = stateS b) := Lib.hid (by rw [hk8]; have h1 := stateS_of b n m HBL.out HMQ.out; rw [← HNR.out] at h1; exact h1)
      have HTL : Hid ((tailT (b.drop (64 * m)) (tailEnd N) n k).length = 128) := Lib.hid (tailT_len (b.drop (64 * m)) (tailEnd N) n k (by omega) (by have := HTE.out; have := HRL.out; omega) (by have := HTE.out; omega))
      generalize tailT (b.drop (64 * m)) (tailEnd N) n k = T at *
      clear hk8
      have N1 := Lib.hid (K2.out.below HG.out (by omega))
      have N2 := Lib.hid (K3.out.below HG.out (by omega))
      have N3 := Lib.hid (K4.out.below HG.out (by omega))
      have N4 := Lib.hid (K5.out.trans (HG.out.mono (by omega)))
      clear K1 K2 K3 K4 K5 M1 M2 HTS
      go_wp2
      go_loopw [9] (fun i wv => ∃ k a : Nat, a ≤ tailEnd N ∧ i = .int .i64 a ∧ a = 64 * k ∧ Cells wv wo.heap.size 109 (T.map bv) ∧ Cells wv (w.heap.size + 1) 102 ((absN (absN initS b m) T k).list.map uv) ∧ Cells wv w3.heap.size 103 (KS.map uv) ∧ Cells wv w.heap.size 37 (List.replicate 32 (.int .u8 0)) ∧ Below w.heap.size w wv ∧ wo.heap.size < wv.heap.size) (fun i _ => 128 - (intOf i).toNat)
      case atStart => exact ⟨0, 0, by omega, rfl, rfl, HC.out, N1.out, N2.out, N3.out, N4.out, hsz8⟩
      case round =>
       obtain ⟨k, a, hk, rfl, ha, hC, h1, h2, h3, h4, h5⟩ := hrel
       have HA := Lib.hid ha
       have O0 := Lib.hid hC
       have O1 := Lib.hid h1
       have O2 := Lib.hid h2
       have O3 := Lib.hid h3
       have O4 := Lib.hid h4
       clear hC h1 h2 h3 h4 ha
       by_cases hlt : a < tailEnd N
       ·have hlt2 := hlt
        rw [HTE.out.1] at hlt2
        have hk2 : a + 64 ≤ tailEnd N := by have := HTE.out; have := HA.out; omega
        have HK2 := Lib.hid hk2
        have hrd : Rd wr (wo.heap.size + 1) 1 (some ⟨wo.heap.size, a, none⟩) 64 ((blk T k).map bv) := by
         have := O0.out.rd (o := a) (n := 64) (by rw [List.length_map, HTL.out]; have := HTE.out; omega)
         rw [HA.out] at this ⊢
         rw [blk, List.map_take, List.map_drop]
         exact this
        have HRD := Lib.hid hrd
        clear hrd
        have hk3 : a + 64 ≤ 128 := by have := HTE.out; omega
        have hsl := fun W => slice128 wo.heap.size a hk3 W
        go_wp2_with fail
        refine (absorb_any wr (wo.heap.size + 1) (w.heap.size + 1) w3.heap.size (some ⟨wo.heap.size, a, none⟩) _ (blk T k) (absN (absN initS b m) T k) KS _ _ O1.out O2.out KS_len (by omega) HRD.out (by omega)).mono ?_
        rintro e w5 ⟨rfl, hst5, hg5⟩
        have p0 := Lib.hid (O0.out.grown hg5 (by simp; omega))
        have p1 := Lib.hid hst5
        have p2 := Lib.hid (O2.out.grown hg5 (by simp; omega))
        have p3 := Lib.hid (O3.out.grown hg5 (by simp))
        have p4 := Lib.hid (O4.out.grown hg5 (by omega) (fun k hk => by injection hk with hk; omega))
        have hs5 := hg5.size
        clear hst5 hg5
        go_wp2
        exact ⟨⟨k + 1, a + 64, by have := HK2.out; omega, by go_num, by have := HA.out; omega, p0.out, p1.out, p2.out, p3.out, p4.out, by omega⟩, by simp [intOf]; omega⟩
       ·have hlt2 := hlt
        rw [HTE.out.1] at hlt2
        have hks : k = tailEnd N / 64 := by have := HA.out; have := HTE.out; omega
        have R1 : Hid (Cells wr (w.heap.size + 1) 102 ((stateS b).list.map uv)) := Lib.hid (by have h1 := O1.out; rw [hks, HST.out] at h1; exact h1)
        clear hks O1
        go_wp2
        obtain ⟨wq, hwq⟩ : ∃ x, x = wr := ⟨_, rfl⟩
        subst hwq
        go_loopw [59] (fun i wv => ∃ k : Nat, k ≤ 32 ∧ i = .int .i64 k ∧ Cells wv wq.heap.size 37 ((digT (stateS b) k).map bv) ∧ Below wq.heap.size wq wv) (fun i _ => 32 - (intOf i).toNat)
        case atStart => exact ⟨0, by omega, rfl, Cells.new' _ _ _ rfl (by rw [digT_zero]; rfl), (Below.refl _ _).alloc (Nat.le_refl _) _⟩
        case round =>
         obtain ⟨j, hj, rfl, hC2, hG2⟩ := hrel
         have S0 := Lib.hid hC2
         have SG := Lib.hid hG2
         clear hC2 hG2
         by_cases hlj : j < 32
         ·have lc := (R1.out.below SG.out (by omega)).cellD (i := j / 4) (d := uv 0) (by rw [List.length_map, S8.list_len]; omega)
          rw [getD_uv] at lc
          obtain ⟨x, hx⟩ : ∃ x, (stateS b).list.getD (j / 4) 0 = x := ⟨_, rfl⟩
          rw [hx] at lc
          have lc2 : wr.cell? ⟨w.heap.size + 1, j / 4, none⟩ = some (.int .u32 x.toNat) := lc
          have HX := Lib.hid hx
          clear lc hx
          have fq := S0.out.frozen j
          have cq := S0.out.cellD (i := j) (d := undef) (by rw [List.length_map, digT_len _ _ hj]; omega)
          go_wp2
          exact ⟨⟨j + 1, by omega, by go_num, dig_step HX.out S0.out hlj, SG.out.setCell (p := ⟨wq.heap.size, j, none⟩) (Nat.le_refl _) _⟩, by simp [intOf]; omega⟩
         ·have hj32 : j = 32 := by omega
          have HDG : Hid (digT (stateS b) j = shaS b) := Lib.hid (by rw [hj32, digT_all]; rfl)
          have T0 : Hid (Cells wr wq.heap.size 37 ((shaS b).map bv)) := Lib.hid (by rw [← HDG.out]; exact S0.out)
          have T1 := Lib.hid ((O3.out.below SG.out (by omega)))
          have T2 := Lib.hid (O4.out.trans (SG.out.mono (by omega)))
          have hlen : ((shaS b).map bv).length = 32 := by rw [List.length_map, shaS_len]
          have hin : (Try.prog.info? 37).map (·.size) = some ((shaS b).map bv).length := by rw [hlen]; kernel_rfl
          have HIN := Lib.hid hin
          have HLEN := Lib.hid hlen
          clear hin hlen hj32
          go_wp2_with (first | (refine wpList_load_mid rfl 37 _ rfl wq.heap.size 0 rfl ((shaS b).map bv) _ T0.out.range Try.underlying37 rfl (by rw [HLEN.out]; kernel_rfl) ?_) | (refine wl_store_all rfl 37 _ _ rfl w.heap.size _ _ ((shaS b).map bv) rfl rfl T1.out (by rw [HLEN.out]; rfl) HIN.out (bv_one _) ?_; intro w9 hc9 hg9 hs9))
          refine bodyPost_ret (v := .agg ((shaS b).map bv).toArray) ?_ rfl ⟨rfl, T2.out.grown hg9 (by have := T1.out.lt; omega) (fun k hk => by injection hk with hk; omega)⟩
          exact results_cell_row rfl _ _ w.heap.size 37 ((shaS b).map bv).toArray (0, 0) _ rfl hc9 Try.underlying37 rfl (by rw [List.size_toArray]; exact HIN.out))
end Go.Proofs.Ytfakjamocpamiaa
set_option linter.unusedSimpArgs false
set_option linter.unusedVariables false
namespace Go.Proofs.Ytfakjamocpamiaa
open Go Go.RowKit Go.Adm

attribute [local irreducible] KS

theorem rotate_q (x : UInt32) (n : Int) (k : Nat) (hn : n = (k : Int)) (h1 : 1 ≤ k) (h2 : k ≤ 31) (w : World) (m : Nat) :
  Calls Try.prog 86 #[.int .u32 x.toNat, .int .i64 n] (w.drewN m) fun e w'' => e = .returned (.int .u32 (rotr x k).toNat) ∧ ∃ m, w'' = w.drewN m :=
 (rotate_lit x n k hn h1 h2 _).mono fun _ _ ⟨he, hw⟩ => ⟨he, m, hw.symm⟩
theorem rotate_qa (x : UInt32) (n : Int) (k : Nat) (hn : n = (k : Int)) (h1 : 1 ≤ k) (h2 : k ≤ 31) (w : World) (a m : Nat) :
  Calls Try.prog 86 #[.int .u32 x.toNat, .int .i64 n] (w.drewN (a + m)) fun e w'' => e = .returned (.int .u32 (rotr x k).toNat) ∧ ∃ m, w'' = w.drewN (a + m) :=
 (rotate_lit x n k hn h1 h2 _).mono fun _ _ ⟨he, hw⟩ => ⟨he, m, hw.symm⟩

theorem ref_x (h k w e f g : UInt32) :
  (((h.toNat : Int) + (bs1 e).toNat + bits .xor .u32 (bits .and .u32 (e.toNat : Int) (f.toNat : Int)) (bits .and .u32 (bits .xor .u32 4294967295 (e.toNat : Int)) (g.toNat : Int)) + k.toNat) % 4294967296 + w.toNat) % 4294967296 = ((t1 h k w e f g).toNat : Int) := by
 have e1 : (4294967295 : Int) = ((4294967295 : UInt32).toNat : Int) := by decide
 have e2 : (4294967295 : UInt32) ^^^ e = e ^^^ 4294967295 := by
  apply UInt32.toNat_inj.1
  rw [UInt32.toNat_xor, UInt32.toNat_xor, Nat.xor_comm]
 rw [e1, w_xor, e2, w_and, w_and, w_xor]
 show _ = ((h + k + w + chf e f g + bs1 e).toNat : Int)
 unfold chf
 simp only [UInt32.toNat_add]
 omega
theorem ref_y (a b c : UInt32) : (((bs0 a).toNat : Int) + (maj a b c).toNat) % 4294967296 = ((t2 a b c).toNat : Int) := by
 show _ = ((maj a b c + bs0 a).toNat : Int)
 rw [UInt32.toNat_add]; omega
def Keep3 (w wr : World) (s : S8) : Prop := Cells wr w.heap.size 102 (s.list.map uv) ∧ Cells wr (w.heap.size + 1) 102 (List.replicate 8 (.int .u32 0)) ∧ Below w.heap.size w wr
theorem Keep3.store {w wr : World} {s : S8} (h : Keep3 w wr s) {g i : Nat} (hg : w.heap.size + 2 ≤ g) (u : Value) : Keep3 w (wr.setCell ⟨g, i, none⟩ u) s :=
 ⟨h.1.far (by simp; omega) _, h.2.1.far (by simp; omega) _, h.2.2.setCell (by simp; omega) _⟩
theorem Keep3.drewN {w wr : World} {s : S8} (h : Keep3 w wr s) (n : Nat) : Keep3 w (wr.drewN n) s := ⟨h.1.drewN n, h.2.1.drewN n, below_drewN' h.2.2 n⟩
theorem Keep3.alloc {w wr : World} {s : S8} (h : Keep3 w wr s) (o : Obj) : Keep3 w (wr.alloc o) s := ⟨h.1.alloc o, h.2.1.alloc o, h.2.2.alloc (by have := h.2.1.lt; omega) o⟩
theorem Keep3.drew {w wr : World} {s : S8} (h : Keep3 w wr s) : Keep3 w wr.drew s := ⟨h.1.drew, h.2.1.drew, h.2.2.drew⟩
theorem Keep3.grown {w wr w' : World} {s : S8} (h : Keep3 w wr s) {g : Nat} (hb : wr.grownBy w' (some g)) (hg : w.heap.size + 2 ≤ g) : Keep3 w w' s :=
 ⟨h.1.grown hb (by simp; omega), h.2.1.grown hb (by simp; omega), h.2.2.grown hb (by have := h.2.1.lt; omega) (fun k hk => by injection hk with hk; omega)⟩
theorem Keep3.below {w wr w' : World} {s : S8} (h : Keep3 w wr s) {B : Nat} (hb : Below B wr w') (hB : w.heap.size + 2 ≤ B) : Keep3 w w' s :=
 ⟨h.1.below hb (by omega), h.2.1.below hb (by omega), h.2.2.trans (hb.mono (by omega))⟩

set_option maxRecDepth 100000 in
set_option maxHeartbeats 6000000 in
theorem block_any (w : World) (B : Nat) (A : Option Addr) (c : Nat) (b : List UInt8) (s : S8) (h : Rd w B 1 A 64 (b.map bv)) (hB : B ≤ w.heap.size) :
  Calls Try.prog 65 #[.agg (s.list.map uv).toArray, .slice A 64 c] w fun e w' => e = .returned (.agg ((absorbS KS s b).list.map uv).toArray) ∧ Below w.heap.size w w' := by
 have hbl : b.length = 64 := by have := h.len; simpa using this
 obtain ⟨ad, rfl, had, hcell⟩ := h.at_ (by decide)
 have HC := Lib.hid hcell
 have HBL := Lib.hid hbl
 clear hcell h hbl
 go_enter Try.func65, Try.ntmps65
 go_wp2
 go_loopw [6] (fun i wr => ∃ k : Nat, k ≤ 16 ∧ i = .int .i64 k ∧ Cells wr (w.heap.size + 1 + 1) 103 (arr64 ((first16 b).take k)) ∧ Keep3 w wr s) (fun i _ => 16 - (intOf i).toNat)
 case atStart =>
  refine ⟨0, by omega, rfl, ?_, ?_, ?_, ?_⟩
  ·rw [List.take_zero, arr64_nil]
   exact Cells.new' _ _ _ (by simp) rfl
  ·refine Cells.alloc (cs := s.list.map uv) (Cells.alloc (cs := s.list.map uv) ?_ _) _
   exact Cells.new' _ _ _ rfl rfl
  ·refine Cells.alloc (cs := List.replicate 8 (.int .u32 0)) ?_ _
   exact Cells.new' _ _ _ (by simp) rfl
  ·exact (((Below.refl _ _).alloc (Nat.le_refl _) _).alloc (by simp) _).alloc (by simp; omega) _
 case round =>
  obtain ⟨k, hk, rfl, hW, hKK⟩ := hrel
  have HW := Lib.hid hW
  have HK := Lib.hid hKK
  clear hW hKK
  by_cases hlt : k < 16
  ·have g : ∀ j, j < 4 → wr.cell? (ad.add (4 * k + j)) = some (.int .u8 (b.getD (4 * k + j) 0).toNat) := fun j hj => by
    rw [HK.out.2.2.cell (p := ad.add (4 * k + j)) (by rw [add_block]; omega)]
    refine HC.out _ _ ?_
    have hl := HBL.out
    rw [List.getElem?_map, List.getElem?_eq_getElem (by omega), List.getD, List.getElem?_eq_getElem (by omega)]
    rfl
   have g0 := g 0 (by omega)
   have g1 := g 1 (by omega)
   have g2 := g 2 (by omega)
   have g3 := g 3 (by omega)
   clear g
   rw [Nat.add_zero] at g0
   have e1 : ad.add (4 * k + 1) = ⟨ad.block, ad.off + (4 * k + 1), none⟩ := by unfold Addr.add; rw [if_neg (by omega)]
   have e2 : ad.add (4 * k + 2) = ⟨ad.block, ad.off + (4 * k + 1 + 1), none⟩ := by unfold Addr.add; rw [if_neg (by omega)]
   have e3 : ad.add (4 * k + 3) = ⟨ad.block, ad.off + (4 * k + 2 + 1), none⟩ := by unfold Addr.add; rw [if_neg (by omega)]
   rw [e1] at g1
   rw [e2] at g2
   rw [e3] at g3
   clear e1 e2 e3
   go_wp2
   have gs := HW.out.cell (i := k) (by rw [arr64_len]; omega; simp [first16_len]; omega)
   have gf := HW.out.frozen k
   have wa0 : IntKind.i64.wrap (4 * (k : Int)) = 4 * (k : Int) := IntWalk.i64_in _ (by omega)
   have wb0 : (0 : Int) ≤ 4 * (k : Int) := by omega
   have wc0 : 4 * (k : Int) < 64 := by omega
   have wd0 : (4 * (k : Int)).toNat = 4 * k := by omega
   have wa1 : IntKind.i64.wrap (4 * (k : Int) + 1) = 4 * (k : Int) + 1 := IntWalk.i64_in _ (by omega)
   have wb1 : (0 : Int) ≤ 4 * (k : Int) + 1 := by omega
   have wc1 : 4 * (k : Int) + 1 < 64 := by omega
   have wd1 : (4 * (k : Int) + 1).toNat = 4 * k + 1 := by omega
   have wa2 : IntKind.i64.wrap (4 * (k : Int) + 2) = 4 * (k : Int) + 2 := IntWalk.i64_in _ (by omega)
   have wb2 : (0 : Int) ≤ 4 * (k : Int) + 2 := by omega
   have wc2 : 4 * (k : Int) + 2 < 64 := by omega
   have wd2 : (4 * (k : Int) + 2).toNat = 4 * k + 2 := by omega
   have wa3 : IntKind.i64.wrap (4 * (k : Int) + 3) = 4 * (k : Int) + 3 := IntWalk.i64_in _ (by omega)
   have wb3 : (0 : Int) ≤ 4 * (k : Int) + 3 := by omega
   have wc3 : 4 * (k : Int) + 3 < 64 := by omega
   have wd3 : (4 * (k : Int) + 3).toNat = 4 * k + 3 := by omega
   have we : (0 : Int) ≤ (k : Int) := by omega
   have wf : (k : Int) < 64 := by omega
   go_region_held3 (fun w' => w'.cell? (ad.add (4 * k)) = some (.int .u8 (b.getD (4 * k) 0).toNat) ∧ w'.cell? ⟨ad.block, ad.off + (4 * k + 1), none⟩ = some (.int .u8 (b.getD (4 * k + 1) 0).toNat) ∧ w'.cell? ⟨ad.block, ad.off + (4 * k + 1 + 1), none⟩ = some (.int .u8 (b.getD (4 * k + 2) 0).toNat) ∧ w'.cell? ⟨ad.block, ad.off + (4 * k + 2 + 1), none⟩ = some (.int .u8 (b.getD (4 * k + 3) 0).toNat)) (first | exact ⟨g0, g1, g2, g3⟩ | exact ⟨cell_apart g0 (by rw [add_block]; simp; omega), cell_apart g1 (by simp; omega), cell_apart g2 (by simp; omega), cell_apart g3 (by simp; omega)⟩) (first | fail)
   clear wa0 wa1 wa2 wa3
   go_wp2
   rw [word_eq']
   have hlk : ((first16 b).take k).length = k := by rw [List.length_take, first16_len]; omega
   refine ⟨⟨k + 1, by omega, by go_num, ?_, (HK.out.store (by omega) _).drew⟩, by simp [intOf]; omega⟩
   have := (HW.out.store k (.int .u32 (wordAt b k).toNat)).drew
   refine this.cast ?_
   rw [first16_succ b k hlt, ← arr64_set _ (by rw [hlk]; omega), hlk]
  ·have hW := HW.out
   rw [show (first16 b).take k = extN 0 (first16 b) from by rw [List.take_of_length_le (by rw [first16_len]; omega)]; rfl] at hW
   have HW2 := Lib.hid hW
   clear hW HW
   go_wp2
   obtain ⟨wo, hwo⟩ : ∃ x, x = wr := ⟨_, rfl⟩
   subst hwo
   go_loopw [7] (fun i wr => ∃ m : Nat, m ≤ 48 ∧ i = .int .i64 ((m : Int) + 16) ∧ Cells wr (w.heap.size + 1 + 1) 103 (arr64 (extN m (first16 b))) ∧ Keep3 w wr s) (fun i _ => 64 - (intOf i).toNat)
   case atStart => exact ⟨0, by omega, rfl, HW2.out, HK.out⟩
   case round =>
    obtain ⟨m, hm, rfl, hW, hKK⟩ := hrel
    have HW := Lib.hid hW
    have HKK := Lib.hid hKK
    clear hW hKK HK HW2
    have hWl : (extN m (first16 b)).length = m + 16 := by rw [extN_len, first16_len]; omega
    generalize hWd : extN m (first16 b) = W at *
    have HWD := Lib.hid hWd
    have HWL := Lib.hid hWl
    have gl : ∀ j, j < m + 16 → wr.cell? ⟨w.heap.size + 1 + 1, j, none⟩ = some (.int .u32 (W.getD j 0).toNat) := fun j hj => by
     rw [HW.out.cell (i := j) (by rw [arr64_len (by rw [hWl]; omega)]; omega), arr64_get (by rw [hWl]; exact hj)]
    clear hWd hWl
    by_cases hlt : m < 48
    ·have l1 := gl (m + 1) (by omega)
     have l2 := gl (m + 14) (by omega)
     have l3 := gl m (by omega)
     have l4 := gl (m + 9) (by omega)
     clear gl
     have hext : extN (m + 1) (first16 b) = W ++ [add4 (W.getD m 0) (sg0 (W.getD (m + 1) 0)) (W.getD (m + 9) 0) (sg1 (W.getD (m + 14) 0))] := by
      show ext (extN m (first16 b)) = _
      rw [HWD.out]
      unfold ext
      rw [HWL.out, show m + 16 - 16 = m from by omega, show m + 16 - 15 = m + 1 from by omega, show m + 16 - 7 = m + 9 from by omega, show m + 16 - 2 = m + 14 from by omega]
     generalize W.getD (m + 1) 0 = x1 at *
     generalize W.getD (m + 14) 0 = x2 at *
     generalize W.getD m 0 = x3 at *
     generalize W.getD (m + 9) 0 = x4 at *
     have HEXT := Lib.hid hext
     clear hext
     have wa1 : IntKind.i64.wrap ((m : Int) + 16 - 15) = (m : Int) + 1 := by rw [IntWalk.i64_in _ (by omega)]; omega
     have wa2 : IntKind.i64.wrap ((m : Int) + 16 - 2) = (m : Int) + 14 := by rw [IntWalk.i64_in _ (by omega)]; omega
     have wb1 : (0 : Int) ≤ (m : Int) + 1 := by omega
     have wb2 : (0 : Int) ≤ (m : Int) + 14 := by omega
     have wc1 : (m : Int) + 1 < 64 := by omega
     have wc2 : (m : Int) + 14 < 64 := by omega
     have wd1 : ((m : Int) + 1).toNat = m + 1 := by omega
     have wd2 : ((m : Int) + 14).toNat = m + 14 := by omega
     have hq0 := sg0_eq x1
     have hq1 := sg1_eq x2
     go_wp2
     go_quiet ((first | (go_at_call_of 86 (Value.int IntKind.i64 7); exact rotate_q _ 7 7 rfl (by decide) (by decide) _ _) | (go_at_call_of 86 (Value.int IntKind.i64 18); exact rotate_q _ 18 18 rfl (by decide) (by decide) _ _)))
     obtain ⟨na, hna⟩ : ∃ x, x = nq := ⟨_, rfl⟩
     subst hna
     go_wp2
     go_quiet ((first | (go_at_call_of 86 (Value.int IntKind.i64 17); exact rotate_qa _ 17 17 rfl (by decide) (by decide) _ _ _) | (go_at_call_of 86 (Value.int IntKind.i64 19); exact rotate_qa _ 19 19 rfl (by decide) (by decide) _ _ _)))
     clear wa1 wa2
     rw [World.drewN_drewN]
     generalize na + nq = nz
     go_wp2
     have gs := HW.out.cellD (i := m + 16) (d := undef) (by rw [arr64_len (by rw [HWL.out]; omega)]; omega)
     have gf := HW.out.frozen (m + 16)
     have hq2 := sum3 x3 (sg0 x1) x4
     have wa3 : IntKind.i64.wrap ((m : Int) + 16 - 16) = (m : Int) := by rw [IntWalk.i64_in _ (by omega)]; omega
     have wa4 : IntKind.i64.wrap ((m : Int) + 16 - 7) = (m : Int) + 9 := by rw [IntWalk.i64_in _ (by omega)]; omega
     have wa6 : IntKind.i64.wrap (m : Int) = (m : Int) := IntWalk.i64_in _ (by omega)
     have wb3 : (0 : Int) ≤ (m : Int) := by omega
     have wb4 : (0 : Int) ≤ (m : Int) + 9 := by omega
     have wb5 : (0 : Int) ≤ (m : Int) + 16 := by omega
     have wc3 : (m : Int) < 64 := by omega
     have wc4 : (m : Int) + 9 < 64 := by omega
     have wc5 : (m : Int) + 16 < 64 := by omega
     have wd4 : ((m : Int) + 9).toNat = m + 9 := by omega
     have wd5 : ((m : Int) + 16).toNat = m + 16 := by omega
     go_region_held3 (fun w' => w'.cell? ⟨w.heap.size + 1 + 1, m, none⟩ = some (.int .u32 x3.toNat) ∧ w'.cell? ⟨w.heap.size + 1 + 1, m + 9, none⟩ = some (.int .u32 x4.toNat)) (first | exact ⟨l3, l4⟩ | exact ⟨cell_off l3 (by omega), cell_off l4 (by omega)⟩) (first | fail)
     clear wa3 wa4 wa6 hq2 hq0 hq1
     rw [w_add4]
     go_wp2
     refine ⟨⟨m + 1, by omega, by go_num, ?_, (HKK.out.drewN (nz + 1)).store (by omega) _⟩, by simp [intOf]; omega⟩
     have := ((HW.out.drewN (nz + 1)).store (m + 16) (.int .u32 (add4 x3 (sg0 x1) x4 (sg1 x2)).toNat))
     refine this.cast ?_
     rw [HEXT.out, ← arr64_set _ (by rw [HWL.out]; omega), HWL.out]
    ·have hm48 : 48 ≤ m := by omega
     have HS48 : Hid (W = sched b) := Lib.hid (by rw [← HWD.out, show m = 48 from by omega]; rfl)
     have HAR : Hid (Cells wr (w.heap.size + 1 + 1) 103 ((sched b).map uv)) := Lib.hid (by have h1 := HW.out; unfold arr64 at h1; rw [show 64 - W.length = 0 from by rw [HWL.out]; omega, HS48.out, List.replicate_zero, List.append_nil] at h1; exact h1)
     clear HS48 gl HW HWD HWL
     have hsw := HAR.out.lt
     have hinf : (Try.prog.info? 103).map (·.size) = some (KS.map uv).length := by rw [List.length_map, KS_len]; kernel_rfl
     have hin8 : (Try.prog.info? 102).map (·.size) = some (s.list.map uv).length := by kernel_rfl
     have HINF := Lib.hid hinf
     have HIN8 := Lib.hid hin8
     clear hinf hin8
     go_wp2_with fail
     refine (constants_any _).mono ?_
     rintro e w5 ⟨rfl, hb5⟩
     have hk5 := Lib.hid (HKK.out.below hb5 (by omega))
     have har5 := Lib.hid (HAR.out.below hb5 hsw)
     have hs5 := hb5.size
     clear hb5 HKK HAR
     go_wp2_with (first | (refine wl_store_all rfl 103 _ _ rfl w5.heap.size _ _ (KS.map uv) rfl rfl (Cells.new _ _ _) (by rw [List.length_map, KS_len]; rfl) HINF.out (uv_one _) ?_; intro w6 hc6 hg6 hs6; have hk6 : Hid (Keep3 w w6 s) := Lib.hid ((hk5.out.alloc _).grown hg6 (by omega))) | (refine wpList_load_mid rfl 102 _ rfl w.heap.size 0 rfl (s.list.map uv) _ hk6.out.1.range Try.underlying102 rfl (by kernel_rfl) ?_) | (refine wl_store_all rfl 102 _ _ rfl (w5.heap.size + 1) _ _ (s.list.map uv) rfl rfl (Cells.new' _ _ _ (by simp [hs6]) rfl) rfl HIN8.out (uv_one _) ?_; intro w7 hc7 hg7 hs7))
     have hs7' : w5.heap.size + 1 < w7.heap.size := hc7.lt
     have hw6 : w6.heap.size = w5.heap.size + 1 := by simp [hs6]
     have L1 := Lib.hid hc7
     have L2 : Hid (Cells w7 w5.heap.size 103 (KS.map uv)) := Lib.hid ((hc6.alloc _).grown hg7 (by simp))
     have L3 : Hid (Cells w7 (w.heap.size + 1 + 1) 103 ((sched b).map uv)) := Lib.hid ((((har5.out.alloc _).grown hg6 (by simp; omega)).alloc _).grown hg7 (by simp; omega))
     have L4 : Hid (Keep3 w w7 s) := Lib.hid ((hk6.out.alloc _).grown hg7 (by omega))
     clear hc6 hg6 hs6 hk6 hc7 hg7 hs7 hk5 har5
     go_loopw [12] (fun i wr => ∃ (n : Nat) (t : S8), n ≤ 64 ∧ i = .int .i64 n ∧ Hid (t = roundN KS (sched b) s n) ∧ Cells wr (w5.heap.size + 1) 102 (t.list.map uv) ∧ Cells wr w5.heap.size 103 (KS.map uv) ∧ Cells wr (w.heap.size + 1 + 1) 103 ((sched b).map uv) ∧ Keep3 w wr s) (fun i _ => 64 - (intOf i).toNat)
     case atStart => exact ⟨0, s, by omega, rfl, Lib.hid rfl, L1.out, L2.out, L3.out, L4.out⟩
     case round =>
      obtain ⟨n, t, hn, rfl, HT, h1, h2, h3, h4⟩ := hrel
      have M1 := Lib.hid h1
      have M2 := Lib.hid h2
      have M3 := Lib.hid h3
      have M4 := Lib.hid h4
      have q0 : wr.cell? ⟨w5.heap.size + 1, 0, none⟩ = some (.int .u32 t.a.toNat) := h1.cell (i := 0) (Nat.lt_of_sub_eq_succ rfl)
      have q1 : wr.cell? ⟨w5.heap.size + 1, 1, none⟩ = some (.int .u32 t.b.toNat) := h1.cell (i := 1) (Nat.lt_of_sub_eq_succ rfl)
      have q2 : wr.cell? ⟨w5.heap.size + 1, 2, none⟩ = some (.int .u32 t.c.toNat) := h1.cell (i := 2) (Nat.lt_of_sub_eq_succ rfl)
      have q3 : wr.cell? ⟨w5.heap.size + 1, 3, none⟩ = some (.int .u32 t.d.toNat) := h1.cell (i := 3) (Nat.lt_of_sub_eq_succ rfl)
      have q4 : wr.cell? ⟨w5.heap.size + 1, 4, none⟩ = some (.int .u32 t.e.toNat) := h1.cell (i := 4) (Nat.lt_of_sub_eq_succ rfl)
      have q5 : wr.cell? ⟨w5.heap.size + 1, 5, none⟩ = some (.int .u32 t.f.toNat) := h1.cell (i := 5) (Nat.lt_of_sub_eq_succ rfl)
      have q6 : wr.cell? ⟨w5.heap.size + 1, 6, none⟩ = some (.int .u32 t.g.toNat) := h1.cell (i := 6) (Nat.lt_of_sub_eq_succ rfl)
      have q7 : wr.cell? ⟨w5.heap.size + 1, 7, none⟩ = some (.int .u32 t.h.toNat) := h1.cell (i := 7) (Nat.lt_of_sub_eq_succ rfl)
      clear h1 h2 h3 h4 L1 L2 L3 L4
      by_cases hlt : n < 64
      ·have lk : wr.cell? ⟨w5.heap.size, n, none⟩ = some (.int .u32 (KS.getD n 0).toNat) := by
        rw [M2.out.cell (i := n) (by rw [List.length_map, KS_len]; exact hlt)]
        simp [uv, List.getD, KS_len, hlt]
       have lw : wr.cell? ⟨w.heap.size + 1 + 1, n, none⟩ = some (.int .u32 ((sched b).getD n 0).toNat) := by
        rw [M3.out.cell (i := n) (by rw [List.length_map, sched_len]; exact hlt)]
        simp [uv, List.getD, sched_len, hlt]
       have hstep : roundN KS (sched b) s (n + 1) = round1 t (KS.getD n 0) ((sched b).getD n 0) := by rw [HT.out]; rfl
       have HSTEP := Lib.hid hstep
       clear hstep
       generalize KS.getD n 0 = xk at *
       generalize (sched b).getD n 0 = xw at *
       have hb1 : (0 : Int) ≤ (n : Int) := by omega
       have hb2 : (n : Int) < 64 := by omega
       have hmx := u32_ones
       have r1 := w_bs1 t.e
       have r3 := w_maj t.a t.b t.c
       have r4 := w_bs0 t.a
       go_wp2
       go_quiet ((first | (go_at_call_of 86 (Value.int IntKind.i64 6); exact rotate_q _ 6 6 rfl (by decide) (by decide) _ _) | (go_at_call_of 86 (Value.int IntKind.i64 11); exact rotate_q _ 11 11 rfl (by decide) (by decide) _ _) | (go_at_call_of 86 (Value.int IntKind.i64 25); exact rotate_q _ 25 25 rfl (by decide) (by decide) _ _)))
       go_wp2
       obtain ⟨na, hna⟩ : ∃ x, x = nq := ⟨_, rfl⟩
       subst hna
       go_quiet (fail)
       rw [World.drewN_drewN]
       generalize na + nq = nb
       rw [ref_x t.h xk xw t.e t.f t.g]
       have r5 := ref_y t.a t.b t.c
       have r6 := m_addw t.d (t1 t.h xk xw t.e t.f t.g)
       have r7 := m_addw (t1 t.h xk xw t.e t.f t.g) (t2 t.a t.b t.c)
       go_wp2
       go_quiet ((first | (go_at_call_of 86 (Value.int IntKind.i64 2); exact rotate_qa _ 2 2 rfl (by decide) (by decide) _ _ _) | (go_at_call_of 86 (Value.int IntKind.i64 13); exact rotate_qa _ 13 13 rfl (by decide) (by decide) _ _ _) | (go_at_call_of 86 (Value.int IntKind.i64 22); exact rotate_qa _ 22 22 rfl (by decide) (by decide) _ _ _)))
       rw [World.drewN_drewN]
       generalize nb + nq = nz
       clear hmx
       go_wp2_with (refine wl_store_all rfl 102 _ _ rfl (w5.heap.size + 1) _ _ ((round1 t xk xw).list.map uv) rfl rfl (M1.out.drewN nz) rfl HIN8.out (uv_one _) ?_; intro w8 hc8 hg8 hs8)
       exact ⟨⟨n + 1, round1 t xk xw, by omega, by go_num, Lib.hid HSTEP.out.symm, hc8, (M2.out.drewN nz).grown hg8 (by simp), (M3.out.drewN nz).grown hg8 (by simp; omega), (M4.out.drewN nz).grown hg8 (by have := M3.out.lt; omega)⟩, by simp [intOf]; omega⟩
      ·have HT64 : Hid (absorbS KS s b = addS s t) := Lib.hid (absorbS_of HT.out (by omega))
       clear HT hn q0 q1 q2 q3 q4 q5 q6 q7
       go_wp2
       obtain ⟨wq, hwq⟩ : ∃ x, x = wr := ⟨_, rfl⟩
       subst hwq
       have hsq := M1.out.lt
       go_loopw [17] (fun i wr => ∃ j : Nat, j ≤ 8 ∧ i = .int .i64 j ∧ Cells wr w.heap.size 102 ((mixS s t j).map uv) ∧ Cells wr (w5.heap.size + 1) 102 (t.list.map uv) ∧ Cells wr (w.heap.size + 1) 102 (List.replicate 8 (.int .u32 0)) ∧ Below w.heap.size w wr) (fun i _ => 8 - (intOf i).toNat)
       case atStart => exact ⟨0, by omega, rfl, M4.out.1, M1.out, M4.out.2.1, M4.out.2.2⟩
       case round =>
        obtain ⟨j, hj, rfl, hC, hC2, hC3, hG⟩ := hrel
        have HCC := Lib.hid hC
        have HC2 := Lib.hid hC2
        have HC3 := Lib.hid hC3
        have HG := Lib.hid hG
        clear hC hC2 hC3 hG
        by_cases hj8 : j < 8
        ·have l1 : wr.cell? ⟨w.heap.size, j, none⟩ = some (.int .u32 (s.list.getD j 0).toNat) := by
          rw [HCC.out.cell (i := j) (by rw [List.length_map, mixS_len _ _ _ hj]; exact hj8), ← mixS_get s t j hj8]
          simp [uv, List.getD, mixS_len _ _ _ hj, hj8]
         have l2 : wr.cell? ⟨w5.heap.size + 1, j, none⟩ = some (.int .u32 (t.list.getD j 0).toNat) := by
          rw [HC2.out.cell (i := j) (by rw [List.length_map, S8.list_len]; exact hj8)]
          simp only [uv, List.getD, List.getElem_map]
          rw [List.getElem?_eq_getElem (by rw [S8.list_len]; exact hj8)]
          rfl
         have lf := HCC.out.frozen j
         have HSET := Lib.hid (mixS_set s t j hj8)
         generalize s.list.getD j 0 = x at *
         generalize t.list.getD j 0 = y at *
         have wb1 : (0 : Int) ≤ (j : Int) := by omega
         have wb2 : (j : Int) < 8 := by omega
         go_wp2
         go_region
         all_goals
          rw [m_addw]
          go_wp2
          refine ⟨⟨j + 1, by omega, by go_num, ((HCC.out.store j (.int .u32 (addw x y).toNat)).drew).cast HSET.out, (HC2.out.far (by simp; omega) _).drew, (HC3.out.far (by simp) _).drew, (HG.out.setCell (Nat.le_refl _) _).drew⟩, by simp [intOf]; omega⟩
        ·have hd : decide ((j : Int) < 8) = false := by simp; omega
         have hj88 : j = 8 := by omega
         have hfin := HCC.out
         rw [hj88, mixS_all, ← HT64.out] at hfin
         have HF := Lib.hid hfin
         have hin9 : (Try.prog.info? 102).map (·.size) = some ((absorbS KS s b).list.map uv).length := by kernel_rfl
         have HIN9 := Lib.hid hin9
         clear hfin hj88 hj8 hj hin9 HT64
         obtain ⟨S9, hS9⟩ : ∃ x, x = absorbS KS s b := ⟨_, rfl⟩
         rw [← hS9] at HF HIN9
         have HS9 := Lib.hid hS9
         clear hS9
         go_wp2_with (first | (refine wpList_load_mid rfl 102 _ rfl w.heap.size 0 rfl (S9.list.map uv) _ HF.out.range Try.underlying102 rfl (by kernel_rfl) ?_) | (refine wl_store_all rfl 102 _ _ rfl (w.heap.size + 1) _ _ (S9.list.map uv) rfl rfl HC3.out rfl HIN9.out (uv_one _) ?_; intro w9 hc9 hg9 hs9))
         refine bodyPost_ret (v := .agg (S9.list.map uv).toArray) ?_ rfl ⟨by rw [HS9.out], HG.out.grown hg9 (by have := HC3.out.lt; omega) (fun k hk => by injection hk with hk; omega)⟩
         exact results_cell_row rfl _ _ (w.heap.size + 1) 102 (S9.list.map uv).toArray (0, 0) _ rfl hc9 Try.underlying102 rfl (by rw [List.size_toArray]; exact HIN9.out)
end Go.Proofs.Ytfakjamocpamiaa
set_option linter.unusedSimpArgs false
set_option linter.unusedVariables false
namespace Go.Proofs.Ytfakjamocpamiaa
open Go Go.RowKit Go.Adm

attribute [local irreducible] KS
theorem els_u8 : ElemOf Try.prog 22 5 (.int .u8 0) 1 1 := ElemOf.mk' Try.underlying22 (by kernel_rfl) rfl (by decide) (by decide)

set_option maxRecDepth 100000 in
set_option maxHeartbeats 1600000 in
theorem refSum_any (w : World) (B : Nat) (A : Option Addr) (n c : Nat) (b : List UInt8) (h : Rd w B 1 A n (b.map bv)) (hB : B ≤ w.heap.size) (hn : n ≤ 140737488355000) :
  Calls Try.prog 38 #[.slice A n c] w fun e w' => e = .returned (.agg ((shaS b).map bv).toArray) ∧ Below w.heap.size w w' := by
 have hbl : b.length = n := by have := h.len; simpa using this
 have HBL := Lib.hid hbl
 have H := Lib.hid h
 clear h hbl
 go_enter Try.func38, Try.ntmps38
 have OL : ∀ o, Go.Adm.Own ((w.alloc o).alloc (.cells #[] 5)) (w.heap.size + 1) 5 1 (some ⟨w.heap.size + 1, 0, none⟩) 0 0 [] := fun o => by
  have h1 := Go.Adm.Own.lit (base := w.heap.size + 1) (e := 5) (size := 1) (w.alloc o) #[] 0 (by simp) (by decide) rfl
  have h2 : (w.alloc o).heap.size = w.heap.size + 1 := by simp
  rw [h2] at h1
  exact h1
 have HOL := Lib.hid OL
 clear OL
 go_wp2_with (at_builtin; first | (refine wl_app _ els_u8 rfl (.tmp 10) _ rfl (w.heap.size + 1) _ _ _ [] rfl (HOL.out _) B A n c (b.map bv) rfl ((H.out.alloc hB _).alloc (by simp; omega) _) (bv_one _) (by omega) (by simp) ?_; intro A1 c1 w1 hown1a hbel1 _; have hown1 := hown1a.cast (Nat.zero_add n) (List.nil_append _); clear hown1a; have hs1 := hbel1.size; simp only [World.alloc, Array.size_push] at hs1) | (refine wl_app _ els_u8 rfl (.tmp 12) _ rfl (w.heap.size + 1) _ _ _ _ rfl (hown1.alloc _) (w1.heap.size + 1) _ 1 1 [bv 128] rfl (Rd.lit w1 _ _ 1 rfl) (bv_one [128]) (by omega) (by simp; omega) ?_; intro A2 c2 w2 hown2 hbel2 _))
 obtain ⟨w0, hR0, hB0, hs0, hB2⟩ : ∃ w0, Cells w0 w.heap.size 37 (List.replicate 32 (.int .u8 0)) ∧ Below w.heap.size w w0 ∧ w0.heap.size = w.heap.size + 1 ∧ Below (w.heap.size + 1) w0 w2 :=
  ⟨_, Cells.new' w _ _ rfl rfl, (Below.refl _ _).alloc (Nat.le_refl _) _, by simp, ((((Below.refl _ _).alloc (by simp) _).trans hbel1).alloc (by omega) _).trans hbel2⟩
 have R0 := Lib.hid hR0
 have R1 := Lib.hid hB0
 have R2 := Lib.hid hs0
 have R3 := Lib.hid hB2
 have R4 := Lib.hid hown2
 clear hR0 hB0 hs0 hB2 hown2 hbel1 hbel2 hown1 hs1 HOL
 go_loopw [3] (fun v wr => ∃ (z L : Nat) (A' : Option Addr) (c' : Nat), z ≤ zpad n ∧ L = n + 1 + z ∧ v = .slice A' L c' ∧ Go.Adm.Own wr (w.heap.size + 1) 5 1 A' L c' ((b ++ 128 :: List.replicate z 0).map bv) ∧ Below (w.heap.size + 1) w0 wr) (fun v _ => n + 1 + zpad n - lenOf v)
 case atStart => exact ⟨0, _, A2, c2, by omega, rfl, rfl, by have := R4.out; rw [List.map_append]; exact this, R3.out⟩
 case round =>
  obtain ⟨z, L, A', c', hz, hL, rfl, hO, hBl⟩ := hrel
  have HO := Lib.hid hO
  have HBl := Lib.hid hBl
  have HL := Lib.hid hL
  have hsz : w.heap.size + 1 ≤ wr.heap.size := by have := hBl.size; have := R2.out; omega
  have hLb : L ≤ 140737488355200 := by unfold zpad at hz; omega
  clear hO hBl hL R4 R3
  by_cases hq : L % 64 = 56
  ·have hzz : z = zpad n := by have := HL.out; unfold zpad at hz ⊢; omega
   have HZ := Lib.hid hzz
   have hqb : (((L : Int) % 64) != 56) = false := by simp; omega
   clear hzz hq
   obtain ⟨wo, hwo⟩ : ∃ x, x = wr := ⟨_, rfl⟩
   subst hwo
   go_wp2
   go_loopw [3, 5] (fun v i wr => ∃ (k : Nat) (iv : Int) (L : Nat) (A' : Option Addr) (c' : Nat), k ≤ 8 ∧ Hid (iv = (k : Int) - 1) ∧ i = .int .i64 iv ∧ Hid (L = n + 1 + z + (8 - k)) ∧ L ≤ 140737488355300 ∧ v = .slice A' L c' ∧ Go.Adm.Own wr (w.heap.size + 1) 5 1 A' L c' ((b ++ 128 :: (List.replicate z 0 ++ (lenBytes n).take (8 - k))).map bv) ∧ Below (w.heap.size + 1) w0 wr) (fun _ i _ => (intOf i + 1).toNat)
   case atStart => exact ⟨8, 7, L, A', c', by omega, Lib.hid rfl, rfl, Lib.hid (by have := HL.out; omega), by omega, rfl, by have := HO.out; rw [Nat.sub_self, List.take_zero, List.append_nil]; exact this, HBl.out⟩
   case round =>
    obtain ⟨k, iv, L, A', c', hk, HK, rfl, HL2, hLb2, rfl, hO, hBl⟩ := hrel
    have HO2 := Lib.hid hO
    have HBl2 := Lib.hid hBl
    have hsz : w.heap.size + 1 ≤ wr.heap.size := by have := hBl.size; have := R2.out; omega
    clear hO hBl
    cases k with
    | succ m =>
     obtain rfl : iv = (m : Int) := by have := HK.out; omega
     go_wp2_with (at_builtin; refine wl_app _ els_u8 rfl (.tmp 30) _ rfl (w.heap.size + 1) _ _ _ _ rfl (HO2.out.alloc _) (wr.heap.size + 1) _ 1 1 [.int .u8 ((n : Int) * 8 / 2 ^ (8 * m) % 256)] rfl (Rd.lit wr _ _ 1 rfl) (by intro u hu; simp only [List.mem_singleton] at hu; subst hu; rfl) (by omega) (by simp; omega) ?_; intro A3 c3 w3 hown3 hbel3 _)
     rw [lenByte_mod] at hown3
     go_roundw
     case measure => simp [intOf]
     refine ⟨m, (m : Int) - 1, L + 1, A3, c3, by omega, Lib.hid rfl, rfl, Lib.hid (by have := HL2.out; omega), by have := HL2.out; have := HZ.out; unfold zpad at this; omega, rfl, ?_, HBl2.out.trans (((Below.refl _ _).alloc hsz _).trans hbel3)⟩
     have h1 := pad_len b z (7 - m) n (by omega)
     rw [show 7 - (7 - m) = m from by omega, show 7 - m + 1 = 8 - m from by omega] at h1
     rw [← h1, List.map_append, show 7 - m = 8 - (m + 1) from by omega]
     exact hown3
    | zero =>
     have hd : decide ((0 : Int) ≤ iv) = false := by have := HK.out; simp; omega
     have hPS : Hid (Go.Adm.Own wr (w.heap.size + 1) 5 1 A' L c' ((padS b).map bv)) := Lib.hid (by have := HO2.out; rw [List.take_of_length_le (by rw [lenBytes_len]; omega), HZ.out] at this; unfold padS; rw [HBL.out]; exact this)
     have hPL : Hid (L = 64 * (n / 64 + tailEnd (n % 64) / 64)) := Lib.hid (by have h1 := padS_len b; rw [HBL.out] at h1; rw [← h1]; have h2 := hPS.out.1; rw [List.length_map] at h2; omega)
     have hcap := hPS.out.cap
     have hcap1 := hcap.1
     have hinf : (Try.prog.info? 102).map (·.size) = some (initS.list.map uv).length := by kernel_rfl
     have HINF := Lib.hid hinf
     clear hinf hcap HO HBl HO2 HK
     obtain ⟨wp, hwp⟩ : ∃ x, x = wr := ⟨_, rfl⟩
     subst hwp
     go_wp2_with (refine wl_store_all rfl 102 (.tmp 6) _ rfl wp.heap.size _ _ (initS.list.map uv) rfl (congrArg Value.agg init_vals) (Cells.new' _ _ _ rfl rfl) rfl HINF.out (uv_one _) ?_; intro w4 hc4 hg4 hs4)
     have hb4 : Below wp.heap.size wp w4 := ((Below.refl _ _).alloc (Nat.le_refl _) _).grown hg4 (by simp) (fun k hk => by injection hk with hk; omega)
     have q1 : Hid (Rd w4 wp.heap.size 1 A' L ((padS b).map bv)) := Lib.hid (hPS.out.rd.below hb4 (Nat.le_refl _))
     have q2 := Lib.hid hc4
     have q3 : Hid (Cells w4 w.heap.size 37 (List.replicate 32 (.int .u8 0))) := Lib.hid ((R0.out.below HBl2.out (by omega)).below hb4 (by omega))
     have q4 : Hid (Below w.heap.size w w4) := Lib.hid ((R1.out.trans (HBl2.out.mono (by omega))).trans (hb4.mono (by omega)))
     have q5 : wp.heap.size < w4.heap.size := hc4.lt
     clear hb4 hc4 hg4 hs4 hPS
     go_loopw [7] (fun i wv => ∃ k a : Nat, a ≤ L ∧ i = .int .i64 a ∧ Hid (a = 64 * k) ∧ Rd wv wp.heap.size 1 A' L ((padS b).map bv) ∧ Cells wv wp.heap.size 102 ((absN initS (padS b) k).list.map uv) ∧ Cells wv w.heap.size 37 (List.replicate 32 (.int .u8 0)) ∧ Below w.heap.size w wv ∧ wp.heap.size < wv.heap.size) (fun i _ => L - (intOf i).toNat)
     case atStart => exact ⟨0, 0, by omega, rfl, Lib.hid rfl, q1.out, q2.out, q3.out, q4.out, q5⟩
     case round =>
      obtain ⟨k, a, hk, rfl, HA, h1, h2, h3, h4, h5⟩ := hrel
      have O1 := Lib.hid h1
      have O2 := Lib.hid h2
      have O3 := Lib.hid h3
      have O4 := Lib.hid h4
      clear h1 h2 h3 h4 q1 q2 q3 q4
      by_cases hlt : a < L
      ·have ha64 : a + 64 ≤ L := by have := HA.out; have := hPL.out; omega
       have hrd : Rd wr wp.heap.size 1 (A'.map (·.add a)) 64 ((blk (padS b) k).map bv) := by
        have h1 := (O1.out.cut (k := a) (cap := c') (by omega) hcap1).take (k := 64) (by omega)
        rw [Nat.mul_one, Nat.mul_one, ← List.map_drop, ← List.map_take, if_neg (by omega)] at h1
        rw [blk, ← HA.out]
        exact h1
       have HRD := Lib.hid hrd
       have hin8 : (Try.prog.info? 102).map (·.size) = some ((absN initS (padS b) k).list.map uv).length := by kernel_rfl
       have HIN8 := Lib.hid hin8
       clear hrd hin8
       go_wp2
       have wa : IntKind.i64.wrap ((a : Int) + 64) = (a : Int) + 64 := IntWalk.i64_in _ (by omega)
       have wb : (0 : Int) ≤ (a : Int) + 64 := by omega
       have wc : (a : Int) + 64 ≤ (c' : Int) := by omega
       have wd : ((a : Int) + 64).toNat = a + 64 := by omega
       refine wp_region_still_tail 6 (by kernel_rfl) (by kernel_rfl) ?_
       simp only [List.take_succ_cons, List.take_zero, List.drop_succ_cons, List.drop_zero]
       refine still_load_all rfl 102 _ rfl wp.heap.size 0 rfl ((absN initS (padS b) k).list.map uv) _ (O2.out.drew).range Try.underlying102 rfl HIN8.out ?_
       repeat still_step
       refine wpStill_nil ?_
       change wpList _ _ _ _ _ wr.drew
       clear wa wb wc wd
       have r1 := Lib.hid O1.out.drew
       have r2 := Lib.hid O2.out.drew
       have r3 := Lib.hid O3.out.drew
       have r4 : Hid (Below w.heap.size w wr.drew) := Lib.hid (below_drewN' O4.out 1)
       have r5 : Hid (Rd wr.drew wp.heap.size 1 (A'.map (·.add a)) 64 ((blk (padS b) k).map bv)) := Lib.hid HRD.out.drew
       have r6 : wp.heap.size < wr.drew.heap.size := h5
       generalize wr.drew = wd at *
       go_wp2_with fail
       refine (block_any wd wp.heap.size _ _ (blk (padS b) k) (absN initS (padS b) k) r5.out (by omega)).mono ?_
       rintro e w5 ⟨rfl, hb5⟩
       have s1 := Lib.hid (r1.out.below hb5 (by omega))
       have s2 := Lib.hid (r2.out.below hb5 r6)
       have s3 := Lib.hid (r3.out.below hb5 (by omega))
       have s4 := Lib.hid (r4.out.trans (hb5.mono (by omega)))
       have s5 := hb5.size
       clear hb5
       have hsn : absN initS (padS b) (k + 1) = absorbS KS (absN initS (padS b) k) (blk (padS b) k) := by rw [absN]
       generalize absorbS KS (absN initS (padS b) k) (blk (padS b) k) = sn at *
       generalize absN initS (padS b) k = so at *
       have HSN := Lib.hid hsn
       clear hsn
       go_wp2_with (refine wl_store_all rfl 102 (.tmp 6) _ rfl wp.heap.size _ _ (sn.list.map uv) rfl rfl s2.out (by rw [List.length_map, List.length_map, S8.list_len, S8.list_len]) (by rw [List.length_map, S8.list_len]; kernel_rfl) (uv_one _) ?_; intro w6 hc6 hg6 hs6)
       go_roundw
       case measure => simp [intOf]; omega
       exact ⟨k + 1, a + 64, ha64, by go_num, Lib.hid (by have := HA.out; omega), s1.out.keep (fun p hp => hg6.cell_far p (by omega) (by simp; omega)), by rw [HSN.out]; exact hc6, s3.out.grown hg6 (by simp; omega), s4.out.grown hg6 (by omega) (fun k hk => by injection hk with hk; omega), by omega⟩
      ·have hkL : k = n / 64 + tailEnd (n % 64) / 64 := by have := HA.out; have := hPL.out; omega
       have U1 : Hid (Cells wr wp.heap.size 102 ((stateS b).list.map uv)) := Lib.hid (by have h1 := O2.out; have h2 := stateS_pad b; rw [HBL.out] at h2; rw [hkL, h2] at h1; exact h1)
       clear hkL O2 O1
       go_wp2
       obtain ⟨wq, hwq⟩ : ∃ x, x = wr := ⟨_, rfl⟩
       subst hwq
       go_loopw [9] (fun i wv => ∃ k : Nat, k ≤ 32 ∧ i = .int .i64 k ∧ Cells wv wq.heap.size 37 ((digT (stateS b) k).map bv) ∧ Below wq.heap.size wq wv) (fun i _ => 32 - (intOf i).toNat)
       case atStart => exact ⟨0, by omega, rfl, Cells.new' _ _ _ rfl (by rw [digT_zero]; rfl), (Below.refl _ _).alloc (Nat.le_refl _) _⟩
       case round =>
        obtain ⟨j, hj, rfl, hC2, hG2⟩ := hrel
        have S0 := Lib.hid hC2
        have SG := Lib.hid hG2
        clear hC2 hG2
        by_cases hlj : j < 32
        ·have lc := (U1.out.below SG.out (by omega)).cellD (i := j / 4) (d := uv 0) (by rw [List.length_map, S8.list_len]; omega)
         rw [getD_uv] at lc
         obtain ⟨x, hx⟩ : ∃ x, (stateS b).list.getD (j / 4) 0 = x := ⟨_, rfl⟩
         rw [hx] at lc
         have lc2 : wr.cell? ⟨wp.heap.size, j / 4, none⟩ = some (.int .u32 x.toNat) := lc
         have HX := Lib.hid hx
         clear lc hx
         have fq := S0.out.frozen j
         have cq := S0.out.cellD (i := j) (d := undef) (by rw [List.length_map, digT_len _ _ hj]; omega)
         go_wp2
         exact ⟨⟨j + 1, by omega, by go_num, dig_step HX.out S0.out hlj, SG.out.setCell (p := ⟨wq.heap.size, j, none⟩) (Nat.le_refl _) _⟩, by simp [intOf]; omega⟩
        ·have hj32 : j = 32 := by omega
         have HDG : Hid (digT (stateS b) j = shaS b) := Lib.hid (by rw [hj32, digT_all]; rfl)
         have T0 : Hid (Cells wr wq.heap.size 37 ((shaS b).map bv)) := Lib.hid (by rw [← HDG.out]; exact S0.out)
         have T1 := Lib.hid ((O3.out.below SG.out (by omega)))
         have T2 := Lib.hid (O4.out.trans (SG.out.mono (by omega)))
         have hlen : ((shaS b).map bv).length = 32 := by rw [List.length_map, shaS_len]
         have hin : (Try.prog.info? 37).map (·.size) = some ((shaS b).map bv).length := by rw [hlen]; kernel_rfl
         have HIN := Lib.hid hin
         have HLEN := Lib.hid hlen
         clear hin hlen hj32
         go_wp2_with (first | (refine wpList_load_mid rfl 37 _ rfl wq.heap.size 0 rfl ((shaS b).map bv) _ T0.out.range Try.underlying37 rfl (by rw [HLEN.out]; kernel_rfl) ?_) | (refine wl_store_all rfl 37 _ _ rfl w.heap.size _ _ ((shaS b).map bv) rfl rfl T1.out (by rw [HLEN.out]; rfl) HIN.out (bv_one _) ?_; intro w9 hc9 hg9 hs9))
         refine bodyPost_ret (v := .agg ((shaS b).map bv).toArray) ?_ rfl ⟨rfl, T2.out.grown hg9 (by have := T1.out.lt; omega) (fun k hk => by injection hk with hk; omega)⟩
         exact results_cell_row rfl _ _ w.heap.size 37 ((shaS b).map bv).toArray (0, 0) _ rfl hc9 Try.underlying37 rfl (by rw [List.size_toArray]; exact HIN.out)
  ·have hz1 : z + 1 ≤ zpad n := by have := HL.out; unfold zpad at hz ⊢; omega
   go_wp2_with (at_builtin; refine wl_app _ els_u8 rfl (.tmp 19) _ rfl (w.heap.size + 1) _ _ _ _ rfl (HO.out.alloc _) (wr.heap.size + 1) _ 1 1 [bv 0] rfl (Rd.lit wr _ _ 1 rfl) (bv_one [0]) (by omega) (by simp; omega) ?_; intro A3 c3 w3 hown3 hbel3 _)
   refine ⟨⟨z + 1, L + 1, A3, c3, hz1, by rw [HL.out]; omega, rfl, ?_, HBl.out.trans (((Below.refl _ _).alloc hsz _).trans hbel3)⟩, by have := HL.out; simp [lenOf]; omega⟩
   rw [← pad_zero, List.map_append]
   exact hown3
end Go.Proofs.Ytfakjamocpamiaa
