/- SHA-256: the whole function, as the program computes it. SHA-256: the padded message. -/
import Derived.Test.YtlnbeglelhdjfaaGen3
import Derived.Test.YtlnbeglelhdjfaaGen1
set_option linter.unusedSimpArgs false
set_option linter.unusedVariables false
namespace Go.Adm
open Go Go.RowKit

def initS : S8 := ⟨1779033703, 3144134277, 1013904242, 2773480762, 1359893119, 2600822924, 528734635, 1541459225⟩
def blk (l : List UInt8) (n : Nat) : List UInt8 := (l.drop (64 * n)).take 64
def absN (s : S8) (l : List UInt8) : Nat → S8
  | 0 => s
  | n + 1 => absorbS KS (absN s l n) (blk l n)
/-- eight bytes of a number, the most significant one first, as far as i of them are known from the end -/
def lenByte (n i : Nat) : UInt8 := UInt8.ofNat (n * 8 / 2 ^ (8 * i))
def lenBytes (n : Nat) : List UInt8 := [lenByte n 7, lenByte n 6, lenByte n 5, lenByte n 4, lenByte n 3, lenByte n 2, lenByte n 1, lenByte n 0]
def tailEnd (r : Nat) : Nat := if 56 ≤ r then 128 else 64
def tailS (b : List UInt8) : List UInt8 :=
  b.drop (64 * (b.length / 64)) ++ 128 :: (List.replicate (tailEnd (b.length % 64) - 9 - b.length % 64) 0 ++ lenBytes b.length)
def stateS (b : List UInt8) : S8 := absN (absN initS b (b.length / 64)) (tailS b) (tailEnd (b.length % 64) / 64)
def digByte (s : S8) (i : Nat) : UInt8 := UInt8.ofNat ((s.list.getD (i / 4) 0).toNat / 2 ^ (24 - 8 * (i % 4)))
def digS (s : S8) : List UInt8 := (List.range 32).map (digByte s)
def shaS (b : List UInt8) : List UInt8 := digS (stateS b)
theorem digS_len (s : S8) : (digS s).length = 32 := by simp [digS]
theorem shaS_len (b : List UInt8) : (shaS b).length = 32 := digS_len _
theorem lenBytes_len (n : Nat) : (lenBytes n).length = 8 := rfl
theorem tailS_len (b : List UInt8) : (tailS b).length = tailEnd (b.length % 64) := by
  have h1 : b.length % 64 < 64 := Nat.mod_lt _ (by decide)
  have h2 : b.length - 64 * (b.length / 64) = b.length % 64 := by omega
  simp only [tailS, List.length_append, List.length_drop, List.length_cons, List.length_replicate, lenBytes_len, h2]
  unfold tailEnd
  split <;> omega
theorem blk_len (l : List UInt8) (n : Nat) (h : 64 * n + 64 ≤ l.length) : (blk l n).length = 64 := by simp [blk]; omega
/-- the tail's 128 bytes when i bytes of the length are written -/
def tailT (r : List UInt8) (E n i : Nat) : List UInt8 := r ++ 128 :: (List.replicate (E - 1 - r.length - i) 0 ++ ((lenBytes n).drop (8 - i) ++ List.replicate (128 - E) 0))
theorem set_mid {α : Type} (r X : List α) (a z v : α) (k : Nat) : (r ++ a :: (List.replicate (k + 1) z ++ X)).set (r.length + 1 + k) v = r ++ a :: (List.replicate k z ++ v :: X) := by
  rw [List.set_append_right _ _ (by omega), show r.length + 1 + k - r.length = k + 1 from by omega, List.set_cons_succ]
  congr 2
  rw [List.replicate_succ', List.append_assoc, List.set_append_right _ _ (by simp)]
  simp
theorem lenBytes_drop (n i : Nat) (h : i < 8) : (lenBytes n).drop (8 - (i + 1)) = lenByte n i :: (lenBytes n).drop (8 - i) := by
  match i, h with
  | 0, _ => rfl
  | 1, _ => rfl
  | 2, _ => rfl
  | 3, _ => rfl
  | 4, _ => rfl
  | 5, _ => rfl
  | 6, _ => rfl
  | 7, _ => rfl
theorem tailT_set (r : List UInt8) (E n i : Nat) (h : i < 8) (hE : r.length + 9 ≤ E) : (tailT r E n i).set (E - 1 - i) (lenByte n i) = tailT r E n (i + 1) := by
  unfold tailT
  obtain ⟨k, hk⟩ : ∃ k, E - 1 - r.length - i = k + 1 := ⟨E - 1 - r.length - i - 1, by omega⟩
  rw [hk, show E - 1 - i = r.length + 1 + k from by omega, set_mid, lenBytes_drop n i h, show E - 1 - r.length - (i + 1) = k from by omega]
  rfl
theorem tailT_len (r : List UInt8) (E n i : Nat) (h : i ≤ 8) (hE : r.length + 9 ≤ E) (hE2 : E ≤ 128) : (tailT r E n i).length = 128 := by
  simp [tailT, lenBytes_len]; omega
theorem tailT_start (r : List UInt8) (E n : Nat) (h1 : r.length + 9 ≤ E) (h2 : E ≤ 128) :
    ((((List.replicate 128 (Value.int .u8 0)).take 0) ++ (r.map bv ++ (List.replicate 128 (Value.int .u8 0)).drop (0 + r.length))).set r.length (Value.int .u8 128)) = (tailT r E n 0).map bv := by
  have e0 : bv 0 = .int .u8 0 := rfl
  have e1 : bv 128 = .int .u8 128 := rfl
  unfold tailT
  rw [List.take_zero, List.nil_append, Nat.zero_add, List.set_append_right _ _ (by simp), List.length_map, Nat.sub_self, List.drop_replicate, show 128 - r.length = (E - 1 - r.length - 0) + (128 - E) + 1 from by omega, List.replicate_succ, List.set_cons_zero, List.replicate_append_replicate.symm]
  simp [lenBytes, e0, e1]
theorem lenByte_eq (n i : Nat) : IntKind.u8.wrap ((n : Int) * 8 / 2 ^ (8 * i)) = ((lenByte n i).toNat : Int) := by
  unfold lenByte
  rw [IntKind.wrap_u8', UInt8.toNat_ofNat']
  have : ((n : Int) * 8 / 2 ^ (8 * i)) = ((n * 8 / 2 ^ (8 * i) : Nat) : Int) := by simp
  rw [this]
  omega
theorem lenByte_mod (n i : Nat) : (n : Int) * 8 / 2 ^ (8 * i) % 256 = ((lenByte n i).toNat : Int) := by rw [← lenByte_eq, IntKind.wrap_u8']
theorem tail_step {w : World} {g : Nat} {t : TypeId} {r : List UInt8} {E n k j : Nat} (h : Cells w g t ((tailT r E n k).map bv)) (hk : k < 8) (hE : r.length + 9 ≤ E) (hj : j = E - 1 - k) :
    Cells (w.setCell ⟨g, j, none⟩ (.int .u8 ((n : Int) * 8 / 2 ^ (8 * k) % 256))) g t ((tailT r E n (k + 1)).map bv) := by
  subst hj
  rw [lenByte_mod, ← tailT_set r E n k hk hE, List.map_set]
  exact h.store _ _
theorem tailT_all (b : List UInt8) (n : Nat) (hn : b.length = n) : tailT (b.drop (64 * (n / 64))) (tailEnd (n % 64)) n 8 = tailS b ++ List.replicate (128 - tailEnd (n % 64)) 0 := by
  subst hn
  have h1 : b.length % 64 < 64 := Nat.mod_lt _ (by decide)
  have h2 : (b.drop (64 * (b.length / 64))).length = b.length % 64 := by rw [List.length_drop]; omega
  unfold tailT tailS
  rw [h2, Nat.sub_self, List.drop_zero, show tailEnd (b.length % 64) - 1 - b.length % 64 - 8 = tailEnd (b.length % 64) - 9 - b.length % 64 from by omega]
  simp
theorem blk_append (l x : List UInt8) (j : Nat) (h : 64 * j + 64 ≤ l.length) : blk (l ++ x) j = blk l j := by
  unfold blk
  rw [List.drop_append_of_le_length (by omega), List.take_append_of_le_length (by rw [List.length_drop]; omega)]
theorem absN_append (s : S8) (l x : List UInt8) : ∀ j, 64 * j ≤ l.length → absN s (l ++ x) j = absN s l j
  | 0, _ => rfl
  | j + 1, h => by rw [absN, absN, absN_append s l x j (by omega), blk_append l x j (by omega)]
theorem stateS_of (b : List UInt8) (n m : Nat) (hn : b.length = n) (hm : m = n / 64) :
    absN (absN initS b m) (tailT (b.drop (64 * m)) (tailEnd (n % 64)) n 8) (tailEnd (n % 64) / 64) = stateS b := by
  subst hm
  rw [tailT_all b n hn, absN_append, stateS, hn]
  rw [tailS_len, hn]
  exact Nat.mul_div_le _ _
/-- the digest when k of its bytes are written -/
def digT (s : S8) (k : Nat) : List UInt8 := (digS s).take k ++ List.replicate (32 - k) 0
theorem digT_len (s : S8) (k : Nat) (h : k ≤ 32) : (digT s k).length = 32 := by simp [digT, digS_len]; omega
theorem digT_zero (s : S8) : (digT s 0).map bv = List.replicate 32 (.int .u8 0) := by rfl
theorem digT_all (s : S8) : digT s 32 = digS s := by simp [digT]; rw [List.take_of_length_le]; rw [digS_len]; omega
theorem digT_set (s : S8) (k : Nat) (h : k < 32) : (digT s k).set k (digByte s k) = digT s (k + 1) := by
  unfold digT
  rw [List.set_append_right _ _ (by simp [digS_len]; omega), List.length_take, digS_len, show min k 32 = k from by omega, Nat.sub_self, show 32 - k = (32 - (k + 1)) + 1 from by omega, List.replicate_succ, List.set_cons_zero, List.take_succ_eq_append_getElem (by rw [digS_len]; omega)]
  simp [digS]
theorem dig_step {w : World} {g : Nat} {t : TypeId} {s : S8} {k : Nat} {x : UInt32} (hx : s.list.getD (k / 4) 0 = x) (h : Cells w g t ((digT s k).map bv)) (hk : k < 32) :
    Cells (w.setCell ⟨g, k, none⟩ (.int .u8 ((x.toNat : Int) / 2 ^ (24 - 8 * (k % 4)) % 256))) g t ((digT s (k + 1)).map bv) := by
  have e : (x.toNat : Int) / 2 ^ (24 - 8 * (k % 4)) % 256 = ((digByte s k).toNat : Int) := by
    unfold digByte
    rw [hx, UInt8.toNat_ofNat']
    simp
  rw [e, ← digT_set s k hk, List.map_set]
  exact h.store _ _
theorem getD_uv (l : List UInt32) (i : Nat) : (l.map uv).getD i (uv 0) = uv (l.getD i 0) := by
  simp only [List.getD, List.getElem?_map]
  cases l[i]? <;> rfl
end Go.Adm
namespace Go.Adm
open Go Go.RowKit

def zpad (n : Nat) : Nat := (119 - n % 64) % 64
def padS (b : List UInt8) : List UInt8 := b ++ 128 :: (List.replicate (zpad b.length) 0 ++ lenBytes b.length)
theorem zpad_eq (n : Nat) : zpad n = tailEnd (n % 64) - 9 - n % 64 := by
  have h1 : n % 64 < 64 := Nat.mod_lt _ (by decide)
  unfold zpad tailEnd
  split <;> omega
theorem padS_eq (b : List UInt8) : padS b = b.take (64 * (b.length / 64)) ++ tailS b := by
  unfold padS tailS
  rw [← List.append_assoc, List.take_append_drop, zpad_eq]
theorem blk_append_right (x y : List UInt8) (p q : Nat) (h : x.length = 64 * p) : blk (x ++ y) (p + q) = blk y q := by
  unfold blk
  rw [List.drop_append, List.drop_of_length_le (by omega), List.nil_append, show 64 * (p + q) - x.length = 64 * q from by omega]
theorem absN_append_right (s : S8) (x y : List UInt8) (p : Nat) (h : x.length = 64 * p) : ∀ q, absN s (x ++ y) (p + q) = absN (absN s x p) y q
  | 0 => by rw [Nat.add_zero, absN_append s x y p (by omega)]; rfl
  | q + 1 => by rw [← Nat.add_assoc, absN, absN, absN_append_right s x y p h q, blk_append_right x y p q h]
theorem padS_len (b : List UInt8) : (padS b).length = 64 * (b.length / 64 + tailEnd (b.length % 64) / 64) := by
  rw [padS_eq, List.length_append, tailS_len, List.length_take]
  unfold tailEnd
  split <;> omega
theorem stateS_pad (b : List UInt8) : absN initS (padS b) (b.length / 64 + tailEnd (b.length % 64) / 64) = stateS b := by
  have h : (b.take (64 * (b.length / 64))).length = 64 * (b.length / 64) := by rw [List.length_take]; omega
  have h2 : absN initS b (b.length / 64) = absN initS (b.take (64 * (b.length / 64))) (b.length / 64) := by
    have h3 := absN_append initS (b.take (64 * (b.length / 64))) (b.drop (64 * (b.length / 64))) (b.length / 64) (by omega)
    rw [List.take_append_drop] at h3
    exact h3
  rw [padS_eq, absN_append_right _ _ _ _ h, stateS, h2]
theorem pad_zero (b : List UInt8) (z : Nat) : (b ++ 128 :: List.replicate z 0) ++ [0] = b ++ 128 :: List.replicate (z + 1) 0 := by
  rw [List.replicate_succ']; simp
theorem pad_len (b : List UInt8) (z j n : Nat) (hj : j < 8) : (b ++ 128 :: (List.replicate z 0 ++ (lenBytes n).take j)) ++ [lenByte n (7 - j)] = b ++ 128 :: (List.replicate z 0 ++ (lenBytes n).take (j + 1)) := by
  have : (lenBytes n).take (j + 1) = (lenBytes n).take j ++ [lenByte n (7 - j)] := by
    match j, hj with
    | 0, _ => rfl
    | 1, _ => rfl
    | 2, _ => rfl
    | 3, _ => rfl
    | 4, _ => rfl
    | 5, _ => rfl
    | 6, _ => rfl
    | 7, _ => rfl
  rw [this]; simp
end Go.Adm
