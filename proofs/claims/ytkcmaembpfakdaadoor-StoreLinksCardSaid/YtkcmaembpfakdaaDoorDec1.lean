/- A byte found in bytes; bytes cut at the first such byte: the library's functions at a separator of one byte. -/
import Derived.Test.YtkcmaembpfakdaaDoorGen1
import Derived.Test.YtkcmaembpfakdaaDoorDecS
import Derived.Lib.BytesEntry
import Derived.IntWalk
import Derived.Deep.QuietTactic
import Derived.BigQuiet
set_option linter.unusedSimpArgs false
set_option linter.unusedVariables false
set_option maxRecDepth 100000
namespace Go.Adm
open Go Go.RowKit
theorem bytesOf_nat' (x : List UInt8) : Lib.bytesOf (x.map fun b => (b.toNat : Int)) = x := by
  unfold Lib.bytesOf
  rw [List.map_map]
  conv => rhs; rw [← List.map_id x]
  apply List.map_congr_left
  intro b _
  simp
theorem run_loadB {P : Program} {w : World} {d : Addr} {z : List UInt8} (h : ∀ j u, (z.map bv)[j]? = some u → w.cell? (d.add j) = some u) : (Extern.Bytes.loadBytes d z.length .empty).run P w = .ok ⟨z.toArray⟩ w := by
  have h1 := Lib.run_loadBytesX (P := P) w (z.map fun b => (b.toNat : Int)) d .empty (fun j u hu => by
    refine h j _ ?_
    rw [List.getElem?_map] at hu ⊢
    cases hz : z[j]? with
    | none => rw [hz] at hu; cases hu
    | some v => rw [hz] at hu; injection hu with hu; rw [← hu]; rfl)
  rw [List.length_map, bytesOf_nat'] at h1
  rw [h1]
  congr 1
  apply ByteArray.ext
  show (#[] : Array UInt8) ++ z.toArray = z.toArray
  simp
theorem run_ixByte {P : Program} {w : World} {B n c : Nat} {A : Option Addr} {l : List UInt8} (h : Rd w B 1 A n (l.map bv)) (x : UInt8) : (Extern.BytealgIndexByte.indexByte #[.slice A n c, .int .u8 x.toNat]).run P w = .ok (.int .i64 (Lib.indexByte l x)) w := by
  have hl : l.length = n := by simpa using h.len
  subst hl
  have hx : ((x.toNat : Int)).toNat.toUInt8 = x := by simp
  cases A with
  | none =>
    have h0 : l = [] := by
      cases l with
      | nil => rfl
      | cons y r => obtain ⟨ad, e, _⟩ := h.at_ (by simp); cases e
    subst h0
    exact Lib.run_indexByteNil w _ _ _
  | some a =>
    have hc : ∀ j u, (l.map bv)[j]? = some u → w.cell? (a.add j) = some u := by
      rcases Nat.eq_zero_or_pos l.length with h0 | h0
      · have : l = [] := List.eq_nil_of_length_eq_zero h0
        subst this
        intro j u hu; simp at hu
      · obtain ⟨ad, e, _, hc⟩ := h.at_ h0
        injection e with e; subst e; exact hc
    have hb := run_loadB (P := P) hc
    have hs := Lib.run_indexByteString (P := P) ⟨l.toArray⟩ (x.toNat : Int) w
    rw [hx] at hs
    change Sem.run P (do
      let b ← Extern.Bytes.bytesOf (.slice (some a) l.length c)
      let c ← Extern.Bytes.asByte (.int .u8 x.toNat)
      match (List.range b.size).find? fun i => b[i]! == c with
      | some i => pure (goInt i)
      | none => pure (goInt (-1))) w = _
    change Sem.run P (do
      let b ← Extern.Bytes.bytesOf (.string ⟨l.toArray⟩)
      let c ← Extern.Bytes.asByte (.int .u8 x.toNat)
      match (List.range b.size).find? fun i => b[i]! == c with
      | some i => pure (goInt i)
      | none => pure (goInt (-1))) w = _ at hs
    simp only [Extern.Bytes.bytesOf, Sem.run_bind, Sem.run_pure, hb, Result.andThen] at hs ⊢
    exact hs
theorem ix_none {c : UInt8} : ∀ {l : List UInt8}, c ∉ l → Lib.indexByte l c = -1
  | [], _ => rfl
  | x :: l, h => by
    rw [List.mem_cons] at h
    have h1 : (x == c) = false := by
      rw [beq_eq_false_iff_ne]
      intro e; exact h (Or.inl e.symm)
    rw [Lib.indexByte, if_neg (by rw [h1]; decide), ix_none (fun hm => h (Or.inr hm))]
    rfl
theorem ix_some {c : UInt8} : ∀ {l : List UInt8}, c ∈ l → ∃ i : Nat, Lib.indexByte l c = i ∧ i < l.length ∧ c ∉ l.take i ∧ l = l.take i ++ c :: l.drop (i + 1)
  | x :: l, h => by
    by_cases e : x = c
    · subst e
      exact ⟨0, by rw [Lib.indexByte, if_pos (by simp)]; rfl, by simp, by simp, by simp⟩
    · have hm : c ∈ l := by
        rcases List.mem_cons.1 h with h | h
        · exact absurd h.symm e
        · exact h
      obtain ⟨i, h1, h2, h3, h4⟩ := ix_some hm
      have hb : (x == c) = false := by rw [beq_eq_false_iff_ne]; exact e
      refine ⟨i + 1, ?_, by simp; omega, ?_, ?_⟩
      · rw [Lib.indexByte, if_neg (by rw [hb]; decide), h1]
        have : ((i : Int) == -1) = false := by rw [beq_eq_false_iff_ne]; omega
        rw [if_neg (by rw [this]; decide)]
        omega
      · rw [List.take_succ_cons, List.mem_cons]
        rintro (h | h)
        · exact e h.symm
        · exact h3 h
      · rw [List.take_succ_cons, List.drop_succ_cons]
        show x :: l = x :: (l.take i ++ c :: l.drop (i + 1))
        rw [← h4]
end Go.Adm
namespace Go.Proofs.YtkcmaembpfakdaaDoor
open Go Go.RowKit Go.Adm

theorem bytesIndexByte_any (w : World) (B n c : Nat) (A : Option Addr) (l : List UInt8) (x : UInt8) (h : Rd w B 1 A n (l.map bv)) :
    Calls Tryd.prog 54 #[.slice A n c, .int .u8 x.toNat] w fun e w' => e = .returned (.int .i64 (Lib.indexByte l x)) ∧ w = w' := by
  have hrun := run_ixByte (P := Tryd.prog) (c := c) h x
  clear h
  go_enter Tryd.func54, Tryd.ntmps54
  go_wp2_with fail
  rw [run_callFunc_extern Tryd.func68 (by kernel_rfl) (by kernel_rfl) (by kernel_rfl) (e := Extern.BytealgIndexByte.indexByte) (by kernel_rfl), hrun]
  simp only [Result.andThen]
  rw [Oper.upon_value]
  go_wp2
  go_ret
  exact ⟨rfl, rfl⟩

theorem bytesIndex1_any (w : World) (B n c c1 : Nat) (A : Option Addr) (a1 : Addr) (l : List UInt8) (x : UInt8) (h : Rd w B 1 A n (l.map bv)) (hx : w.cell? a1 = some (bv x)) :
    Calls Tryd.prog 42 #[.slice A n c, .slice (some a1) 1 c1] w fun e w' => e = .returned (.int .i64 (Lib.indexByte l x)) ∧ w = w' := by
  have hib := bytesIndexByte_any w B n c A l x h
  have hx' : w.cell? a1 = some (.int .u8 x.toNat) := hx
  clear h hx
  go_enter Tryd.func42, Tryd.ntmps42
  go_wp2_with fail
  refine hib.mono ?_
  clear hib
  rintro e w1 ⟨rfl, rfl⟩
  go_wp2_with fail
  go_ret
  exact ⟨rfl, rfl⟩

theorem bytesCut1_none (w : World) (B n c c1 : Nat) (A : Option Addr) (a1 : Addr) (l : List UInt8) (x : UInt8) (h : Rd w B 1 A n (l.map bv)) (hx : w.cell? a1 = some (bv x)) (hm : x ∉ l) :
    Calls Tryd.prog 26 #[.slice A n c, .slice (some a1) 1 c1] w fun e w' => e = .returned (.tuple #[.slice A n c, .slice none 0 0, .bool false]) ∧ ∃ k, w' = w.drewN k := by
  have hib := bytesIndex1_any w B n c c1 A a1 l x h hx
  rw [ix_none hm] at hib
  clear h hx hm
  go_enter Tryd.func26, Tryd.ntmps26
  go_wp2_with fail
  refine hib.mono ?_
  clear hib
  rintro e w1 ⟨rfl, rfl⟩
  go_wp2_with fail
  refine bodyPost_ret (v := .tuple #[.slice A n c, .slice none 0 0, .bool false]) (by simp [results, Tryd.results26, go_sem]) rfl ⟨rfl, 0, rfl⟩
theorem bytesCut1_some (w : World) (B n c c1 i : Nat) (A : Option Addr) (a1 : Addr) (l : List UInt8) (x : UInt8) (h : Rd w B 1 A n (l.map bv)) (hx : w.cell? a1 = some (bv x)) (hi : Lib.indexByte l x = i) (hin : i < n) (hnc : n ≤ c) (hcm : c ≤ maxLen) :
    Calls Tryd.prog 26 #[.slice A n c, .slice (some a1) 1 c1] w fun e w' => ∃ A2 c2, e = .returned (.tuple #[.slice A i c, .slice A2 (n - (i + 1)) c2, .bool true]) ∧ n - (i + 1) ≤ c2 ∧ c2 ≤ c ∧ Rd w B 1 A i ((l.take i).map bv) ∧ Rd w B 1 A2 (n - (i + 1)) ((l.drop (i + 1)).map bv) ∧ ∃ k, w' = w.drewN k := by
  have hib := bytesIndex1_any w B n c c1 A a1 l x h hx
  rw [hi] at hib
  have hcm' : c ≤ 9223372036854775807 := hcm
  have H := Lib.hid h
  clear h hx hi hcm
  go_enter Tryd.func26, Tryd.ntmps26
  go_wp2_with fail
  refine hib.mono ?_
  clear hib
  rintro e w1 ⟨rfl, rfl⟩
  have i0 : (0 : Int) ≤ (i : Int) := by omega
  have i1 : (i : Int) ≤ (n : Int) := by omega
  have i2 : (i : Int) ≤ (c : Int) := by omega
  have i3 : ((i : Int)).toNat = i := by omega
  have w1 : IntKind.i64.wrap ((i : Int) + 1) = (i : Int) + 1 := by rw [IntWalk.i64_in _ (by omega)]
  have i4 : (0 : Int) ≤ (i : Int) + 1 := by omega
  have i5 : (i : Int) + 1 ≤ (n : Int) := by omega
  have i6 : ((i : Int) + 1).toNat = i + 1 := by omega
  obtain ⟨ad, rfl, -, -⟩ := H.out.at_ (by omega)
  have HE : Hid (ad.add (i + 1) = ⟨ad.block, ad.off + (i + 1), none⟩) := Lib.hid rfl
  by_cases hci : c = i + 1
  · have hni : n = i + 1 := by omega
    subst hci
    obtain rfl : n = i + 1 := hni
    go_wp2_with fail
    go_quiet (fail)
    go_wp2
    refine bodyPost_ret (v := .tuple #[.slice (some ad) i (i + 1), .slice (some ad) 0 0, .bool true]) (by simp [results, Tryd.results26, go_sem]) rfl ⟨some ad, 0, by simp, by omega, by omega, H.out.take (k := i) (by omega) |> fun h => by simpa [List.map_take] using h, ?_, _, rfl⟩
    have h0 : (l.drop (i + 1)) = [] := List.drop_of_length_le (by have := H.out.len; simp at this; omega)
    rw [h0]
    simpa using (Rd.nil (w := w) (B := B) (size := 1) (A := some ad))
  · have hni : i + 1 < c := by omega
    have hci' : ¬ (c = i + 1) := hci
    go_wp2_with fail
    go_quiet (fail)
    go_wp2
    have hcut := H.out.cut (k := i + 1) (cap := c) (by omega) hnc
    rw [if_neg hci', Nat.mul_one] at hcut
    have hcut2 : Rd w B 1 (some ⟨ad.block, ad.off + (i + 1), none⟩) (n - (i + 1)) ((l.drop (i + 1)).map bv) := by rw [← HE.out, List.map_drop]; exact hcut
    have htk : Rd w B 1 (some ad) i ((l.take i).map bv) := by
      have := H.out.take (k := i) (by omega)
      rw [Nat.mul_one] at this
      rwa [List.map_take]
    refine bodyPost_ret (v := .tuple #[.slice (some ad) i c, .slice (some ⟨ad.block, ad.off + (i + 1), none⟩) (n - (i + 1)) (c - (i + 1)), .bool true]) (by simp [results, Tryd.results26, go_sem]) rfl ⟨_, _, rfl, by omega, by omega, htk, hcut2, _, rfl⟩
end Go.Proofs.YtkcmaembpfakdaaDoor
