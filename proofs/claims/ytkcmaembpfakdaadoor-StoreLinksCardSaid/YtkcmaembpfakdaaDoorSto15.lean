/- Lists of digests: Has and Add of the reference; Audit where nothing is wrong. -/
import Derived.Test.YtkcmaembpfakdaaDoorSto14
set_option linter.unusedSimpArgs false
set_option linter.unusedVariables false
set_option maxRecDepth 100000
namespace Go.Adm
open Go Go.RowKit
def dvs (xs : List (List UInt8)) : List (List Value) := xs.map fun x => x.map bv
theorem dvs_len (xs : List (List UInt8)) : (dvs xs).length = xs.length := List.length_map _
/-- a slice of digests -/
structure Digs (w : World) (B : Nat) (A : Option Addr) (n : Nat) (xs : List (List UInt8)) : Prop where
  els : Els w B 32 A n (dvs xs)
  each : ∀ x ∈ xs, x.length = 32
  len : xs.length = n
theorem Digs.keep {w w' : World} {B n : Nat} {A : Option Addr} {xs : List (List UInt8)} (h : Digs w B A n xs) (hk : ∀ p : Addr, p.block < B → w'.cell? p = w.cell? p) : Digs w' B A n xs := ⟨h.els.keep hk, h.each, h.len⟩
theorem Digs.mono {w : World} {B B' n : Nat} {A : Option Addr} {xs : List (List UInt8)} (h : Digs w B A n xs) (hB : B ≤ B') : Digs w B' A n xs := ⟨h.els.mono hB, h.each, h.len⟩
theorem Digs.nil {w : World} {B : Nat} : Digs w B none 0 [] := ⟨Els.nil, (fun x hx => by cases hx), rfl⟩
def Low.digs (B : Nat) (A : Option Addr) (n : Nat) (xs : List (List UInt8)) : Low := ⟨B, fun w => Digs w B A n xs, fun _ _ hk h => h.keep hk⟩
theorem Digs.elem {w : World} {B n : Nat} {A : Option Addr} {xs : List (List UInt8)} (h : Digs w B A n xs) {k : Nat} (hk : k < xs.length) :
    ∃ ad, A = some ad ∧ ad.block < B ∧ ∀ j u, (xs[k].map bv)[j]? = some u → w.cell? ((ad.add (k * 32)).add j) = some u := by
  obtain ⟨ad, e, hb, hc⟩ := h.els.at_ (k := k) (by rw [dvs_len]; exact hk)
  unfold dvs at hc
  rw [List.getElem_map] at hc
  exact ⟨ad, e, hb, hc⟩
def placeD (xs : List (List UInt8)) (d : List UInt8) : Nat := (xs.takeWhile fun x => lessD x d).length
theorem placeD_eq : ∀ {l : List (List UInt8)} {d : List UInt8} {k : Nat}, k ≤ l.length → (∀ p (hp : p < l.length), p < k → lessD l[p] d = true) → (∀ (hk : k < l.length), lessD l[k] d = false) → placeD l d = k
  | [], d, k, hk, _, _ => by
    have : k = 0 := by simpa using hk
    subst this; rfl
  | x :: l, d, 0, _, _, h => by
    have := h (by simp)
    unfold placeD
    rw [List.takeWhile_cons_of_neg (by simpa using this)]; rfl
  | x :: l, d, k + 1, hk, h1, h2 => by
    have h0 := h1 0 (by simp) (by omega)
    unfold placeD
    rw [List.takeWhile_cons_of_pos (by simpa using h0), List.length_cons]
    have := placeD_eq (l := l) (d := d) (k := k) (by simpa using hk) (fun p hp hpk => by have := h1 (p + 1) (by simpa using hp) (by omega); simpa using this) (fun hq => by have := h2 (by simpa using hq); simpa using this)
    unfold placeD at this
    rw [this]
theorem placeD_le (l : List (List UInt8)) (d : List UInt8) : placeD l d ≤ l.length := (List.takeWhile_prefix _).length_le
/-- an ascending list with one digest more -/
def addD (xs : List (List UInt8)) (d : List UInt8) : List (List UInt8) := if d ∈ xs then xs else xs.take (placeD xs d) ++ d :: xs.drop (placeD xs d)
theorem addD_len {xs : List (List UInt8)} {d : List UInt8} : (addD xs d).length ≤ xs.length + 1 := by
  unfold addD
  have := placeD_le xs d
  split
  · omega
  · rw [List.length_append, List.length_cons, List.length_take, List.length_drop]; omega
theorem addD_32 {xs : List (List UInt8)} {d : List UInt8} (h : ∀ x ∈ xs, x.length = 32) (hd : d.length = 32) : ∀ x ∈ addD xs d, x.length = 32 := by
  unfold addD
  intro x hx
  split at hx
  · exact h x hx
  · rcases List.mem_append.1 hx with h1 | h1
    · exact h x (List.mem_of_mem_take h1)
    · rcases List.mem_cons.1 h1 with h1 | h1
      · rw [h1]; exact hd
      · exact h x (List.mem_of_mem_drop h1)
end Go.Adm
namespace Go.Proofs.YtkcmaembpfakdaaDoor
open Go Go.RowKit Go.Adm
theorem zero_dg (w : World) : (zeroValue 36).run Tryd.prog w = .ok (.agg (z32.map bv).toArray) w := by kernel_rfl
theorem el_dg : ElemOf Tryd.prog 29 36 (.agg (z32.map bv).toArray) 32 32 := ElemOf.mk' Tryd.underlying29 (by kernel_rfl) rfl (by decide) (by decide)

set_option maxHeartbeats 3200000 in
theorem Has_any (w : World) (B : Nat) (A : Option Addr) (n c : Nat) (xs : List (List UInt8)) (d : List UInt8) (hl : Digs w B A n xs) (hd : d.length = 32) (hn2 : n ≤ 1000000000) (hB : B ≤ w.heap.size) :
    Calls Tryd.prog 16 #[.slice A n c, .agg (d.map bv).toArray] w fun e w' => e = .returned (.bool (decide (d ∈ xs))) ∧ Below w.heap.size w w' := by
  have hR : All w [.low (.digs B A n xs), .kept w w.heap.size] := ⟨⟨hl, hB⟩, ⟨Below.refl _ _, Nat.le_refl _⟩, trivial⟩
  have HN := Lib.hid hl.len
  have HD := Lib.hid hd
  clear hl hd
  go_enter Tryd.func16, Tryd.ntmps16
  go_upto_region 1 with (fail)
  refine wp_gen (hR.new (l := d.map bv) _ 36 rfl rfl) ?_
  intro W1 hW1
  clear hR
  go_wp2
  go_loopw [5] (fun i wr => ∃ k : Nat, k ≤ n ∧ i = .int .i64 k ∧ Hid (∀ j (hj : j < xs.length), j < k → xs[j] ≠ d) ∧ All wr [.cells w.heap.size 36 (d.map bv), .low (.digs B A n xs), .kept w w.heap.size]) (fun i _ => n - (intOf i).toNat)
  case atStart => exact ⟨0, by omega, rfl, Lib.hid (fun j hj h => absurd h (by omega)), hW1⟩
  case round =>
    clear hW1
    obtain ⟨k, hk, rfl, HA, hI⟩ := hrel
    by_cases hlt : k < n
    · have hkl : k < xs.length := by rw [HN.out]; exact hlt
      have hbl := (hI.at_ 1 rfl : Digs wr B A n xs ∧ B ≤ wr.heap.size)
      obtain ⟨ad, rfl, -, -⟩ := Digs.elem hbl.1 hkl
      have HX : Hid (∀ W, All W [.cells w.heap.size 36 (d.map bv), .low (.digs B (some ad) n xs), .kept w w.heap.size] → ∀ q s, (xs[k].map bv)[q]? = some s → W.cell? ((ad.add (k * 32)).add q) = some s) := Lib.hid (fun W hW => by
        obtain ⟨ad', e, _, hc⟩ := Digs.elem (hW.at_ 1 rfl : Digs W B (some ad) n xs ∧ B ≤ W.heap.size).1 hkl
        obtain rfl := Option.some.inj e
        exact hc)
      have hx := Lib.hid (hbl.1.each _ (List.getElem_mem hkl))
      have HHIT : Hid (xs[k] = d → decide (d ∈ xs) = true) := Lib.hid (fun h => by rw [← h]; exact decide_eq_true (List.getElem_mem hkl))
      have HMISS : Hid (xs[k] ≠ d → ∀ j (hj : j < xs.length), j < k + 1 → xs[j] ≠ d) := Lib.hid (fun h j hj hjk => by
        rcases Nat.lt_or_eq_of_le (Nat.le_of_lt_succ hjk) with h1 | h1
        · exact HA.out j hj h1
        · subst h1; exact h)
      clear hbl
      generalize xs[k] = x at *
      have d1 : decide ((k : Int) < (n : Int)) = true := by simp; omega
      have wk0 : (0 : Int) ≤ (k : Int) := by omega
      have wk1 : (k : Int) < (n : Int) := by omega
      have wk2 : ((k : Int)).toNat = k := by omega
      go_upto_region 4 with (fail)
      refine wp_region_hops 5 [12, 13, 14, 15, 16] [.cells w.heap.size 36 (d.map bv), .low (.digs B (some ad) n xs), .kept w w.heap.size]
        [.eq (.slice (some ad) n c), .eq (.int .i64 k), .eq (.pointer (some (ad.add (k * 32)))), .eq (.agg (x.map bv).toArray), .eq (.agg (d.map bv).toArray)]
        (by kernel_rfl) (by kernel_rfl) hI rfl ?hops ?fin
      case hops =>
        refine ⟨?_, ?_, ?_, ?_, ?_, trivial⟩
        · intro a W hW hb hd K hK
          have b0 := hb 0 rfl
          go_simp
          exact hK _ _ (World.grownBy.refl _ _) rfl
        · intro a W hW hb hd K hK
          have b5 := hb 5 rfl
          go_simp
          exact hK _ _ (World.grownBy.refl _ _) rfl
        · intro a W hW hb hd K hK
          have b12 : a.tmps[12]?.getD undef = _ := hd ⟨0, .data⟩ (by simp) rfl
          have b13 : a.tmps[13]?.getD undef = _ := hd ⟨1, .data⟩ (by simp) rfl
          go_simp
          exact hK _ _ (World.grownBy.refl _ _) rfl
        · intro a W hW hb hd K hK
          have b14 : a.tmps[14]?.getD undef = _ := hd ⟨2, .data⟩ (by simp) rfl
          refine wp_load_any 36 (.tmp 14) rfl (ad.add (k * 32)) (show a.eval (.tmp 14) = _ from by simp only [Act.eval, Array.getD_eq_getD_getElem?]; exact b14) (x.map bv) _ (HX.out W hW) Tryd.underlying36 rfl (by rw [List.length_map, hx.out]; kernel_rfl) ?_
          exact hK _ _ (World.grownBy.refl _ _) rfl
        · intro a W hW hb hd K hK
          have b3 := hb 3 rfl
          refine wp_load_any 36 (.tmp 3) rfl ⟨w.heap.size, 0, none⟩ (show a.eval (.tmp 3) = _ from by simp only [Act.eval, Array.getD_eq_getD_getElem?]; exact b3) (d.map bv) _ (Cells.sub (hW.at_ 0 rfl) 0 (fun j u h => by rwa [Nat.zero_add])) Tryd.underlying36 rfl (by rw [List.length_map, HD.out]; kernel_rfl) ?_
          exact hK _ _ (World.grownBy.refl _ _) rfl
      case fin =>
        intro vs V hV hv
        have e3 : vs 3 = _ := hv 3 (by decide)
        have e4 : vs 4 = _ := hv 4 (by decide)
        clear hv hI
        simp only [putAll, List.drop_succ_cons, List.drop_zero, e3, e4, Act.put, List.setIfInBounds_toArray, List.set_cons_succ, List.set_cons_zero]
        clear e3 e4
        have heq := eq_dg
        cases hz : decide (x = d) with
        | true =>
          have HF := Lib.hid (HHIT.out (of_decide_eq_true hz))
          have q1 : ∀ W : World, (binOp .eql 36 (.agg (x.map bv).toArray) (.agg (d.map bv).toArray)).run Tryd.prog W = .ok (.bool true) W := fun W => by have := heq W x d hx.out HD.out; rwa [hz] at this
          clear hz heq HHIT HMISS
          go_wp2_with fail
          go_ret
          exact ⟨ret_bool (by rw [HF.out]), (hV.at_ 2 rfl : _ ∧ _).1⟩
        | false =>
          have HF := Lib.hid (HMISS.out (of_decide_eq_false hz))
          have q1 : ∀ W : World, (binOp .eql 36 (.agg (x.map bv).toArray) (.agg (d.map bv).toArray)).run Tryd.prog W = .ok (.bool false) W := fun W => by have := heq W x d hx.out HD.out; rwa [hz] at this
          clear hz heq HHIT HMISS
          go_wp2_with fail
          exact ⟨⟨k + 1, by omega, by go_num, HF, hV⟩, by simp [intOf]; omega⟩
    · have d1 : decide ((k : Int) < (n : Int)) = false := by simp; omega
      have HF : Hid (decide (d ∈ xs) = false) := Lib.hid (decide_eq_false fun hm => by
        obtain ⟨j, hj, e⟩ := List.getElem_of_mem hm
        exact HA.out j hj (by have := HN.out; omega) e)
      go_wp2_with fail
      go_ret
      exact ⟨ret_bool (by rw [HF.out]), (hI.at_ 2 rfl : _ ∧ _).1⟩

end Go.Proofs.YtkcmaembpfakdaaDoor
