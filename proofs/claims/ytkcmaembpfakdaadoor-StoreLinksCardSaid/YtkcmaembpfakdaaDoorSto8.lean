/- Copies of a store. -/
import Derived.Test.YtkcmaembpfakdaaDoorSto7
set_option linter.unusedSimpArgs false
set_option linter.unusedVariables false
set_option maxRecDepth 100000
namespace Go.Adm
open Go Go.RowKit
theorem cells_rd0 {w : World} {g n : Nat} {t : TypeId} {cs : List Value} (h : Cells w g t cs) (hl : cs.length = n) : Rd w w.heap.size 1 (some ⟨g, 0, none⟩) n cs := by
  have h1 := Cells.rd h (o := 0) (n := n) (by omega)
  rw [List.drop_zero, List.take_of_length_le (by omega)] at h1
  exact h1.mono h.lt
theorem cells_snoc {cs : List Value} {k : Nat} {l : List Bl} {x : Bl} (h : cs.take (k * 33) = (l.map blC).flatten) (hx : (blC x).length = 33) (hk : k * 33 + 33 ≤ cs.length) :
    (cs.take (k * 33) ++ blC x ++ cs.drop (k * 33 + (blC x).length)).take ((k + 1) * 33) = ((l ++ [x]).map blC).flatten ∧ (cs.take (k * 33) ++ blC x ++ cs.drop (k * 33 + (blC x).length)).length = cs.length := by
  refine ⟨?_, ?_⟩
  · rw [List.take_left' (by rw [List.length_append, List.length_take, hx]; omega), h]
    simp
  · rw [List.length_append, List.length_append, List.length_take, List.length_drop, hx]; omega
end Go.Adm
namespace Go.Proofs.YtkcmaembpfakdaaDoor
open Go Go.RowKit Go.Adm

set_option maxHeartbeats 3200000 in
theorem copies_any (w : World) (B : Nat) (A : Option Addr) (n c : Nat) (l : List Bl) (hl : Blobs w B A n l) (hn2 : n ≤ 1000000) (hB : B ≤ w.heap.size) (hbig : ∀ x ∈ l, x.n ≤ 140737488355000) :
    Calls Tryd.prog 21 #[.slice A n c] w fun e w' => ∃ l' cs, e = .returned (.slice (some ⟨w.heap.size, 0, none⟩) n (n + 1)) ∧ l'.map pr = l.map pr ∧ cs.take (n * 33) = (l'.map blC).flatten ∧ cs.length = (n + 1) * 33 ∧
      All w' [.cells w.heap.size 56 cs, .dat w.heap.size l', .kept w w.heap.size] := by
  have hR : All w [.low (.blobs B A n l), .kept w w.heap.size] := ⟨⟨hl, hB⟩, ⟨Below.refl _ _, Nat.le_refl _⟩, trivial⟩
  have HN := Lib.hid hl.len
  have HBIG := Lib.hid hbig
  have hzr := zero_bl
  clear hl hbig
  have w1 : IntKind.i64.wrap ((n : Int) + 1) = ((n + 1 : Nat) : Int) := by rw [IntWalk.i64_in _ (by omega)]; omega
  go_enter Tryd.func21, Tryd.ntmps21
  go_upto_region 2 with (refine wl_make el_bl hR rfl (.const (.int .i64 0)) (.tmp 8) rfl 0 (n + 1) rfl rfl (by omega) (by omega) ?_; intro W1 hW1 hs1)
  have hlen : (madeCells (Value.agg blZ.toArray).cells ((n + 1) * 33)).toList.length = (n + 1) * 33 := madeCells_len _ _
  have hW2 : All W1 [.cells w.heap.size 56 (madeCells (Value.agg blZ.toArray).cells ((n + 1) * 33)).toList, .dat w.heap.size [], .low (.blobs B A n l), .kept w w.heap.size] := ⟨hW1.at_ 0 rfl, dat_nil, hW1.at_ 1 rfl, hW1.at_ 2 rfl, trivial⟩
  generalize (madeCells (Value.agg blZ.toArray).cells ((n + 1) * 33)).toList = cs0 at *
  clear hR hW1 hs1 w1
  go_wp2
  go_loopw [3, 12] (fun o i wr => ∃ (k : Nat) (l' : List Bl) (cs : List Value), k ≤ n ∧ i = .int .i64 k ∧ o = .slice (some ⟨w.heap.size, 0, none⟩) k (n + 1) ∧ Hid (l'.map pr = (l.take k).map pr) ∧ Hid (cs.take (k * 33) = (l'.map blC).flatten) ∧ Hid (cs.length = (n + 1) * 33) ∧ All wr [.cells w.heap.size 56 cs, .dat w.heap.size l', .low (.blobs B A n l), .kept w w.heap.size]) (fun _ i _ => n - (intOf i).toNat)
  case atStart => exact ⟨0, [], cs0, by omega, rfl, rfl, Lib.hid (by simp), Lib.hid (by simp), Lib.hid hlen, hW2⟩
  case round =>
    clear hW2 hlen
    obtain ⟨k, l', cs, hk, rfl, rfl, HP, HF, HL, hI⟩ := hrel
    by_cases hlt : k < n
    · have hkl : k < l.length := by rw [HN.out]; exact hlt
      have hbl := (hI.at_ 2 rfl : Blobs wr B A n l ∧ B ≤ wr.heap.size)
      obtain ⟨ad, rfl, hadB, hc⟩ := Els.elem hbl.1.els hkl
      have HC := Lib.hid hc
      have hx := Lib.hid (hbl.1.each _ (List.getElem_mem hkl)).d32
      have HBL : Hid (∀ W, All W [.low (.blobs B (some ad) n l)] → BlOk W B l[k]) := Lib.hid (fun W hW => (hW.at_ 0 rfl : Blobs W B (some ad) n l ∧ _).1.each _ (List.getElem_mem hkl))
      have HXL : Hid (l[k].b.length = l[k].n) := Lib.hid (hbl.1.each _ (List.getElem_mem hkl)).len
      have hxn : Hid (l[k].n ≤ 140737488355000) := Lib.hid (HBIG.out _ (List.getElem_mem hkl))
      have HPS : Hid (∀ x', pr x' = pr l[k] → (l' ++ [x']).map pr = (l.take (k + 1)).map pr) := Lib.hid (fun x' hx' => by rw [List.map_append, HP.out, List.take_succ_eq_append_getElem hkl, List.map_append]; simp [hx'])
      have hBw : B ≤ wr.heap.size := hbl.2
      clear hc hbl
      generalize l[k] = x at *
      have d1 : decide ((k : Int) < (n : Int)) = true := by simp; omega
      have hsw : w.heap.size < wr.heap.size := Cells.lt (hI.at_ 0 rfl)
      obtain ⟨gx, hgx⟩ : ∃ gx, gx = wr.heap.size := ⟨_, rfl⟩
      go_upto_region 5 with (first
        | (refine wl_load_any rfl 56 (.tmp 14) rfl (ad.add (k * 33)) rfl (blC x) _ HC.out Tryd.underlying56 rfl (by rw [blC_len hx.out]; kernel_rfl) ?_)
        | (refine wl_store_at (hI.new (l := blZ) _ 56 hgx rfl) 0 rfl 56 (.tmp 5) (.tmp 15) rfl gx _ _ (blC x) rfl (by rw [hgx]; rfl) rfl (by rw [blC_len hx.out]; rfl) (by rw [blC_len hx.out]; kernel_rfl) (blC_one x) ⟨by simp [Res.apart]; omega, dat_far (hI.at_ 1 rfl) (by omega), by simp [Res.apart, Low.blobs]; omega, by simp [Res.apart]; omega, trivial⟩ ?_; intro W2 hW2 hs2; simp only [List.set_cons_zero] at hW2))
      simp only [← hgx]
      have hs3 : gx < W2.heap.size := Cells.lt (hW2.at_ 0 rfl)
      have hdu := duplicate_any W2 B x (HBL.out W2 ⟨hW2.at_ 3 rfl, trivial⟩) hxn.out (hW2.at_ 3 rfl : _ ∧ B ≤ W2.heap.size).2
      have hgxw : w.heap.size < gx := by omega
      clear hs2 hI HC hgx
      go_wp2_with (refine wl_load_any rfl 56 (.tmp 5) rfl ⟨gx, 0, none⟩ rfl (blC x) _ (Cells.sub (hW2.at_ 0 rfl) 0 (fun j u h => by rwa [Nat.zero_add])) Tryd.underlying56 rfl (by rw [blC_len hx.out]; kernel_rfl) ?_)
      refine hdu.mono ?_
      clear hdu
      rintro e w3 ⟨gd, hgd1, hgd2, rfl, hcd, hb3⟩
      have hW3 := All.cons (r := .cells gd 5 (x.b.map bv)) hcd (hW2.call hb3).2
      clear hcd hb3 hW2
      have hxd : (blC ⟨x.d, some ⟨gd, 0, none⟩, x.n, x.n, x.b⟩).length = 33 := blC_len (x := ⟨x.d, some ⟨gd, 0, none⟩, x.n, x.n, x.b⟩) hx.out
      have w2 : k + 1 ≤ n + 1 := by omega
      go_wp2_with (first
        | (refine wl_lit1 el_bl rfl (.tmp 18) rfl (blC ⟨x.d, some ⟨gd, 0, none⟩, x.n, x.n, x.b⟩) rfl hxd (by decide) ?_; refine wl_gen (hW3.new (g := w3.heap.size) _ 56 rfl rfl) ?_; intro W4 hW4)
        | (refine wl_app_cells el_bl hW4 2 rfl (.tmp 16) (.tmp 19) rfl w.heap.size k (n + 1) cs rfl rfl ⟨w3.heap.size, 0, none⟩ 1 1 (blC ⟨x.d, some ⟨gd, 0, none⟩, x.n, x.n, x.b⟩) rfl (by rw [hxd]) (Cells.sub (hW4.at_ 0 rfl) 0 (fun j u h => by simpa [Nat.zero_add] using h)) (blC_one _) w2 (by rw [hxd, HL.out]; omega) ⟨by simp [Res.apart]; omega, by simp [Res.apart]; omega, dat_apart, by simp [Res.apart, Low.blobs] <;> omega, by simp [Res.apart] <;> omega, trivial⟩ ?_; intro W5 hW5 hs5))
      have w3' : IntKind.i64.wrap ((k : Int) + 1) = ((k + 1 : Nat) : Int) := by rw [IntWalk.i64_in _ (by omega)]; omega
      have hsn := cells_snoc (x := ⟨x.d, some ⟨gd, 0, none⟩, x.n, x.n, x.b⟩) HF.out hxd (by rw [HL.out]; omega)
      have hW6 : All W5 [.cells w.heap.size 56 _, .dat w.heap.size (l' ++ [⟨x.d, some ⟨gd, 0, none⟩, x.n, x.n, x.b⟩]), .low (.blobs B (some ad) n l), .kept w w.heap.size] :=
        ⟨hW5.at_ 2 rfl, dat_snoc (hW5.at_ 3 rfl) ⟨hx.out, cells_rd0 (hW5.at_ 1 rfl) (by rw [List.length_map]; exact HXL.out), Nat.le_refl _, by have := hxn.out; simp only [maxLen]; omega⟩ (fun ad e => by injection e with e; subst e; exact ⟨by show w.heap.size < gd; omega, Cells.lt (hW5.at_ 1 rfl)⟩), hW5.at_ 4 rfl, hW5.at_ 5 rfl, trivial⟩
      have HP2 := Lib.hid (HPS.out ⟨x.d, some ⟨gd, 0, none⟩, x.n, x.n, x.b⟩ rfl)
      have HF2 := Lib.hid hsn.1
      have HL2 := Lib.hid (hsn.2.trans HL.out)
      clear hsn hW5 hW4 hW3 HPS HBL
      go_wp2_with fail
      exact ⟨⟨k + 1, _, _, by omega, by go_num, rfl, HP2, HF2, HL2, hW6⟩, by simp [intOf]; omega⟩
    · obtain rfl : k = n := by omega
      have d1 : decide ((k : Int) < (k : Int)) = false := by simp
      have hp := HP.out
      rw [List.take_of_length_le (by rw [HN.out]; exact Nat.le_refl _)] at hp
      have HP2 := Lib.hid hp
      clear hp
      go_wp2_with fail
      go_ret
      exact ⟨l', cs, rfl, HP2.out, HF.out, HL.out, hI.at_ 0 rfl, hI.at_ 1 rfl, hI.at_ 3 rfl, trivial⟩
end Go.Proofs.YtkcmaembpfakdaaDoor
