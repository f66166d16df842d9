/- The entries of lines, both sides. Equality of lines: equal lists are found equal. The law SnapshotLines. -/
import Derived.Test.YtieobkgdkiahbaaDoorParA
import Derived.Test.YtieobkgdkiahbaaDoorRef5
import Derived.Test.YtieobkgdkiahbaaDoorLaw1
import Derived.Deep.QuietTactic
import Derived.BigQuiet
set_option linter.unusedSimpArgs false
set_option linter.unusedVariables false
set_option maxRecDepth 100000
namespace Go.Adm
open Go Go.RowKit
theorem Lines.row3 {w : World} {B n k : Nat} {A : Option Addr} {ls : List (List ByteArray)} (h : Lines w B A n ls) (hk : k < ls.length) {t p d : ByteArray} (he : ls[k] = [t, p, d]) :
    ∃ ad rad c2, A = some ad ∧ 3 ≤ c2 ∧ c2 ≤ 140737488355328 ∧ p.size ≤ 140737488355328 ∧ ∀ W, Below B w W → W.cell? (ad.add k) = some (.slice (some rad) 3 c2) ∧ W.cell? (rad.add 0) = some (.string t) ∧ W.cell? (rad.add 1) = some (.string p) ∧ W.cell? (rad.add 2) = some (.string d) := by
  obtain ⟨ad, A2, c2, h1, h2, h3, h4, h5, h6⟩ := h.at_ hk
  rw [he] at h3 h4 h6
  obtain ⟨rad, e0, b0, s0, _⟩ := h6.at_ (k := 0) (by simp)
  obtain ⟨rad1, e1, b1, s1, z1⟩ := h6.at_ (k := 1) (by simp)
  obtain ⟨rad2, e2, b2, s2, _⟩ := h6.at_ (k := 2) (by simp)
  obtain rfl := Option.some.inj (e0.symm.trans e1)
  obtain rfl := Option.some.inj (e0.symm.trans e2)
  subst e0
  refine ⟨ad, rad, c2, h1, h4, h5, z1, fun W hb => ⟨?_, ?_, ?_, ?_⟩⟩
  · exact (hb.cell (by rw [add_block]; omega)).trans h3
  · exact (hb.cell (by rw [add_block]; omega)).trans s0
  · exact (hb.cell (by rw [add_block]; omega)).trans s1
  · exact (hb.cell (by rw [add_block]; omega)).trans s2
def lineOf (tag : ByteArray) (l : List ByteArray) : Option E := match l with
  | [t, p, d] => if t.toList == tag.toList then (parseD d.data.toList).map (fun v => ⟨p, v⟩) else none
  | _ => none
def rawS (tag : ByteArray) (ls : List (List ByteArray)) : Option (List E) := if ls.all (fun l => (lineOf tag l).isSome) then some (ls.filterMap (lineOf tag)) else none
def readS (tag : ByteArray) (ls : List (List ByteArray)) : List E × Int := match rawS tag ls with
  | none => ([], 2)
  | some l => if validB l then (l, 0) else ([], 1)
theorem lineOf_len {tag : ByteArray} {l : List ByteArray} (h : l.length ≠ 3) : lineOf tag l = none := by
  unfold lineOf
  split
  · simp at h
  · rfl
theorem rawS_bad {tag : ByteArray} {ls : List (List ByteArray)} {k : Nat} (hk : k < ls.length) (h : lineOf tag ls[k] = none) : rawS tag ls = none := by
  unfold rawS
  rw [if_neg]
  intro h'
  rw [List.all_eq_true] at h'
  have := h' _ (List.getElem_mem hk)
  rw [h] at this
  cases this
theorem rawS_good {tag : ByteArray} {ls : List (List ByteArray)} (h : ∀ i (hi : i < ls.length), (lineOf tag ls[i]).isSome = true) : rawS tag ls = some (ls.filterMap (lineOf tag)) := by
  unfold rawS
  rw [if_pos]
  rw [List.all_eq_true]
  intro x hx
  obtain ⟨i, hi, rfl⟩ := List.getElem_of_mem hx
  exact h i hi
/-- what was read of the first k lines -/
def ReadTo (tag : ByteArray) (ls : List (List ByteArray)) (k : Nat) (o : List E) : Prop := o = (ls.take k).filterMap (lineOf tag) ∧ o.length = k ∧ (∀ x ∈ o, E32 x) ∧ ∀ i (hi : i < ls.length), i < k → (lineOf tag ls[i]).isSome = true
theorem ReadTo.zero (tag : ByteArray) (ls : List (List ByteArray)) : ReadTo tag ls 0 [] := ⟨rfl, rfl, by simp, fun i hi h => absurd h (by omega)⟩
theorem ReadTo.succ {tag : ByteArray} {ls : List (List ByteArray)} {k : Nat} {o : List E} (h : ReadTo tag ls k o) (hk : k < ls.length) {e : E} (he : lineOf tag ls[k] = some e) (h32 : E32 e) : ReadTo tag ls (k + 1) (o ++ [e]) := by
  obtain ⟨h1, h2, h3, h4⟩ := h
  refine ⟨?_, by simp [h2], ?_, fun i hi hik => ?_⟩
  · rw [List.take_succ_eq_append_getElem hk, List.filterMap_append, ← h1]
    simp [he]
  · intro x hx
    rcases List.mem_append.1 hx with hx | hx
    · exact h3 x hx
    · rw [List.mem_singleton.1 hx]; exact h32
  · rcases Nat.lt_or_eq_of_le (Nat.le_of_lt_succ hik) with h | h
    · exact h4 i hi h
    · subst h; rw [he]; rfl
theorem ReadTo.done {tag : ByteArray} {ls : List (List ByteArray)} {k : Nat} {o : List E} (h : ReadTo tag ls k o) (hk : ls.length ≤ k) : rawS tag ls = some o := by
  rw [rawS_good (fun i hi => h.2.2.2 i hi (by omega)), h.1, List.take_of_length_le hk]
theorem raw_32 (tag : ByteArray) {w : World} {B n : Nat} {A : Option Addr} {ls : List (List ByteArray)} (h : Lines w B A n ls) : ∀ o, rawS tag ls = some o → (∀ x ∈ o, E32 x) ∧ o.length ≤ ls.length := fun o ho => by
  unfold rawS at ho
  split at ho
  · obtain rfl := Option.some.inj ho
    refine ⟨fun x hx => ?_, List.length_filterMap_le _ _⟩
    obtain ⟨l, hl, he⟩ := List.mem_filterMap.1 hx
    obtain ⟨k, hk, rfl⟩ := List.getElem_of_mem hl
    obtain ⟨ad, A2, c2, _, _, _, _, _, hs⟩ := h.at_ hk
    generalize ls[k] = row at he hs
    unfold lineOf at he
    split at he
    · next t p d =>
      split at he
      · obtain ⟨v, hv, rfl⟩ := Option.map_eq_some_iff.1 he
        exact ⟨parseD_32 hv, hs.small p (by simp)⟩
      · cases he
    · cases he
  · cases ho
end Go.Adm
namespace Go.Proofs.YtieobkgdkiahbaaDoor
open Go Go.RowKit Go.Adm

/-- what Raw leaves -/
def RawPost (r : Option (List E)) (w : World) (e : Ending) (w' : World) : Prop :=
  ∃ A c, e = .returned (.tuple #[.slice A (r.getD []).length c, .bool r.isSome]) ∧ Go.Adm.Own w' w.heap.size 72 33 A (r.getD []).length c ((r.getD []).map entC).flatten ∧ Below w.heap.size w w'

set_option maxHeartbeats 3200000 in
theorem Read_any (tag : ByteArray) (w : World) (B : Nat) (A : Option Addr) (n c : Nat) (ls : List (List ByteArray)) (hl : Lines w B A n ls) (hB : B ≤ w.heap.size) (hn2 : n ≤ 1000) :
    Calls Tryd.prog 25 #[.string tag, .slice A n c] w (ResPost entC 33 (readS tag ls).1 (readS tag ls).2 72 w) := by
  have HN := Lib.hid hl.len
  have HL := Lib.hid hl
  clear hl
  go_enter Tryd.func25, Tryd.ntmps25
  go_wp2
  go_loopw [6, 13] (fun v i wr => ∃ (k : Nat) (A' : Option Addr) (c' : Nat) (o : List E), k ≤ n ∧ i = .int .i64 k ∧ v = .slice A' k c' ∧ w.heap.size ≤ wr.heap.size ∧ Hid (ReadTo tag ls k o) ∧ All wr [.own w.heap.size 72 33 A' k c' (o.map entC).flatten, .kept w w.heap.size]) (fun _ i _ => n - (intOf i).toNat)
  case atStart => exact ⟨0, none, 0, [], by omega, rfl, rfl, Nat.le_refl _, Lib.hid (ReadTo.zero _ _), Go.Adm.Own.nil _ _ _ _, ⟨Below.refl _ _, Nat.le_refl _⟩, trivial⟩
  case round =>
    obtain ⟨k, A', c', o, hk, rfl, rfl, hsr, HO, hI⟩ := hrel
    have hkp := (hI.at_ 1 rfl : _ ∧ _).1
    by_cases hlt : k < n
    · have hkl : k < ls.length := by rw [HN.out]; exact hlt
      have d1 : decide ((k : Int) < (n : Int)) = true := by simp; omega
      have wk0 : (0 : Int) ≤ (k : Int) := by omega
      have wk1 : (k : Int) < (n : Int) := by omega
      have wk2 : ((k : Int)).toNat = k := by omega
      have hkB : Below B w wr := hkp.mono hB
      obtain ⟨row, hrow⟩ : ∃ row, ls[k] = row := ⟨_, rfl⟩
      by_cases hr3 : row.length = 3
      · obtain ⟨t, p, d, rfl⟩ : ∃ t p d, row = [t, p, d] := by
          match row, hr3 with
          | [t, p, d], _ => exact ⟨t, p, d, rfl⟩
        obtain ⟨ad, rad, c2, rfl, h3c, hc2, hps, HCC⟩ := HL.out.row3 hkl hrow
        have HC : Hid (∀ W, Below w.heap.size w W → W.cell? (ad.add k) = some (.slice (some rad) 3 c2) ∧ W.cell? (rad.add 0) = some (.string t) ∧ W.cell? (rad.add 1) = some (.string p) ∧ W.cell? (rad.add 2) = some (.string d)) := Lib.hid (fun W hb => HCC W (hb.mono hB))
        obtain ⟨x0, x1, x2, x3⟩ := HC.out wr hkp
        have x1' : wr.cell? rad = some (.string t) := by rwa [add_zero] at x1
        have x3' : wr.cell? ⟨rad.block, rad.off + 2, none⟩ = some (.string d) := x3
        have HROW := Lib.hid hrow
        clear hrow hr3 HCC hkB
        cases q4 : (t.toList == tag.toList) with
        | false =>
          have hlo : lineOf tag ls[k] = none := by rw [HROW.out]; show (if t.toList == tag.toList then _ else none) = none; rw [q4]; rfl
          have HF : Hid ((readS tag ls).1 = [] ∧ (readS tag ls).2 = 2) := Lib.hid (by unfold readS; rw [rawS_bad hkl hlo]; exact ⟨rfl, rfl⟩)
          clear hlo
          go_wp2_with fail
          go_ret2
          rw [HF.out.1, HF.out.2]
          exact ResPost.nil rfl hkp
        | true =>
          have hlo : lineOf tag ls[k] = (parseD d.data.toList).map (fun v => ⟨p, v⟩) := by rw [HROW.out]; show (if t.toList == tag.toList then _ else none) = _; rw [q4]; rfl
          have hpl := parsed_len d.data.toList
          have HPL : Hid (((parsed d.data.toList).map bv).length = 32) := Lib.hid (by rw [List.length_map, hpl])
          go_wp2_with fail
          refine (Parse_any d _).mono ?_
          rintro e w3 ⟨rfl, hb3⟩
          have hI3 := hI.call hb3
          have hap := (show Apart (some w3.heap.size) [.own w.heap.size 72 33 A' k c' (o.map entC).flatten, .kept w w.heap.size] from ⟨fun g hg => by injection hg with hg; subst hg; exact .inr (fun e => absurd ((hI3.at_ 0 rfl : Go.Adm.Own w3 w.heap.size 72 33 A' k c' _).lt e).2 (Nat.lt_irrefl _)), fun g hg => by injection hg with hg; subst hg; exact (hI3.at_ 1 rfl : _ ∧ _).2, trivial⟩)
          clear hb3
          cases hp : parseD d.data.toList with
          | none =>
            rw [hp] at hlo
            clear hpl
            have HF : Hid ((readS tag ls).1 = [] ∧ (readS tag ls).2 = 2) := Lib.hid (by unfold readS; rw [rawS_bad hkl hlo]; exact ⟨rfl, rfl⟩)
            clear hlo hp
            generalize parsed d.data.toList = v at *
            go_wp2_with (refine wl_store_at (hI3.new (l := z32.map bv) _ 58 rfl rfl) 0 rfl 58 (.tmp 9) (.tmp 32) rfl w3.heap.size _ _ (v.map bv) rfl rfl rfl HPL.out (by rw [HPL.out]; kernel_rfl) (bv_one _) hap ?_; intro W2 hW2 hs2)
            go_ret2
            rw [HF.out.1, HF.out.2]
            exact ResPost.nil rfl (hW2.at_ 2 rfl : _ ∧ _).1
          | some v =>
            rw [hp] at hlo
            have hpv : parsed d.data.toList = v := by unfold parsed; rw [hp]; rfl
            rw [hpv] at hpl HPL ⊢
            have HE32 : Hid (E32 (⟨p, v⟩ : E)) := Lib.hid ⟨hpl, hps⟩
            have HRT : Hid (ReadTo tag ls (k + 1) (o ++ [⟨p, v⟩])) := Lib.hid (HO.out.succ hkl hlo HE32.out)
            clear hlo hp hpv hpl
            go_upto_region 10 with (refine wl_store_at (hI3.new (l := z32.map bv) _ 58 rfl rfl) 0 rfl 58 (.tmp 9) (.tmp 32) rfl w3.heap.size _ _ (v.map bv) rfl rfl rfl HPL.out (by rw [HPL.out]; kernel_rfl) (bv_one _) hap ?_; intro W2 hW2 hs2)
            have hW3 : All W2 [.cells w3.heap.size 58 (v.map bv), .own w.heap.size 72 33 A' k c' (o.map entC).flatten, .kept w w.heap.size] := hW2
            generalize w3.heap.size = gx at *
            clear hW2 hs2 hap hI3 x0 x1 x2 x3 x1' x3'
            refine wp_region_hops 7 [36, 37, 38, 39, 40, 41, 42] [.cells gx 58 (v.map bv), .own w.heap.size 72 33 A' k c' (o.map entC).flatten, .kept w w.heap.size]
              [.eq (.slice A' k c'), .eq (.slice (some rad) 3 c2), .eq (.pointer (some ⟨rad.block, rad.off + 1, none⟩)), .eq (.string p), .eq (.agg (v.map bv).toArray), .eq (.agg (entC (⟨p, v⟩ : E)).toArray), .rd 33 1 (entC (⟨p, v⟩ : E))]
              (by kernel_rfl) (by kernel_rfl) hW3 rfl ?hops ?fin
            case hops =>
              refine ⟨?_, ?_, ?_, ?_, ?_, ?_, ?_, trivial⟩
              · intro a W hW hb hd K hK
                have b6 := hb 6 rfl
                go_simp
                exact hK _ _ (World.grownBy.refl _ _) rfl
              · intro a W hW hb hd K hK
                have b8 := hb 8 rfl
                go_simp
                exact hK _ _ (World.grownBy.refl _ _) rfl
              · intro a W hW hb hd K hK
                have b37 : a.tmps[37]?.getD undef = _ := hd ⟨1, .data⟩ (by simp) rfl
                go_simp
                exact hK _ _ (World.grownBy.refl _ _) rfl
              · intro a W hW hb hd K hK
                have b38 : a.tmps[38]?.getD undef = _ := hd ⟨2, .data⟩ (by simp) rfl
                have q1 : W.cell? ⟨rad.block, rad.off + 1, none⟩ = some (.string p) := (HC.out W (hW.at_ 2 rfl : _ ∧ _).1).2.2.1
                go_simp
                exact hK _ _ (World.grownBy.refl _ _) rfl
              · intro a W hW hb hd K hK
                have b9 := hb 9 rfl
                refine wp_load_any 58 (.tmp 9) rfl ⟨gx, 0, none⟩ (show a.eval (.tmp 9) = _ from by simp only [Act.eval, Array.getD_eq_getD_getElem?]; exact b9) (v.map bv) _ (Cells.sub (hW.at_ 0 rfl) 0 (fun j u h => by rwa [Nat.zero_add])) Tryd.underlying58 rfl (by rw [HPL.out]; kernel_rfl) ?_
                exact hK _ _ (World.grownBy.refl _ _) rfl
              · intro a W hW hb hd K hK
                have b39 : a.tmps[39]?.getD undef = _ := hd ⟨3, .data⟩ (by simp) rfl
                have b40 : a.tmps[40]?.getD undef = _ := hd ⟨4, .data⟩ (by simp) rfl
                refine wp_bld' 72 [(0, .tmp 39), (1, .tmp 40)] rfl _ _ #[(0, 1), (1, 32)] (entC (⟨p, v⟩ : E)).toArray zero_ent Tryd.underlying72 (fun w => by kernel_rfl) ?_ ?_
                · simp only [List.map_cons, List.map_nil]
                  rw [(show a.eval (.tmp 39) = _ from by simp only [Act.eval, Array.getD_eq_getD_getElem?]; exact b39), (show a.eval (.tmp 40) = _ from by simp only [Act.eval, Array.getD_eq_getD_getElem?]; exact b40)]
                  exact fill_ent p v HE32.out.1
                exact hK _ _ (World.grownBy.refl _ _) rfl
              · intro a W hW hb hd K hK
                have b41 : a.tmps[41]?.getD undef = _ := hd ⟨5, .data⟩ (by simp) rfl
                refine wp_lit1 el_ent (.tmp 41) rfl (entC (⟨p, v⟩ : E)) (show a.eval (.tmp 41) = _ from by simp only [Act.eval, Array.getD_eq_getD_getElem?]; exact b41) (entC_len HE32.out) (by decide) ?_
                exact hK _ _ (grown_alloc _ _) ⟨_, _, rfl, by have := Rd.lit W (entC (⟨p, v⟩ : E)).toArray 72 1 (size := 33) (by rw [List.size_toArray]; exact entC_len HE32.out); simpa using this⟩
            case fin =>
              intro vs V hV hv
              have e0 : vs 0 = _ := hv 0 (by decide)
              obtain ⟨A9, c9, e9, hRd⟩ := (hv 6 (by decide) : VF.ok (.rd 33 1 (entC (⟨p, v⟩ : E))) (vs 6) V)
              clear hv
              simp only [putAll, List.drop_succ_cons, List.drop_zero, e0, e9, Act.put, List.setIfInBounds_toArray, List.set_cons_succ, List.set_cons_zero]
              clear e0 e9
              have hsV : w.heap.size ≤ V.heap.size := hV.size_kept 2 rfl
              go_wp2_with (at_builtin; refine wl_app_at el_ent hV.2 0 rfl (.tmp 36) (.tmp 42) rfl w.heap.size _ _ _ _ rfl rfl V.heap.size A9 1 c9 (entC (⟨p, v⟩ : E)) rfl hRd (entC_one _) (by omega) hsV (by intro g hg h; simp [Apart, Res.apart] <;> omega) ?_; intro A7 c7 w7 hI7 hs7)
              refine ⟨⟨k + 1, A7, c7, o ++ [⟨p, v⟩], by omega, by go_num, rfl, hI7.size_kept 1 rfl, HRT, ?_⟩, by simp [intOf]; omega⟩
              rw [List.map_append, List.flatten_append]
              simpa using hI7
      · obtain ⟨ad, A2, c2, rfl, hcl, hlc, hc2, _⟩ := HL.out.at_in hkp hB hkl
        rw [hrow] at hcl hlc
        have hlo : lineOf tag ls[k] = none := by rw [hrow]; exact lineOf_len hr3
        have d3 : ((row.length : Int) != 3) = true := by simp; omega
        have HF : Hid ((readS tag ls).1 = [] ∧ (readS tag ls).2 = 2) := Lib.hid (by unfold readS; rw [rawS_bad hkl hlo]; exact ⟨rfl, rfl⟩)
        clear hlo hrow hr3 hkB
        go_wp2_with fail
        go_ret2
        rw [HF.out.1, HF.out.2]
        exact ResPost.nil rfl hkp
    · have hkn : k = n := by omega
      have d1 : decide ((k : Int) < (n : Int)) = false := by simp; omega
      have hraw := HO.out.done (by have := HN.out; omega)
      have hlen := HO.out.2.1
      have HL3 := Lib.hid hlen
      have HA32 := Lib.hid HO.out.2.2.1
      have hval := Valid_any wr wr.heap.size A' k c' o (Els.of (hI.at_ 0 rfl) (ents_len HA32.out) (by rw [List.length_map]; exact hlen)) HA32.out hlen (by omega) (Nat.le_refl _)
      clear hlen hkn
      cases hv : validB o with
      | true =>
        rw [hv] at hval
        have HF : Hid (readS tag ls = (o, 0)) := Lib.hid (by unfold readS; rw [hraw]; simp [hv])
        clear hraw hv
        go_wp2_with fail
        refine hval.mono ?_
        clear hval
        rintro e w5 ⟨rfl, hb5⟩
        have hI5 := hI.call hb5
        go_wp2_with fail
        go_ret2
        rw [HF.out]
        exact ⟨A', c', by rw [HL3.out]; rfl, by rw [HL3.out]; exact hI5.at_ 0 rfl, (hI5.at_ 1 rfl : _ ∧ _).1⟩
      | false =>
        rw [hv] at hval
        have HF : Hid (readS tag ls = ([], 1)) := Lib.hid (by unfold readS; rw [hraw]; simp [hv])
        clear hraw hv
        go_wp2_with fail
        refine hval.mono ?_
        clear hval
        rintro e w5 ⟨rfl, hb5⟩
        have hI5 := hI.call hb5
        go_wp2_with fail
        go_ret2
        rw [HF.out]
        exact ResPost.nil rfl (hI5.at_ 1 rfl : _ ∧ _).1

set_option maxHeartbeats 3200000 in
theorem refRaw_any (tag : ByteArray) (w : World) (B : Nat) (A : Option Addr) (n c : Nat) (ls : List (List ByteArray)) (hl : Lines w B A n ls) (hB : B ≤ w.heap.size) (hn2 : n ≤ 1000) :
    Calls Tryd.prog 58 #[.string tag, .slice A n c] w (RawPost (rawS tag ls) w) := by
  have HN := Lib.hid hl.len
  have HL := Lib.hid hl
  clear hl
  go_enter Tryd.func58, Tryd.ntmps58
  go_wp2
  go_loopw [6, 7] (fun v i wr => ∃ (k : Nat) (A' : Option Addr) (c' : Nat) (o : List E), k ≤ n ∧ i = .int .i64 k ∧ v = .slice A' k c' ∧ w.heap.size ≤ wr.heap.size ∧ Hid (ReadTo tag ls k o) ∧ All wr [.own w.heap.size 72 33 A' k c' (o.map entC).flatten, .kept w w.heap.size]) (fun _ i _ => n - (intOf i).toNat)
  case atStart => exact ⟨0, none, 0, [], by omega, rfl, rfl, Nat.le_refl _, Lib.hid (ReadTo.zero _ _), Go.Adm.Own.nil _ _ _ _, ⟨Below.refl _ _, Nat.le_refl _⟩, trivial⟩
  case round =>
    obtain ⟨k, A', c', o, hk, rfl, rfl, hsr, HO, hI⟩ := hrel
    have hkp := (hI.at_ 1 rfl : _ ∧ _).1
    by_cases hlt : k < n
    · have hkl : k < ls.length := by rw [HN.out]; exact hlt
      have d1 : decide ((k : Int) < (n : Int)) = true := by simp; omega
      have wk0 : (0 : Int) ≤ (k : Int) := by omega
      have wk1 : (k : Int) < (n : Int) := by omega
      have wk2 : ((k : Int)).toNat = k := by omega
      have hkB : Below B w wr := hkp.mono hB
      obtain ⟨row, hrow⟩ : ∃ row, ls[k] = row := ⟨_, rfl⟩
      by_cases hr3 : row.length = 3
      · obtain ⟨t, p, d, rfl⟩ : ∃ t p d, row = [t, p, d] := by
          match row, hr3 with
          | [t, p, d], _ => exact ⟨t, p, d, rfl⟩
        obtain ⟨ad, rad, c2, rfl, h3c, hc2, hps, HCC⟩ := HL.out.row3 hkl hrow
        have HC : Hid (∀ W, Below w.heap.size w W → W.cell? (ad.add k) = some (.slice (some rad) 3 c2) ∧ W.cell? (rad.add 0) = some (.string t) ∧ W.cell? (rad.add 1) = some (.string p) ∧ W.cell? (rad.add 2) = some (.string d)) := Lib.hid (fun W hb => HCC W (hb.mono hB))
        obtain ⟨x0, x1, x2, x3⟩ := HC.out wr hkp
        have x1' : wr.cell? rad = some (.string t) := by rwa [add_zero] at x1
        have x3' : wr.cell? ⟨rad.block, rad.off + 2, none⟩ = some (.string d) := x3
        have HROW := Lib.hid hrow
        clear hrow hr3 HCC hkB
        cases q4 : (t.toList == tag.toList) with
        | false =>
          have hlo : lineOf tag ls[k] = none := by rw [HROW.out]; show (if t.toList == tag.toList then _ else none) = none; rw [q4]; rfl
          have HF : Hid (rawS tag ls = none) := Lib.hid (rawS_bad hkl hlo)
          clear hlo
          go_wp2_with fail
          go_ret2
          exact ⟨none, 0, by rw [HF.out]; rfl, by rw [HF.out]; exact Go.Adm.Own.nil _ _ _ _, hkp⟩
        | true =>
          have hlo : lineOf tag ls[k] = (parseD d.data.toList).map (fun v => ⟨p, v⟩) := by rw [HROW.out]; show (if t.toList == tag.toList then _ else none) = _; rw [q4]; rfl
          have hpl := parsed_len d.data.toList
          have HPL : Hid (((parsed d.data.toList).map bv).length = 32) := Lib.hid (by rw [List.length_map, hpl])
          go_wp2_with fail
          refine (refParse_any d _).mono ?_
          rintro e w3 ⟨rfl, hb3⟩
          have hI3 := hI.call hb3
          have hap := (show Apart (some w3.heap.size) [.own w.heap.size 72 33 A' k c' (o.map entC).flatten, .kept w w.heap.size] from ⟨fun g hg => by injection hg with hg; subst hg; exact .inr (fun e => absurd ((hI3.at_ 0 rfl : Go.Adm.Own w3 w.heap.size 72 33 A' k c' _).lt e).2 (Nat.lt_irrefl _)), fun g hg => by injection hg with hg; subst hg; exact (hI3.at_ 1 rfl : _ ∧ _).2, trivial⟩)
          clear hb3
          cases hp : parseD d.data.toList with
          | none =>
            rw [hp] at hlo
            clear hpl
            have HF : Hid (rawS tag ls = none) := Lib.hid (rawS_bad hkl hlo)
            clear hlo hp
            generalize parsed d.data.toList = v at *
            go_wp2_with (refine wl_store_at (hI3.new (l := z32.map bv) _ 58 rfl rfl) 0 rfl 58 (.tmp 8) (.tmp 40) rfl w3.heap.size _ _ (v.map bv) rfl rfl rfl HPL.out (by rw [HPL.out]; kernel_rfl) (bv_one _) hap ?_; intro W2 hW2 hs2)
            go_ret2
            exact ⟨none, 0, by rw [HF.out]; rfl, by rw [HF.out]; exact Go.Adm.Own.nil _ _ _ _, (hW2.at_ 2 rfl : _ ∧ _).1⟩
          | some v =>
            rw [hp] at hlo
            have hpv : parsed d.data.toList = v := by unfold parsed; rw [hp]; rfl
            rw [hpv] at hpl HPL ⊢
            have HE32 : Hid (E32 (⟨p, v⟩ : E)) := Lib.hid ⟨hpl, hps⟩
            have HRT : Hid (ReadTo tag ls (k + 1) (o ++ [⟨p, v⟩])) := Lib.hid (HO.out.succ hkl hlo HE32.out)
            clear hlo hp hpv hpl
            go_upto_region 10 with (refine wl_store_at (hI3.new (l := z32.map bv) _ 58 rfl rfl) 0 rfl 58 (.tmp 8) (.tmp 40) rfl w3.heap.size _ _ (v.map bv) rfl rfl rfl HPL.out (by rw [HPL.out]; kernel_rfl) (bv_one _) hap ?_; intro W2 hW2 hs2)
            have hW3 : All W2 [.cells w3.heap.size 58 (v.map bv), .own w.heap.size 72 33 A' k c' (o.map entC).flatten, .kept w w.heap.size] := hW2
            generalize w3.heap.size = gx at *
            clear hW2 hs2 hap hI3 x0 x1 x2 x3 x1' x3'
            refine wp_region_hops 10 [44, 45, 46, 47, 48, 49, 50, 51, 52, 53] [.cells gx 58 (v.map bv), .own w.heap.size 72 33 A' k c' (o.map entC).flatten, .kept w w.heap.size]
              [.eq (.slice A' k c'), .eq (.slice (some ad) n c), .eq (.int .i64 k), .eq (.pointer (some (ad.add k))), .eq (.slice (some rad) 3 c2), .eq (.pointer (some ⟨rad.block, rad.off + 1, none⟩)), .eq (.string p), .eq (.agg (v.map bv).toArray), .eq (.agg (entC (⟨p, v⟩ : E)).toArray), .rd 33 1 (entC (⟨p, v⟩ : E))]
              (by kernel_rfl) (by kernel_rfl) hW3 rfl ?hops ?fin
            case hops =>
              refine ⟨?_, ?_, ?_, ?_, ?_, ?_, ?_, ?_, ?_, ?_, trivial⟩
              · intro a W hW hb hd K hK
                have b6 := hb 6 rfl
                go_simp
                exact hK _ _ (World.grownBy.refl _ _) rfl
              · intro a W hW hb hd K hK
                have b1 := hb 1 rfl
                go_simp
                exact hK _ _ (World.grownBy.refl _ _) rfl
              · intro a W hW hb hd K hK
                have b7 := hb 7 rfl
                go_simp
                exact hK _ _ (World.grownBy.refl _ _) rfl
              · intro a W hW hb hd K hK
                have b45 : a.tmps[45]?.getD undef = _ := hd ⟨1, .data⟩ (by simp) rfl
                have b46 : a.tmps[46]?.getD undef = _ := hd ⟨2, .data⟩ (by simp) rfl
                go_simp
                exact hK _ _ (World.grownBy.refl _ _) rfl
              · intro a W hW hb hd K hK
                have b47 : a.tmps[47]?.getD undef = _ := hd ⟨3, .data⟩ (by simp) rfl
                have q1 : W.cell? (ad.add k) = some (.slice (some rad) 3 c2) := (HC.out W (hW.at_ 2 rfl : _ ∧ _).1).1
                go_simp
                exact hK _ _ (World.grownBy.refl _ _) rfl
              · intro a W hW hb hd K hK
                have b48 : a.tmps[48]?.getD undef = _ := hd ⟨4, .data⟩ (by simp) rfl
                go_simp
                exact hK _ _ (World.grownBy.refl _ _) rfl
              · intro a W hW hb hd K hK
                have b49 : a.tmps[49]?.getD undef = _ := hd ⟨5, .data⟩ (by simp) rfl
                have q1 : W.cell? ⟨rad.block, rad.off + 1, none⟩ = some (.string p) := (HC.out W (hW.at_ 2 rfl : _ ∧ _).1).2.2.1
                go_simp
                exact hK _ _ (World.grownBy.refl _ _) rfl
              · intro a W hW hb hd K hK
                have b8 := hb 8 rfl
                refine wp_load_any 58 (.tmp 8) rfl ⟨gx, 0, none⟩ (show a.eval (.tmp 8) = _ from by simp only [Act.eval, Array.getD_eq_getD_getElem?]; exact b8) (v.map bv) _ (Cells.sub (hW.at_ 0 rfl) 0 (fun j u h => by rwa [Nat.zero_add])) Tryd.underlying58 rfl (by rw [HPL.out]; kernel_rfl) ?_
                exact hK _ _ (World.grownBy.refl _ _) rfl
              · intro a W hW hb hd K hK
                have b50 : a.tmps[50]?.getD undef = _ := hd ⟨6, .data⟩ (by simp) rfl
                have b51 : a.tmps[51]?.getD undef = _ := hd ⟨7, .data⟩ (by simp) rfl
                refine wp_bld' 72 [(0, .tmp 50), (1, .tmp 51)] rfl _ _ #[(0, 1), (1, 32)] (entC (⟨p, v⟩ : E)).toArray zero_ent Tryd.underlying72 (fun w => by kernel_rfl) ?_ ?_
                · simp only [List.map_cons, List.map_nil]
                  rw [(show a.eval (.tmp 50) = _ from by simp only [Act.eval, Array.getD_eq_getD_getElem?]; exact b50), (show a.eval (.tmp 51) = _ from by simp only [Act.eval, Array.getD_eq_getD_getElem?]; exact b51)]
                  exact fill_ent p v HE32.out.1
                exact hK _ _ (World.grownBy.refl _ _) rfl
              · intro a W hW hb hd K hK
                have b52 : a.tmps[52]?.getD undef = _ := hd ⟨8, .data⟩ (by simp) rfl
                refine wp_lit1 el_ent (.tmp 52) rfl (entC (⟨p, v⟩ : E)) (show a.eval (.tmp 52) = _ from by simp only [Act.eval, Array.getD_eq_getD_getElem?]; exact b52) (entC_len HE32.out) (by decide) ?_
                exact hK _ _ (grown_alloc _ _) ⟨_, _, rfl, by have := Rd.lit W (entC (⟨p, v⟩ : E)).toArray 72 1 (size := 33) (by rw [List.size_toArray]; exact entC_len HE32.out); simpa using this⟩
            case fin =>
              intro vs V hV hv
              have e0 : vs 0 = _ := hv 0 (by decide)
              obtain ⟨A9, c9, e9, hRd⟩ := (hv 9 (by decide) : VF.ok (.rd 33 1 (entC (⟨p, v⟩ : E))) (vs 9) V)
              clear hv
              simp only [putAll, List.drop_succ_cons, List.drop_zero, e0, e9, Act.put, List.setIfInBounds_toArray, List.set_cons_succ, List.set_cons_zero]
              clear e0 e9
              have hsV : w.heap.size ≤ V.heap.size := hV.size_kept 2 rfl
              go_wp2_with (at_builtin; refine wl_app_at el_ent hV.2 0 rfl (.tmp 44) (.tmp 53) rfl w.heap.size _ _ _ _ rfl rfl V.heap.size A9 1 c9 (entC (⟨p, v⟩ : E)) rfl hRd (entC_one _) (by omega) hsV (by intro g hg h; simp [Apart, Res.apart] <;> omega) ?_; intro A7 c7 w7 hI7 hs7)
              refine ⟨⟨k + 1, A7, c7, o ++ [⟨p, v⟩], by omega, by go_num, rfl, hI7.size_kept 1 rfl, HRT, ?_⟩, by simp [intOf]; omega⟩
              rw [List.map_append, List.flatten_append]
              simpa using hI7
      · obtain ⟨ad, A2, c2, rfl, hcl, hlc, hc2, _⟩ := HL.out.at_in hkp hB hkl
        rw [hrow] at hcl hlc
        have hlo : lineOf tag ls[k] = none := by rw [hrow]; exact lineOf_len hr3
        have d3 : ((row.length : Int) != 3) = true := by simp; omega
        have HF : Hid (rawS tag ls = none) := Lib.hid (rawS_bad hkl hlo)
        clear hlo hrow hr3 hkB
        go_wp2_with fail
        go_ret2
        exact ⟨none, 0, by rw [HF.out]; rfl, by rw [HF.out]; exact Go.Adm.Own.nil _ _ _ _, hkp⟩
    · have hkn : k = n := by omega
      have d1 : decide ((k : Int) < (n : Int)) = false := by simp; omega
      have hraw := HO.out.done (by have := HN.out; omega)
      have hlen := HO.out.2.1
      have HL3 := Lib.hid hlen
      have HA32 := Lib.hid HO.out.2.2.1
      have HF := Lib.hid hraw
      clear hraw hlen hkn
      go_wp2_with fail
      go_ret2
      exact ⟨A', c', by rw [HF.out]; simp [HL3.out], by rw [HF.out]; show Go.Adm.Own wr w.heap.size 72 33 A' o.length c' (o.map entC).flatten; rw [HL3.out]; exact hI.at_ 0 rfl, hkp⟩

set_option maxHeartbeats 1600000 in
theorem refRead_any (tag : ByteArray) (w : World) (m : Int) (hm : w.cell? ⟨0, 0, none⟩ = some (.int .i64 m)) (B : Nat) (A : Option Addr) (n c : Nat) (ls : List (List ByteArray)) (hl : Lines w B A n ls) (hB : B ≤ w.heap.size) (hn2 : n ≤ 1000) :
    Calls Tryd.prog 26 #[.string tag, .slice A n c] w (ResPost entC 33 (readS tag ls).1 (readS tag ls).2 72 w) := by
  have hraw := refRaw_any tag w B A n c ls hl hB hn2
  have HLL := Lib.hid hl.len
  have H32 := Lib.hid (raw_32 tag hl)
  clear hl
  go_enter Tryd.func26, Tryd.ntmps26
  go_wp2_with fail
  refine hraw.mono ?_
  clear hraw
  rintro e w1 ⟨A1, c1, rfl, ho, hb⟩
  have hs1 := hb.size
  cases hr : rawS tag ls with
  | none =>
    have HF : Hid (readS tag ls = ([], 2)) := Lib.hid (by unfold readS; rw [hr])
    clear hr ho
    go_wp2_with fail
    go_ret2
    rw [HF.out]
    exact ResPost.nil rfl hb
  | some o =>
    obtain ⟨h32, hlen⟩ := H32.out o hr
    rw [hr] at ho
    have ho' : Go.Adm.Own w1 w.heap.size 72 33 A1 o.length c1 (o.map entC).flatten := ho
    have hval := refValid_any w1 m (glob_keep hm hb) w1.heap.size A1 o.length c1 o (els_ofE ho' h32) h32 rfl (by have := HLL.out; omega) (Nat.le_refl _)
    have hI : All w1 [.own w.heap.size 72 33 A1 o.length c1 (o.map entC).flatten, .kept w w.heap.size] := ⟨ho', ⟨hb, hs1⟩, trivial⟩
    clear ho ho' hb hs1 h32
    cases hv : validB o with
    | true =>
      rw [hv] at hval
      have HF : Hid (readS tag ls = (o, 0)) := Lib.hid (by unfold readS; rw [hr]; simp [hv])
      clear hr hv
      go_wp2_with fail
      refine hval.mono ?_
      clear hval
      rintro e w5 ⟨rfl, hb5⟩
      have hI5 := hI.call hb5
      go_wp2_with fail
      go_ret2
      rw [HF.out]
      exact ⟨A1, c1, rfl, hI5.at_ 0 rfl, (hI5.at_ 1 rfl : _ ∧ _).1⟩
    | false =>
      rw [hv] at hval
      have HF : Hid (readS tag ls = ([], 1)) := Lib.hid (by unfold readS; rw [hr]; simp [hv])
      clear hr hv
      go_wp2_with fail
      refine hval.mono ?_
      clear hval
      rintro e w5 ⟨rfl, hb5⟩
      have hI5 := hI.call hb5
      go_wp2_with fail
      go_ret2
      rw [HF.out]
      exact ResPost.nil rfl (hI5.at_ 1 rfl : _ ∧ _).1
end Go.Proofs.YtieobkgdkiahbaaDoor
set_option linter.unusedSimpArgs false
set_option linter.unusedVariables false
set_option maxRecDepth 100000
namespace Go.Proofs.YtieobkgdkiahbaaDoor
open Go Go.RowKit Go.Adm

set_option maxHeartbeats 1600000 in
theorem wSame_true (w : World) (B : Nat) (A1 A2 : Option Addr) (n c1 c2 : Nat) (ss : List ByteArray) (h1 : Strs w B A1 n ss) (h2 : Strs w B A2 n ss) (hB : B ≤ w.heap.size) (hn : n ≤ 140737488355328) :
    Calls Tryd.prog 59 #[.slice A1 n c1, .slice A2 n c2] w fun e w' => e = .returned (.bool true) ∧ Below w.heap.size w w' := by
  have HN := Lib.hid h1.len
  have H1 := Lib.hid h1
  have H2 := Lib.hid h2
  clear h1 h2
  go_enter Tryd.func59, Tryd.ntmps59
  go_wp2
  go_loopw [5] (fun i wr => ∃ k : Nat, k ≤ n ∧ i = .int .i64 k ∧ All wr [.kept w w.heap.size]) (fun i _ => n - (intOf i).toNat)
  case atStart => exact ⟨0, by omega, rfl, ⟨Below.refl _ _, Nat.le_refl _⟩, trivial⟩
  case round =>
    obtain ⟨k, hk, rfl, hI⟩ := hrel
    have hkp := (hI.at_ 0 rfl : _ ∧ _).1
    by_cases hlt : k < n
    · have hkl : k < ss.length := by rw [HN.out]; exact hlt
      obtain ⟨a1, rfl, x1, _⟩ := H1.out.at_in hkp hB hkl
      obtain ⟨a2, rfl, x2, _⟩ := H2.out.at_in hkp hB hkl
      generalize ss[k] = x at *
      have d1 : decide ((k : Int) < (n : Int)) = true := by simp; omega
      have wk0 : (0 : Int) ≤ (k : Int) := by omega
      have wk1 : (k : Int) < (n : Int) := by omega
      have wk2 : ((k : Int)).toNat = k := by omega
      have q1 : (x.toList == x.toList) = true := by simp
      go_upto_region 6 with (fail)
      go_quiet (fail)
      have hI1 := hI.drewN nq
      clear x1 x2 hI hkp
      generalize wr.drewN nq = wq at *
      go_wp2_with fail
      exact ⟨⟨k + 1, by omega, by go_num, hI1⟩, by simp [intOf]; omega⟩
    · have d1 : decide ((k : Int) < (n : Int)) = false := by simp; omega
      go_wp2_with fail
      go_ret
      exact ⟨rfl, hkp⟩

set_option maxHeartbeats 1600000 in
theorem SameLines_true (w : World) (B : Nat) (A1 A2 : Option Addr) (n c1 c2 : Nat) (ls : List (List ByteArray)) (h1 : Lines w B A1 n ls) (h2 : Lines w B A2 n ls) (hB : B ≤ w.heap.size) (hn : n ≤ 1000000) :
    Calls Tryd.prog 27 #[.slice A1 n c1, .slice A2 n c2] w fun e w' => e = .returned (.bool true) ∧ Below w.heap.size w w' := by
  have HN := Lib.hid h1.len
  have H1 := Lib.hid h1
  have H2 := Lib.hid h2
  clear h1 h2
  go_enter Tryd.func27, Tryd.ntmps27
  go_wp2
  go_loopw [5] (fun i wr => ∃ k : Nat, k ≤ n ∧ i = .int .i64 k ∧ All wr [.kept w w.heap.size]) (fun i _ => n - (intOf i).toNat)
  case atStart => exact ⟨0, by omega, rfl, ⟨Below.refl _ _, Nat.le_refl _⟩, trivial⟩
  case round =>
    obtain ⟨k, hk, rfl, hI⟩ := hrel
    have hkp := (hI.at_ 0 rfl : _ ∧ _).1
    by_cases hlt : k < n
    · have hkl : k < ls.length := by rw [HN.out]; exact hlt
      obtain ⟨a1, R1, e1, rfl, b1, x1, y1, z1, s1⟩ := H1.out.at_ hkl
      obtain ⟨a2, R2, e2, rfl, b2, x2, y2, z2, s2⟩ := H2.out.at_ hkl
      have HX : Hid (∀ W, Below w.heap.size w W → W.cell? (a1.add k) = some (.slice R1 ls[k].length e1) ∧ W.cell? (a2.add k) = some (.slice R2 ls[k].length e2) ∧ Strs W B R1 ls[k].length ls[k] ∧ Strs W B R2 ls[k].length ls[k]) := Lib.hid (fun W hb => ⟨(hb.cell (by rw [add_block]; omega)).trans x1, (hb.cell (by rw [add_block]; omega)).trans x2, s1.below hb hB, s2.below hb hB⟩)
      have hrl : ls[k].length ≤ 140737488355328 := by omega
      clear x1 x2 s1 s2 y1 y2 z1 z2
      generalize ls[k] = row at *
      have d1 : decide ((k : Int) < (n : Int)) = true := by simp; omega
      have wk0 : (0 : Int) ≤ (k : Int) := by omega
      have wk1 : (k : Int) < (n : Int) := by omega
      have wk2 : ((k : Int)).toNat = k := by omega
      go_upto_region 6 with (fail)
      refine wp_region_hops 9 [17, 18, 19, 20, 21, 22, 23, 24, 25] [.kept w w.heap.size]
        [.eq (.slice (some a1) n c1), .eq (.int .i64 k), .eq (.pointer (some (a1.add k))), .eq (.slice R1 row.length e1), .eq (.slice (some a2) n c2), .eq (.int .i64 k), .eq (.pointer (some (a2.add k))), .eq (.slice R2 row.length e2), .eq (.bool true)]
        (by kernel_rfl) (by kernel_rfl) hI rfl ?hops ?fin
      case hops =>
        refine ⟨?_, ?_, ?_, ?_, ?_, ?_, ?_, ?_, ?_, trivial⟩
        · intro a W hW hb hd K hK
          have b0 := hb 0 rfl
          go_simp
          exact hK _ _ (World.grownBy.refl _ _) rfl
        · intro a W hW hb hd K hK
          have b5 := hb 5 rfl
          go_simp
          exact hK _ _ (World.grownBy.refl _ _) rfl
        · intro a W hW hb hd K hK
          have b17 : a.tmps[17]?.getD undef = _ := hd ⟨0, .data⟩ (by simp) rfl
          have b18 : a.tmps[18]?.getD undef = _ := hd ⟨1, .data⟩ (by simp) rfl
          go_simp
          exact hK _ _ (World.grownBy.refl _ _) rfl
        · intro a W hW hb hd K hK
          have b19 : a.tmps[19]?.getD undef = _ := hd ⟨2, .data⟩ (by simp) rfl
          have q1 : W.cell? (a1.add k) = some (.slice R1 row.length e1) := (HX.out W (hW.at_ 0 rfl : _ ∧ _).1).1
          go_simp
          exact hK _ _ (World.grownBy.refl _ _) rfl
        · intro a W hW hb hd K hK
          have b1 := hb 1 rfl
          go_simp
          exact hK _ _ (World.grownBy.refl _ _) rfl
        · intro a W hW hb hd K hK
          have b5 := hb 5 rfl
          go_simp
          exact hK _ _ (World.grownBy.refl _ _) rfl
        · intro a W hW hb hd K hK
          have b21 : a.tmps[21]?.getD undef = _ := hd ⟨4, .data⟩ (by simp) rfl
          have b22 : a.tmps[22]?.getD undef = _ := hd ⟨5, .data⟩ (by simp) rfl
          go_simp
          exact hK _ _ (World.grownBy.refl _ _) rfl
        · intro a W hW hb hd K hK
          have b23 : a.tmps[23]?.getD undef = _ := hd ⟨6, .data⟩ (by simp) rfl
          have q1 : W.cell? (a2.add k) = some (.slice R2 row.length e2) := (HX.out W (hW.at_ 0 rfl : _ ∧ _).1).2.1
          go_simp
          exact hK _ _ (World.grownBy.refl _ _) rfl
        · intro a W hW hb hd K hK
          have b20 : a.tmps[20]?.getD undef = _ := hd ⟨3, .data⟩ (by simp) rfl
          have b24 : a.tmps[24]?.getD undef = _ := hd ⟨7, .data⟩ (by simp) rfl
          go_simp
          refine (wSame_true W B R1 R2 row.length e1 e2 row (HX.out W (hW.at_ 0 rfl : _ ∧ _).1).2.2.1 (HX.out W (hW.at_ 0 rfl : _ ∧ _).1).2.2.2 (Nat.le_trans hB (hW.at_ 0 rfl : _ ∧ _).2) hrl).mono ?_
          rintro e w' ⟨rfl, hb'⟩
          exact hK _ _ (grown_of_below hb') rfl
      case fin =>
        intro vs V hV hv
        have e8 : vs 8 = _ := hv 8 (by decide)
        clear hv
        simp only [putAll, List.drop_succ_cons, List.drop_zero, e8, Act.put, List.setIfInBounds_toArray, List.set_cons_succ, List.set_cons_zero]
        clear e8
        go_wp2_with fail
        exact ⟨⟨k + 1, by omega, by go_num, hV⟩, by simp [intOf]; omega⟩
    · have d1 : decide ((k : Int) < (n : Int)) = false := by simp; omega
      go_wp2_with fail
      go_ret
      exact ⟨rfl, hkp⟩
end Go.Proofs.YtieobkgdkiahbaaDoor
set_option linter.unusedSimpArgs false
set_option linter.unusedVariables false
set_option maxRecDepth 100000
namespace Go.Adm
open Go Go.RowKit
theorem lineOf_ent (tag : ByteArray) {x : E} (h : E32 x) : lineOf tag (entLn tag x) = some x := by
  show (if tag.toList == tag.toList then (parseD (fmtL x.d)).map (fun v => (⟨x.p, v⟩ : E)) else none) = some x
  rw [beq_self_eq_true, if_pos rfl, parseD_fmt x.d h.1]
  rfl
theorem rawS_back (tag : ByteArray) {l : List E} (h : ∀ x ∈ l, E32 x) : rawS tag (entLs tag l) = some l := by
  have h1 : (entLs tag l).all (fun l => (lineOf tag l).isSome) = true := by
    rw [List.all_eq_true]
    intro y hy
    obtain ⟨x, hx, rfl⟩ := List.mem_map.1 hy
    rw [lineOf_ent tag (h x hx)]
    rfl
  unfold rawS
  rw [if_pos h1]
  congr 1
  clear h1
  induction l with
  | nil => rfl
  | cons x r ih =>
    show List.filterMap (lineOf tag) (entLn tag x :: entLs tag r) = x :: r
    rw [List.filterMap_cons, lineOf_ent tag (h x (by simp))]
    exact congrArg (List.cons x) (ih fun y hy => h y (by simp [hy]))
theorem readS_ok (tag : ByteArray) {w : World} {B n : Nat} {A : Option Addr} {ls : List (List ByteArray)} (h : Lines w B A n ls) : (∀ x ∈ (readS tag ls).1, E32 x) ∧ (readS tag ls).1.length ≤ n := by
  have h1 := raw_32 tag h
  have h2 := h.len
  unfold readS
  cases hr : rawS tag ls with
  | none => exact ⟨by simp, by simp⟩
  | some o =>
    obtain ⟨h3, h4⟩ := h1 o hr
    dsimp only
    split
    · exact ⟨h3, by dsimp only; omega⟩
    · exact ⟨by simp, by simp⟩
end Go.Adm
namespace Go.Proofs.YtieobkgdkiahbaaDoor
open Go Go.RowKit Go.Adm

set_option maxHeartbeats 3200000 in
theorem walkLines (tag : ByteArray) (htag : tag.size ≤ 140737488355328) (w : World) (m : Int) (hm : w.cell? ⟨0, 0, none⟩ = some (.int .i64 m)) (B : Nat) (A1 : Option Addr) (n1 c1 : Nat) (a : List E) (h1 : Els w B 33 A1 n1 (a.map entC)) (ha : ∀ e ∈ a, E32 e) (e1 : a.length = n1) (A2 : Option Addr) (n2 c2 : Nat) (ls : List (List ByteArray)) (hl : Lines w B A2 n2 ls) (hB : B ≤ w.heap.size) :
    Calls Tryd.prog 6 #[.string tag, .slice A1 n1 c1, .slice A2 n2 c2] w fun e w' => e = .returned (.bool true) ∧ Below w.heap.size w w' := by
  have hR : All w [.low (.els B 33 A1 n1 (a.map entC)), .kept w w.heap.size] := ⟨⟨h1, hB⟩, ⟨Below.refl _ _, Nat.le_refl _⟩, trivial⟩
  by_cases q1 : 200 < n1
  · have d1 : decide ((n1 : Int) ≤ 200) = false := by simp; omega
    have hc1 := light_any w A1 n1 c1
    rw [d1] at hc1
    go_enter Tryd.func6, Tryd.ntmps6
    go_wp2_with fail
    refine hc1.mono ?_
    rintro e w1 ⟨rfl, rfl⟩
    go_wp2_with fail
    go_ret
    exact ⟨rfl, Below.refl _ _⟩
  have d1 : decide ((n1 : Int) ≤ 200) = true := by simp; omega
  have hc1 := light_any w A1 n1 c1
  rw [d1] at hc1
  clear d1
  by_cases q2 : 100 < n2
  · have d2 : decide (100 < (n2 : Int)) = true := by simp; omega
    go_enter Tryd.func6, Tryd.ntmps6
    go_wp2_with fail
    refine hc1.mono ?_
    rintro e w1 ⟨rfl, rfl⟩
    go_wp2_with fail
    go_ret
    exact ⟨rfl, Below.refl _ _⟩
  have d2 : decide (100 < (n2 : Int)) = false := by simp; omega
  have HA := Lib.hid ha
  have HN := Lib.hid e1
  have HL := Lib.hid hl
  have hn1 : n1 ≤ 200 := by omega
  have hn2 : n2 ≤ 100 := by omega
  obtain ⟨hr32, hrl⟩ := readS_ok tag hl
  have hrl2 : (readS tag ls).1.length ≤ 100 := by omega
  have HR32 := Lib.hid hr32
  have HP1 : Hid (∀ W : World, All W [.low (.els B 33 A1 n1 (a.map entC)), .kept w w.heap.size] → Calls Tryd.prog 25 #[.string tag, .slice A2 n2 c2] W (ResPost entC 33 (readS tag ls).1 (readS tag ls).2 72 W)) := Lib.hid fun W hW => Read_any tag W B A2 n2 c2 ls (HL.out.below (hW.at_ 1 rfl : _ ∧ _).1 hB) (hW.at_ 0 rfl : _ ∧ B ≤ W.heap.size).2 (by omega)
  have HP2 : Hid (∀ W : World, All W [.low (.els B 33 A1 n1 (a.map entC)), .kept w w.heap.size] → Calls Tryd.prog 26 #[.string tag, .slice A2 n2 c2] W (ResPost entC 33 (readS tag ls).1 (readS tag ls).2 72 W)) := Lib.hid fun W hW => refRead_any tag W m (glob_keep hm (hW.at_ 1 rfl : _ ∧ _).1) B A2 n2 c2 ls (HL.out.below (hW.at_ 1 rfl : _ ∧ _).1 hB) (hW.at_ 0 rfl : _ ∧ B ≤ W.heap.size).2 (by omega)
  have HBK : Hid (rawS tag (entLs tag a) = some a) := Lib.hid (rawS_back tag ha)
  clear h1 ha e1 hl hr32 hrl q1 q2
  generalize (readS tag ls).1 = r at *
  generalize (readS tag ls).2 = er at *
  go_enter Tryd.func6, Tryd.ntmps6
  go_wp2_with fail
  refine hc1.mono ?_
  rintro e w1 ⟨rfl, hw1⟩
  rw [hw1]
  clear hw1 hc1
  go_wp2_with fail
  refine (HP1.out w hR).mono ?_
  rintro e w2 ⟨A4, k4, rfl, ho, hb⟩
  have hJ2 : All w2 [.own w.heap.size 72 33 A4 r.length k4 (r.map entC).flatten, .low (.els B 33 A1 n1 (a.map entC)), .kept w w.heap.size] := ⟨ho, hR.call hb⟩
  clear HP1 ho hb hR
  go_wp2_with fail
  refine (HP2.out w2 (hJ2.erase 0)).mono ?_
  rintro e w3 ⟨A5, k5, rfl, ho, hb⟩
  have hz3 : w.heap.size ≤ w2.heap.size := hJ2.size_kept 2 rfl
  have hJ3 : All w3 [.own w.heap.size 72 33 A5 r.length k5 (r.map entC).flatten, .own w.heap.size 72 33 A4 r.length k4 (r.map entC).flatten, .low (.els B 33 A1 n1 (a.map entC)), .kept w w.heap.size] := ⟨ho.less hz3, hJ2.call hb⟩
  clear HP2 ho hb hJ2 hz3
  go_wp2_with fail
  refine (Same_true w3 w3.heap.size A4 A5 r.length k4 k5 r (els_ofE (hJ3.at_ 1 rfl) HR32.out) (els_ofE (hJ3.at_ 0 rfl) HR32.out) HR32.out rfl (by omega) (Nat.le_refl _)).mono ?_
  rintro e w4 ⟨rfl, hb⟩
  have hJ4 := ((hJ3.call hb).erase 0).erase 0
  clear hJ3 hb
  have hli := Lines_any tag htag w4 B A1 n1 c1 a (hJ4.at_ 0 rfl : _ ∧ _).1 HA.out HN.out (by omega) (hJ4.at_ 0 rfl : _ ∧ _).2
  go_wp2_with fail
  refine hli.mono ?_
  clear hli
  rintro e w5 ⟨A6, k6, rfl, hk6, hb, hl6⟩
  have hJ5 := hJ4.call hb
  have HL6 := Lib.hid hl6
  clear hJ4 hb hl6
  have hli := refLines_any tag htag w5 B A1 n1 c1 a (hJ5.at_ 0 rfl : _ ∧ _).1 HA.out HN.out (by omega) (hJ5.at_ 0 rfl : _ ∧ _).2
  go_wp2_with fail
  refine hli.mono ?_
  clear hli
  rintro e w6 ⟨A7, k7, rfl, hk7, hb, hl7⟩
  have hJ6 := hJ5.call hb
  have hs6 := hb.size
  have hsl := SameLines_true w6 w6.heap.size A6 A7 n1 k6 k7 _ ((HL6.out.below hb (Nat.le_refl _)).mono hs6) hl7 (Nat.le_refl _) (by omega)
  clear hJ5 hb hl7 hs6 HL6
  go_wp2_with fail
  refine hsl.mono ?_
  clear hsl
  rintro e w7 ⟨rfl, hb⟩
  have hJ7 := hJ6.call hb
  clear hJ6 hb
  have hli := Lines_any tag htag w7 B A1 n1 c1 a (hJ7.at_ 0 rfl : _ ∧ _).1 HA.out HN.out (by omega) (hJ7.at_ 0 rfl : _ ∧ _).2
  go_wp2_with fail
  refine hli.mono ?_
  clear hli
  rintro e w8 ⟨A8, k8, rfl, hk8, hb, hl8⟩
  have hJ8 := hJ7.call hb
  have hrd := Read_any tag w8 w8.heap.size A8 n1 k8 _ hl8 (Nat.le_refl _) (by omega)
  clear hJ7 hb hl8
  cases hv : validB a with
  | true =>
    have hrs : readS tag (entLs tag a) = (a, 0) := by unfold readS; rw [HBK.out]; simp [hv]
    rw [hrs] at hrd
    clear hrs
    go_wp2_with fail
    refine hrd.mono ?_
    clear hrd
    rintro e w9 ⟨A9, k9, rfl, ho, hb⟩
    have hz9 : w.heap.size ≤ w8.heap.size := hJ8.size_kept 1 rfl
    have hJ9 : All w9 [.own w.heap.size 72 33 A9 a.length k9 (a.map entC).flatten, .low (.els B 33 A1 n1 (a.map entC)), .kept w w.heap.size] := ⟨ho.less hz9, hJ8.call hb⟩
    clear ho hb hJ8 hz9
    have hval := Valid_any w9 B A1 n1 c1 a (hJ9.at_ 1 rfl : _ ∧ _).1 HA.out HN.out (by omega) (hJ9.at_ 1 rfl : _ ∧ _).2
    rw [hv] at hval
    clear hv
    go_wp2_with fail
    refine hval.mono ?_
    clear hval
    rintro e w10 ⟨rfl, hb⟩
    have hJ10 := hJ9.call hb
    clear hJ9 hb
    go_wp2_with fail
    refine (awake_any _).mono ?_
    rintro e w11 ⟨rfl, hb⟩
    have hJ11 := hJ10.call hb
    clear hJ10 hb
    have hown := (hJ11.at_ 0 rfl : Go.Adm.Own w11 w.heap.size 72 33 A9 a.length k9 _)
    have hels := els_ofE hown HA.out
    have hel2 := (hJ11.at_ 1 rfl : Els w11 B 33 A1 n1 (a.map entC) ∧ B ≤ w11.heap.size)
    have hst : Calls Tryd.prog 15 #[.slice A9 a.length k9, .slice A1 n1 c1] w11 fun e w' => e = .returned (.bool true) ∧ Below w11.heap.size w11 w' := by
      have e1 := HN.out
      subst e1
      exact Same_true w11 w11.heap.size A9 A1 a.length k9 c1 a hels (hel2.1.mono hel2.2) HA.out rfl (by omega) (Nat.le_refl _)
    clear hown hels hel2
    go_wp2_with fail
    refine hst.mono ?_
    clear hst
    rintro e w12 ⟨rfl, hb⟩
    have hJ12 := hJ11.call hb
    go_wp2_with fail
    go_ret
    exact ⟨rfl, (hJ12.at_ 2 rfl : _ ∧ _).1⟩
  | false =>
    have hrs : readS tag (entLs tag a) = ([], 1) := by unfold readS; rw [HBK.out]; simp [hv]
    rw [hrs] at hrd
    clear hrs
    go_wp2_with fail
    refine hrd.mono ?_
    clear hrd
    rintro e w9 ⟨A9, k9, rfl, ho, hb⟩
    have hJ9 := hJ8.call hb
    clear ho hb hJ8
    have hval := Valid_any w9 B A1 n1 c1 a (hJ9.at_ 0 rfl : _ ∧ _).1 HA.out HN.out (by omega) (hJ9.at_ 0 rfl : _ ∧ _).2
    rw [hv] at hval
    clear hv
    go_wp2_with fail
    refine hval.mono ?_
    clear hval
    rintro e w10 ⟨rfl, hb⟩
    have hJ10 := hJ9.call hb
    clear hJ9 hb
    go_wp2_with fail
    refine (awake_any _).mono ?_
    rintro e w11 ⟨rfl, hb⟩
    have hJ11 := hJ10.call hb
    clear hJ10 hb
    go_wp2_with fail
    go_ret
    exact ⟨rfl, (hJ11.at_ 1 rfl : _ ∧ _).1⟩
end Go.Proofs.YtieobkgdkiahbaaDoor
