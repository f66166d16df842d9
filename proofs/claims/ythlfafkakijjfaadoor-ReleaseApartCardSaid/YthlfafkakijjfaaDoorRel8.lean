/- A document of one line is read into the fields of an approval. -/
import Derived.Test.YthlfafkakijjfaaDoorRel7
import Derived.Test.YthlfafkakijjfaaDoorDec3
set_option linter.unusedSimpArgs false
set_option linter.unusedVariables false
set_option maxRecDepth 100000
namespace Go.Adm
open Go Go.RowKit Go.AdP
structure App where
  d : List UInt8
  t : Int
def appC (x : App) : List Value := x.d.map bv ++ [.int .i64 x.t]
def appZ : List Value := z32.map bv ++ [.int .i64 0]
def appW : ByteArray := ⟨#[97, 112, 112, 114, 111, 118, 97, 108]⟩
/-- the approval of a line -/
def appLn (l : List ByteArray) : Option App := match l with
  | [k, d, t] => if k.toList = [97, 112, 112, 114, 111, 118, 97, 108] then (match parseD d.data.toList, parseS t.data.toList with | some v, some n => some ⟨v, (n : Int)⟩ | _, _ => none) else none
  | _ => none
/-- the approval of bytes, before it is checked -/
def appF (b : List UInt8) : Option App := if (decR b).2 = 0 then (match (decR b).1 with | [l] => appLn l | _ => none) else none
def appE (b : List UInt8) : Int := if (decR b).2 = 0 then (if (appF b).isSome then 0 else 2) else (decR b).2
theorem appE_none {b : List UInt8} (h0 : (decR b).2 = 0) (h : appF b = none) : appE b = 2 := by unfold appE; rw [if_pos h0, h]; rfl
theorem appE_some {b : List UInt8} {x : App} (h0 : (decR b).2 = 0) (h : appF b = some x) : appE b = 0 := by unfold appE; rw [if_pos h0, h]; rfl
theorem appE_bad {b : List UInt8} (h0 : (decR b).2 ≠ 0) : appE b = (decR b).2 := by unfold appE; rw [if_neg h0]
theorem appF_bad {b : List UInt8} (h0 : (decR b).2 ≠ 0) : appF b = none := by unfold appF; rw [if_neg h0]
theorem appF_len {b : List UInt8} (h : (decR b).1.length ≠ 1) : appF b = none := by
  unfold appF
  split
  · split
    · rename_i l hl; rw [hl] at h; exact absurd rfl h
    · rfl
  · rfl
theorem appF_one {b : List UInt8} {l : List ByteArray} (h0 : (decR b).2 = 0) (h : (decR b).1 = [l]) : appF b = appLn l := by unfold appF; rw [if_pos h0, h]
theorem appLn_len {l : List ByteArray} (h : l.length ≠ 3) : appLn l = none := by
  unfold appLn
  split
  · exact absurd rfl h
  · rfl
theorem grown_two {w1 w2 w3 : World} {G : Nat} (h : w1.grownBy w2 (some G)) (k : w2.grownBy w3 (some G)) : w1.grownBy w3 (some G) :=
  ⟨k.os.trans h.os, k.tape.trans h.tape, k.output.trans h.output, Nat.le_trans h.size k.size, fun b hb hn => (k.block b (Nat.lt_of_lt_of_le hb h.size) hn).trans (h.block b hb hn)⟩
theorem Cells.apart {w w' : World} {G g : Nat} {t : TypeId} {cs : List Value} (h : Cells w g t cs) (hg : w.grownBy w' (some G)) (hne : g ≠ G) : Cells w' g t cs := by
  have hlt := Cells.lt h
  unfold Cells at h ⊢
  rw [hg.block g hlt (by intro e; injection e with e; first | exact hne e | exact hne e.symm)]
  exact h
theorem cellG {w w' : World} {G : Nat} {p : Addr} {v : Value} (h : w.cell? p = some v) (hg : w.grownBy w' (some G)) (hne : p.block ≠ G) : w'.cell? p = some v :=
  (World.cell?_of_block (w := w) (hg.block _ (World.block_lt_of_cell? w _ h) (by intro e; injection e with e; first | exact hne e | exact hne e.symm))).trans h
/-- the cells of an approval are numbers -/
theorem app_int : ∀ v ∈ appZ, ∃ k z, v = .int k z := by
  intro v hv
  unfold appZ at hv
  rw [List.mem_append] at hv
  rcases hv with hv | hv
  · obtain ⟨x, _, rfl⟩ := List.mem_map.1 hv
    exact ⟨_, _, rfl⟩
  · simp at hv; exact ⟨_, _, hv⟩
theorem app_not {w : World} {G : Nat} {t : TypeId} {cs : List Value} (h : Cells w G t cs) (hi : ∀ v ∈ cs, ∃ k z, v = .int k z) {p : Addr} {v : Value} (hp : w.cell? p = some v) (hv : ∀ k z, v ≠ .int k z) : p.block ≠ G := by
  intro e
  unfold World.cell? at hp
  unfold Cells at h
  rw [e, h] at hp
  simp only at hp
  split at hp
  · cases hp
  · have hm : v ∈ cs.toArray := Array.mem_of_getElem? hp
    obtain ⟨k, z, e⟩ := hi v (by simpa using hm)
    exact hv k z e
/-- the fields after k words -/
def appS (d t : ByteArray) : Nat → List Value
  | 0 => appZ
  | 1 => (parsed d.data.toList).map bv ++ [.int .i64 0]
  | _ => (parsed d.data.toList).map bv ++ [.int .i64 (((parseS t.data.toList).getD 0 : Nat) : Int)]
theorem appS_1 (d t : ByteArray) : appZ.take 0 ++ (parsed d.data.toList).map bv ++ appZ.drop (0 + 32) = appS d t 1 := rfl
theorem appS_2 (d t : ByteArray) : (appS d t 1).set 32 (.int .i64 (((parseS t.data.toList).getD 0 : Nat) : Int)) = appS d t 2 := by
  show ((parsed d.data.toList).map bv ++ [Value.int .i64 0]).set 32 _ = _
  rw [List.set_append_right _ _ (by rw [List.length_map, parsed_len]; exact Nat.le_refl _), List.length_map, parsed_len]
  rfl
theorem appS_len (d t : ByteArray) (k : Nat) : (appS d t k).length = 33 := by
  match k with
  | 0 => rfl
  | 1 => show ((parsed d.data.toList).map bv ++ [Value.int .i64 0]).length = 33; rw [List.length_append, List.length_map, parsed_len]; rfl
  | k + 2 => show ((parsed d.data.toList).map bv ++ [Value.int .i64 _]).length = 33; rw [List.length_append, List.length_map, parsed_len]; rfl
theorem appLn_word {k d t : ByteArray} (h : k.toList ≠ [97, 112, 112, 114, 111, 118, 97, 108]) : appLn [k, d, t] = none := by unfold appLn; simp only; rw [if_neg h]
theorem appLn_d {k d t : ByteArray} (h : (parseD d.data.toList).isSome = false) : appLn [k, d, t] = none := by
  unfold appLn; simp only
  split
  · cases hd : parseD d.data.toList with
    | none => rfl
    | some v => rw [hd] at h; cases h
  · rfl
theorem appLn_t {k d t : ByteArray} (h : (parseS t.data.toList).isSome = false) : appLn [k, d, t] = none := by
  unfold appLn; simp only
  split
  · cases hd : parseS t.data.toList with
    | none => cases parseD d.data.toList <;> rfl
    | some v => rw [hd] at h; cases h
  · rfl
theorem appLn_ok {k d t : ByteArray} (h : k.toList = [97, 112, 112, 114, 111, 118, 97, 108]) (h1 : (parseD d.data.toList).isSome = true) (h2 : (parseS t.data.toList).isSome = true) : ∃ x, appLn [k, d, t] = some x ∧ appS d t 2 = appC x ∧ x.d.length = 32 := by
  obtain ⟨v, hv⟩ := Option.isSome_iff_exists.1 h1
  obtain ⟨n, hn⟩ := Option.isSome_iff_exists.1 h2
  refine ⟨⟨v, (n : Int)⟩, ?_, ?_, parseD_32 hv⟩
  · unfold appLn; simp only; rw [if_pos h, hv, hn]
  · show (parsed d.data.toList).map bv ++ [Value.int .i64 _] = _
    unfold parsed; rw [hv, hn]; rfl
/-- what read leaves -/
def ReadPost (G : Nat) (T : TypeId) (b : List UInt8) (w : World) (e : Ending) (w' : World) : Prop := e = .returned (.int .i64 (appE b)) ∧ w.grownBy w' (some G) ∧ (appE b = 0 → ∃ x, appF b = some x ∧ x.d.length = 32 ∧ Cells w' G T (appC x))
end Go.Adm
namespace Go.Proofs.YthlfafkakijjfaaDoor
open Go Go.RowKit Go.Adm Go.AdP Go.Shelf
attribute [local go_sem] Oper.semAt_some
set_option maxHeartbeats 6400000 in
theorem readApp (w : World) (G gr g1 g2 B : Nat) (A : Option Addr) (n c : Nat) (b : List UInt8) (hb : Rd w B 1 A n (b.map bv)) (hnc : n ≤ c) (hcm : c ≤ maxLen) (hB : B ≤ w.heap.size)
    (hG : Cells w G 31 appZ) (hr : Cells w gr 44 [fldV 33 g1, fldV 37 g2]) (h1 : Cells w g1 46 [.pointer (some ⟨G, 0, none⟩)]) (h2 : Cells w (g1 + 1) 47 [fnV 16])
    (h3 : Cells w g2 52 [.pointer (some ⟨G, 32, none⟩)]) (h4 : Cells w (g2 + 1) 53 [fnV 20]) (n0 : gr ≠ G) (n1 : g1 ≠ G) (n2 : g1 + 1 ≠ G) (n3 : g2 ≠ G) (n4 : g2 + 1 ≠ G) :
    Calls Tryd.prog 14 #[.slice A n c, .string ⟨#[97, 112, 112, 114, 111, 118, 97, 108]⟩, .slice (some ⟨gr, 0, none⟩) 2 2] w (ReadPost G 31 b w) := by
  have HD := Lib.hid (Decode_any w B A n c b hb hnc hcm hB)
  clear hb hnc hcm hB
  go_enter Tryd.func14, Tryd.ntmps14
  go_upto_region 2 with (go_at_call 32; refine HD.out.mono ?_; clear HD; rintro e w1 ⟨A1, m1, c1, rfl, hLn, hmc, hcm1, hbl⟩)
  have hg1 : w.grownBy w1 none := grown_of_below hbl
  have hwG : w1.grownBy w1 (some G) := ⟨rfl, rfl, rfl, Nat.le_refl _, fun _ _ _ => rfl⟩
  have HG := Lib.hid (hG.below hbl (Cells.lt hG))
  have HR := Lib.hid (hr.below hbl (Cells.lt hr))
  have H1 := Lib.hid (h1.below hbl (Cells.lt h1))
  have H2 := Lib.hid (h2.below hbl (Cells.lt h2))
  have H3 := Lib.hid (h3.below hbl (Cells.lt h3))
  have H4 := Lib.hid (h4.below hbl (Cells.lt h4))
  clear hG hr h1 h2 h3 h4 hbl
  by_cases q0 : (decR b).2 = 0
  · rw [q0]
    by_cases q1 : (decR b).1.length = 1
    · obtain ⟨l, hl⟩ : ∃ l, (decR b).1 = [l] := by
        match hx : (decR b).1, q1 with
        | [l], _ => exact ⟨l, rfl⟩
      have HF := Lib.hid (appF_one q0 hl)
      rw [hl] at hLn
      have hm1 : m1 = 1 := by have := hLn.len; simpa using this.symm
      obtain ⟨adL, A2, c2, rfl, _, hcl, hc2, hc2m, hSt⟩ := hLn.at_ (k := 0) (by simp)
      rw [add_zero] at hcl
      have hcl' : w1.cell? adL = some (.slice A2 l.length c2) := hcl
      subst hm1
      clear hcl hLn q1 hl
      by_cases q2 : l.length = 3
      · obtain ⟨k, d, t, rfl⟩ : ∃ k d t, l = [k, d, t] := by
          match l, q2 with
          | [k, d, t], _ => exact ⟨k, d, t, rfl⟩
        obtain ⟨rad, rfl, _, s0, _⟩ := hSt.at_ (k := 0) (by simp)
        obtain ⟨rad1, e1, _, s1, _⟩ := hSt.at_ (k := 1) (by simp)
        obtain ⟨rad2, e2, _, s2, _⟩ := hSt.at_ (k := 2) (by simp)
        obtain rfl := Option.some.inj e1
        obtain rfl := Option.some.inj e2
        have s0' : w1.cell? rad = some (.string k) := by rw [add_zero] at s0; exact s0
        have s1' : w1.cell? ⟨rad.block, rad.off + 1, none⟩ = some (.string d) := s1
        have s2' : w1.cell? ⟨rad.block, rad.off + 2, none⟩ = some (.string t) := s2
        have hcl3 : w1.cell? adL = some (.slice (some rad) 3 c2) := hcl'
        clear s0 s1 s2 hSt e1 e2 hcl' q2
        have k1 : (2 : Int) < 3 := by omega
        by_cases q3 : k.toList = [97, 112, 112, 114, 111, 118, 97, 108]
        · have d3 : (!(k.toList == [97, 112, 112, 114, 111, 118, 97, 108])) = false := by rw [q3]; rfl
          have HFD : Hid ((parseD d.data.toList).isSome = false → appF b = none) := Lib.hid (fun h => by rw [HF.out]; exact appLn_d h)
          have HFT : Hid ((parseS t.data.toList).isSome = false → appF b = none) := Lib.hid (fun h => by rw [HF.out]; exact appLn_t h)
          have HFO : Hid ((parseD d.data.toList).isSome = true → (parseS t.data.toList).isSome = true → ∃ x, appF b = some x ∧ appS d t 2 = appC x ∧ x.d.length = 32) := Lib.hid (fun h h' => by rw [HF.out]; exact appLn_ok q3 h h')
          have hn1 := Lib.hid (app_not HG.out app_int hcl3 (by intro _ _ e; cases e))
          have hn2 := Lib.hid (app_not HG.out app_int s1' (by intro _ _ e; cases e))
          have HC1 := Lib.hid hcl3
          have HS1 := Lib.hid s1'
          have HS2 := Lib.hid s2'
          have Q0 := Lib.hid q0
          clear HF q3 q0
          go_upto_region 6 with (fail)
          clear hcl3 s0' s1' s2' d3
          go_wp2_with fail
          go_loopw [43] (fun i wr => ∃ j : Nat, j ≤ 2 ∧ i = .int .i64 j ∧ Cells wr G 31 (appS d t j) ∧ w1.grownBy wr (some G) ∧ (1 ≤ j → (parseD d.data.toList).isSome = true) ∧ (2 ≤ j → (parseS t.data.toList).isSome = true)) (fun i _ => 2 - (intOf i).toNat)
          case atStart => exact ⟨0, by omega, rfl, HG.out, hwG, fun h => absurd h (by omega), fun h => absurd h (by omega)⟩
          case round =>
            obtain ⟨j, hj, rfl, hCG, hgw, ho1, ho2⟩ := hrel
            have x1 : wr.cell? adL = some (.slice (some rad) 3 c2) := cellG HC1.out hgw hn1.out
            have x2 : wr.cell? ⟨rad.block, rad.off + 1, none⟩ = some (.string d) := cellG HS1.out hgw hn2.out
            have x3 : wr.cell? ⟨rad.block, rad.off + 2, none⟩ = some (.string t) := cellG HS2.out hgw hn2.out
            have HR2 := HR.out.apart hgw n0
            have r0 : wr.cell? ⟨gr, 0, none⟩ = some (.func (.func 33) #[] #[.pointer (some ⟨g1 + 1, 0, none⟩), .pointer (some ⟨g1, 0, none⟩)]) := Cells.cell HR2 (i := 0) (by simp)
            have r1 : wr.cell? ⟨gr, 1, none⟩ = some (.func (.func 37) #[] #[.pointer (some ⟨g2 + 1, 0, none⟩), .pointer (some ⟨g2, 0, none⟩)]) := Cells.cell HR2 (i := 1) (by simp)
            clear HR2
            match j, hj with
            | 0, _ =>
              have hc := fldD_any wr (g1 + 1) g1 G 0 31 appZ d (H2.out.apart hgw n2) (H1.out.apart hgw n1) hCG (by decide)
              have HG2 := Lib.hid hgw
              clear ho1 ho2 hCG hgw
              cases hpd : (parseD d.data.toList).isSome with
              | false =>
                rw [hpd] at hc
                have HN := Lib.hid (HFD.out hpd)
                clear hpd HFD HFT HFO
                go_wp2_with (go_at_call 33; refine hc.mono ?_; clear hc; rintro e w3 ⟨rfl, _, hg3⟩)
                go_ret
                exact ⟨ret_int (by rw [appE_none Q0.out HN.out]), grown_trans hg1 (grown_two HG2.out hg3), fun h => by rw [appE_none Q0.out HN.out] at h; cases h⟩
              | true =>
                rw [hpd] at hc
                have HPD := Lib.hid hpd
                clear hpd
                go_wp2_with (go_at_call 33; refine hc.mono ?_; clear hc; rintro e w3 ⟨rfl, hC3, hg3⟩)
                exact ⟨⟨1, by omega, rfl, hC3, grown_two HG2.out hg3, fun _ => (by first | exact HPD.out | trivial), fun h => absurd h (by omega)⟩, by simp [intOf]⟩
            | 1, _ =>
              have hc := fldI_any wr (g2 + 1) g2 G 32 31 (appS d t 1) t (H4.out.apart hgw n4) (H3.out.apart hgw n3) hCG (by rw [appS_len]; decide)
              rw [appS_2] at hc
              have HG2 := Lib.hid hgw
              have HO1 := Lib.hid (ho1 (by omega))
              clear ho1 ho2 hCG hgw
              cases hpd : (parseS t.data.toList).isSome with
              | false =>
                rw [hpd] at hc
                have HN := Lib.hid (HFT.out hpd)
                clear hpd HFD HFT HFO
                go_wp2_with (go_at_call 37; refine hc.mono ?_; clear hc; rintro e w3 ⟨rfl, _, hg3⟩)
                go_ret
                exact ⟨ret_int (by rw [appE_none Q0.out HN.out]), grown_trans hg1 (grown_two HG2.out hg3), fun h => by rw [appE_none Q0.out HN.out] at h; cases h⟩
              | true =>
                rw [hpd] at hc
                have HPD := Lib.hid hpd
                clear hpd
                go_wp2_with (go_at_call 37; refine hc.mono ?_; clear hc; rintro e w3 ⟨rfl, hC3, hg3⟩)
                exact ⟨⟨2, by omega, rfl, hC3, grown_two HG2.out hg3, fun _ => HO1.out, fun _ => (by first | exact HPD.out | trivial)⟩, by simp [intOf]⟩
            | 2, _ =>
              obtain ⟨x, hx, hxs, hxl⟩ := HFO.out (ho1 (by omega)) (ho2 (by omega))
              have HX := Lib.hid hx
              have HG2 := Lib.hid hgw
              rw [hxs] at hCG
              have HCG := Lib.hid hCG
              clear ho1 ho2 hCG hgw hx hxs HFD HFT HFO
              go_wp2_with fail
              go_ret
              exact ⟨ret_int (by rw [appE_some Q0.out HX.out]), grown_trans hg1 HG2.out, fun _ => ⟨x, HX.out, hxl, HCG.out⟩⟩
        · have d3 : (!(k.toList == [97, 112, 112, 114, 111, 118, 97, 108])) = true := by simp [q3]
          have HN : Hid (appF b = none) := Lib.hid (by rw [HF.out]; exact appLn_word q3)
          have HE := Lib.hid (appE_none q0 HN.out)
          clear q3 HF q0
          go_wp2_with fail
          go_ret
          exact ⟨ret_int (by rw [HE.out]), grown_trans hg1 hwG, fun h => by rw [HE.out] at h; cases h⟩
      · have HN : Hid (appF b = none) := Lib.hid (by rw [HF.out]; exact appLn_len q2)
        have HE := Lib.hid (appE_none q0 HN.out)
        have d2 : ((l.length : Int) != 3) = true := by simp; omega
        clear q2 HF q0 hSt
        generalize l.length = m at *
        go_wp2_with fail
        go_ret
        exact ⟨ret_int (by rw [HE.out]), grown_trans hg1 hwG, fun h => by rw [HE.out] at h; cases h⟩
    · have HN : Hid (appF b = none) := Lib.hid (appF_len q1)
      have HE := Lib.hid (appE_none q0 HN.out)
      have hm1 : m1 ≠ 1 := by have := hLn.len; omega
      have d1 : ((m1 : Int) != 1) = true := by simp; omega
      clear q1 q0 hLn
      go_wp2_with fail
      go_ret
      exact ⟨ret_int (by rw [HE.out]), grown_trans hg1 hwG, fun h => by rw [HE.out] at h; cases h⟩
  · have HE := Lib.hid (appE_bad q0)
    obtain ⟨q, hq⟩ : ∃ q, q = (decR b).2 := ⟨_, rfl⟩
    rw [← hq] at HE q0 ⊢
    have d0 : (q != 0) = true := by simpa using q0
    have HQ := Lib.hid q0
    clear hq hLn q0
    go_wp2_with fail
    go_ret
    exact ⟨ret_int (by rw [HE.out]), grown_trans hg1 hwG, fun h => by rw [HE.out] at h; exact absurd h HQ.out⟩
end Go.Proofs.YthlfafkakijjfaaDoor
