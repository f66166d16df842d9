/- A document of one line is read into the fields of a release; releases are decoded. -/
import Derived.Test.YthlfafkakijjfaaDoorRelH
import Derived.Test.YthlfafkakijjfaaDoorRelD
set_option linter.unusedSimpArgs false
set_option linter.unusedVariables false
set_option maxRecDepth 100000
namespace Go.Adm
open Go Go.RowKit Go.AdP
def rlsN : Rls := ⟨z32, z32, ByteArray.empty, ByteArray.empty, z32, 0⟩
def rlsZ : List Value := rlsC rlsN
theorem rlsN_ok : rlsN.Ok := ⟨rfl, rfl, rfl⟩
/-- the release of a line -/
def rlsLn (l : List ByteArray) : Option Rls := match l with
  | [k, wa, wd, wl, wr, wc, wt] => if k.toList = [114, 101, 108, 101, 97, 115, 101] then (match parseD wa.data.toList, parseD wd.data.toList, parseD wc.data.toList, parseS wt.data.toList with | some a, some d, some c, some n => some ⟨a, d, wl, wr, c, (n : Int)⟩ | _, _, _, _ => none) else none
  | _ => none
def rlsF (b : List UInt8) : Option Rls := if (decR b).2 = 0 then (match (decR b).1 with | [l] => rlsLn l | _ => none) else none
def rlsE (b : List UInt8) : Int := if (decR b).2 = 0 then (if (rlsF b).isSome then 0 else 2) else (decR b).2
theorem rlsE_none {b : List UInt8} (h0 : (decR b).2 = 0) (h : rlsF b = none) : rlsE b = 2 := by unfold rlsE; rw [if_pos h0, h]; rfl
theorem rlsE_some {b : List UInt8} {x : Rls} (h0 : (decR b).2 = 0) (h : rlsF b = some x) : rlsE b = 0 := by unfold rlsE; rw [if_pos h0, h]; rfl
theorem rlsE_bad {b : List UInt8} (h0 : (decR b).2 ≠ 0) : rlsE b = (decR b).2 := by unfold rlsE; rw [if_neg h0]
theorem rlsF_bad {b : List UInt8} (h0 : (decR b).2 ≠ 0) : rlsF b = none := by unfold rlsF; rw [if_neg h0]
theorem rlsF_len {b : List UInt8} (h : (decR b).1.length ≠ 1) : rlsF b = none := by
  unfold rlsF
  split
  · split
    · rename_i l hl; rw [hl] at h; exact absurd rfl h
    · rfl
  · rfl
theorem rlsF_one {b : List UInt8} {l : List ByteArray} (h0 : (decR b).2 = 0) (h : (decR b).1 = [l]) : rlsF b = rlsLn l := by unfold rlsF; rw [if_pos h0, h]
theorem rlsLn_len {l : List ByteArray} (h : l.length ≠ 7) : rlsLn l = none := by
  unfold rlsLn
  split
  · exact absurd rfl h
  · rfl
theorem rlsLn_word {k wa wd wl wr wc wt : ByteArray} (h : k.toList ≠ [114, 101, 108, 101, 97, 115, 101]) : rlsLn [k, wa, wd, wl, wr, wc, wt] = none := by unfold rlsLn; simp only; rw [if_neg h]
theorem rlsLn_a {k wa wd wl wr wc wt : ByteArray} (h : (parseD wa.data.toList).isSome = false) : rlsLn [k, wa, wd, wl, wr, wc, wt] = none := by
  rw [Option.isSome_eq_false_iff, Option.isNone_iff_eq_none] at h
  unfold rlsLn; simp only; rw [h]; split <;> rfl
theorem rlsLn_d {k wa wd wl wr wc wt : ByteArray} (h : (parseD wd.data.toList).isSome = false) : rlsLn [k, wa, wd, wl, wr, wc, wt] = none := by
  rw [Option.isSome_eq_false_iff, Option.isNone_iff_eq_none] at h
  unfold rlsLn; simp only; rw [h]; split <;> (cases parseD wa.data.toList <;> rfl)
theorem rlsLn_c {k wa wd wl wr wc wt : ByteArray} (h : (parseD wc.data.toList).isSome = false) : rlsLn [k, wa, wd, wl, wr, wc, wt] = none := by
  rw [Option.isSome_eq_false_iff, Option.isNone_iff_eq_none] at h
  unfold rlsLn; simp only; rw [h]; split <;> (cases parseD wa.data.toList <;> cases parseD wd.data.toList <;> rfl)
theorem rlsLn_t {k wa wd wl wr wc wt : ByteArray} (h : (parseS wt.data.toList).isSome = false) : rlsLn [k, wa, wd, wl, wr, wc, wt] = none := by
  rw [Option.isSome_eq_false_iff, Option.isNone_iff_eq_none] at h
  unfold rlsLn; simp only; rw [h]; split <;> (cases parseD wa.data.toList <;> cases parseD wd.data.toList <;> cases parseD wc.data.toList <;> rfl)
/-- the fields after j words -/
def rlsS (wa wd wl wr wc wt : ByteArray) : Nat → Rls
  | 0 => rlsN
  | 1 => { rlsN with a := parsed wa.data.toList }
  | 2 => { rlsN with a := parsed wa.data.toList, d := parsed wd.data.toList }
  | 3 => { rlsN with a := parsed wa.data.toList, d := parsed wd.data.toList, l := wl }
  | 4 => { rlsN with a := parsed wa.data.toList, d := parsed wd.data.toList, l := wl, r := wr }
  | 5 => { rlsN with a := parsed wa.data.toList, d := parsed wd.data.toList, l := wl, r := wr, c := parsed wc.data.toList }
  | _ => ⟨parsed wa.data.toList, parsed wd.data.toList, wl, wr, parsed wc.data.toList, (((parseS wt.data.toList).getD 0 : Nat) : Int)⟩
theorem rlsS_ok (wa wd wl wr wc wt : ByteArray) (j : Nat) : (rlsS wa wd wl wr wc wt j).Ok := by
  match j with
  | 0 => exact rlsN_ok
  | 1 => exact ⟨parsed_len _, rfl, rfl⟩
  | 2 => exact ⟨parsed_len _, parsed_len _, rfl⟩
  | 3 => exact ⟨parsed_len _, parsed_len _, rfl⟩
  | 4 => exact ⟨parsed_len _, parsed_len _, rfl⟩
  | 5 => exact ⟨parsed_len _, parsed_len _, parsed_len _⟩
  | j + 6 => exact ⟨parsed_len _, parsed_len _, parsed_len _⟩
theorem set_a (x : Rls) (h : x.Ok) (q : List UInt8) : (rlsC x).take 0 ++ q.map bv ++ (rlsC x).drop (0 + 32) = rlsC { x with a := q } := by
  unfold rlsC
  rw [List.take_zero, List.nil_append, Nat.zero_add, List.drop_left' (by rw [List.length_map, h.a])]
theorem set_d (x : Rls) (h : x.Ok) (q : List UInt8) : (rlsC x).take 32 ++ q.map bv ++ (rlsC x).drop (32 + 32) = rlsC { x with d := q } := by
  rw [rls_64 x h]
  unfold rlsC
  rw [List.take_left' (by rw [List.length_map, h.a]), List.append_assoc]
theorem set_c (x : Rls) (h : x.Ok) (q : List UInt8) : (rlsC x).take 66 ++ q.map bv ++ (rlsC x).drop (66 + 32) = rlsC { x with c := q } := by
  have e1 : (rlsC x).take 66 = x.a.map bv ++ (x.d.map bv ++ [.string x.l, .string x.r]) := by
    unfold rlsC
    rw [← List.append_assoc, ← List.append_assoc, ← List.append_assoc (x.a.map bv)]
    exact List.take_left' (by simp [h.a, h.d])
  have e2 : (rlsC x).drop (66 + 32) = [.int .i64 x.t] := by
    rw [show 66 + 32 = 64 + 34 from rfl, ← List.drop_drop, rls_64 x h, ← List.append_assoc]
    exact List.drop_left' (by simp [h.c])
  rw [e1, e2]
  simp [rlsC]
theorem set_cell (x : Rls) (h : x.Ok) (i : Nat) (hi : i < 35) (v : Value) : (rlsC x).set (64 + i) v = x.a.map bv ++ (x.d.map bv ++ (([Value.string x.l, Value.string x.r] ++ (x.c.map bv ++ [Value.int .i64 x.t])).set i v)) := by
  unfold rlsC
  rw [List.set_append_right _ _ (by rw [List.length_map, h.a]; omega), List.length_map, h.a, List.set_append_right _ _ (by rw [List.length_map, h.d]; omega), List.length_map, h.d]
  rw [show 64 + i - 32 - 32 = i from by omega]
theorem set_l (x : Rls) (h : x.Ok) (s : ByteArray) : (rlsC x).set 64 (.string s) = rlsC { x with l := s } := set_cell x h 0 (by omega) _
theorem set_r (x : Rls) (h : x.Ok) (s : ByteArray) : (rlsC x).set 65 (.string s) = rlsC { x with r := s } := set_cell x h 1 (by omega) _
theorem set_t (x : Rls) (h : x.Ok) (t : Int) : (rlsC x).set 98 (.int .i64 t) = rlsC { x with t := t } := by
  rw [set_cell x h 34 (by omega)]
  unfold rlsC
  rw [show (34 : Nat) = 2 + 32 from rfl]
  rw [List.set_append_right _ _ (by simp), List.set_append_right _ _ (by simp [h.c])]
  simp [h.c]
theorem rlsLn_ok {k wa wd wl wr wc wt : ByteArray} (h : k.toList = [114, 101, 108, 101, 97, 115, 101]) (h1 : (parseD wa.data.toList).isSome = true) (h2 : (parseD wd.data.toList).isSome = true) (h3 : (parseD wc.data.toList).isSome = true) (h4 : (parseS wt.data.toList).isSome = true) :
    rlsLn [k, wa, wd, wl, wr, wc, wt] = some (rlsS wa wd wl wr wc wt 6) := by
  obtain ⟨a, ha⟩ := Option.isSome_iff_exists.1 h1
  obtain ⟨d, hd⟩ := Option.isSome_iff_exists.1 h2
  obtain ⟨c, hc⟩ := Option.isSome_iff_exists.1 h3
  obtain ⟨n, hn⟩ := Option.isSome_iff_exists.1 h4
  unfold rlsLn rlsS parsed
  simp only
  rw [if_pos h, ha, hd, hc, hn]
  rfl
/-- no cell of a release is a slice; three strings do not stand side by side in one -/
theorem rls_slice : ∀ v ∈ rlsZ, ∀ A n c, v ≠ .slice A n c := by
  intro v hv A n c e
  subst e
  have := rls_one rlsN _ hv
  unfold rlsZ rlsC at hv
  simp only [List.mem_append, List.mem_map] at hv
  rcases hv with ⟨_, _, e⟩ | ⟨_, _, e⟩ | e | ⟨_, _, e⟩ | e
  · cases e
  · cases e
  · simp at e
  · cases e
  · simp at e
theorem rls_strs (i : Nat) (s : ByteArray) (h : rlsZ[i]? = some (.string s)) : i = 64 ∨ i = 65 := by
  have hl : i < 99 := by
    obtain ⟨h1, _⟩ := List.getElem?_eq_some_iff.1 h
    have h2 : rlsZ.length = 99 := rls_len _ rlsN_ok
    omega
  have key : ∀ j : Fin 99, (match rlsZ[j.val]? with | some (.string _) => true | _ => false) = true → j.val = 64 ∨ j.val = 65 := by decide +kernel
  exact key ⟨i, hl⟩ (by simp only; rw [h])
theorem cell_in {w : World} {G : Nat} {t : TypeId} {cs : List Value} (h : Cells w G t cs) {p : Addr} {v : Value} (hp : w.cell? p = some v) (e : p.block = G) : cs[p.off]? = some v := by
  unfold World.cell? at hp
  unfold Cells at h
  rw [e, h] at hp
  simp only at hp
  split at hp
  · cases hp
  · simpa using hp
theorem rls_not1 {w : World} {G : Nat} {t : TypeId} (h : Cells w G t rlsZ) {p : Addr} {A : Option Addr} {n c : Nat} (hp : w.cell? p = some (.slice A n c)) : p.block ≠ G := fun e => by
  have := cell_in h hp e
  exact rls_slice _ (List.mem_of_getElem? this) _ _ _ rfl
theorem rls_not2 {w : World} {G : Nat} {t : TypeId} (h : Cells w G t rlsZ) {p : Addr} {s1 s2 s3 : ByteArray} (h1 : w.cell? ⟨p.block, p.off + 1, none⟩ = some (.string s1)) (h2 : w.cell? ⟨p.block, p.off + 2, none⟩ = some (.string s2)) (h3 : w.cell? ⟨p.block, p.off + 3, none⟩ = some (.string s3)) : p.block ≠ G := fun e => by
  have q1 := rls_strs _ _ (cell_in h h1 e)
  have q2 := rls_strs _ _ (cell_in h h2 e)
  have q3 := rls_strs _ _ (cell_in h h3 e)
  simp only at q1 q2 q3
  omega
/-- what read leaves -/
def ReadPostR (G : Nat) (T : TypeId) (b : List UInt8) (w : World) (e : Ending) (w' : World) : Prop := e = .returned (.int .i64 (rlsE b)) ∧ w.grownBy w' (some G) ∧ (rlsE b = 0 → ∃ x : Rls, rlsF b = some x ∧ x.Ok ∧ x.l.size ≤ 140737488355328 ∧ x.r.size ≤ 140737488355328 ∧ Cells w' G T (rlsC x))
end Go.Adm
namespace Go.Proofs.YthlfafkakijjfaaDoor
open Go Go.RowKit Go.Adm Go.AdP Go.Shelf
attribute [local go_sem] Oper.semAt_some
theorem intoS_any (w : World) (p : Addr) (f : Nat) :
    Calls Tryd.prog 17 #[.pointer (some p), fnV f] w fun e w' => e = .returned (fldV 36 w.heap.size) ∧
      w' = (w.alloc (.cells #[.pointer (some p)] 49)).alloc (.cells #[fnV f] 50) := by
  unfold fnV
  go_enter Tryd.func17, Tryd.ntmps17
  go_wp2_with fail
  go_ret
  exact ⟨by simp [fldV], rfl⟩
theorem text_any (s : ByteArray) (w : World) : Calls Tryd.prog 18 #[.string s] w fun e w' => e = .returned (.tuple #[.string s, .bool true]) ∧ w' = w := by
  go_enter Tryd.func18, Tryd.ntmps18
  go_wp2_with fail
  go_ret2
  exact ⟨rfl, rfl⟩
set_option maxHeartbeats 3200000 in
theorem fldS_any (w : World) (gp gt G off : Nat) (t : TypeId) (cs : List Value) (s : ByteArray) (hp : Cells w gp 50 [fnV 18]) (ht : Cells w gt 49 [.pointer (some ⟨G, off, none⟩)])
    (hG : Cells w G t cs) (hl : off < cs.length) :
    Calls Tryd.prog 36 #[.string s, .pointer (some ⟨gp, 0, none⟩), .pointer (some ⟨gt, 0, none⟩)] w fun e w' => e = .returned (.bool true) ∧
      Cells w' G t (cs.set off (.string s)) ∧ w.grownBy w' (some G) := by
  have c1 : w.cell? ⟨gp, 0, none⟩ = some (.func (.func 18) #[] #[]) := Cells.cell hp (i := 0) (by simp)
  have c2 : w.cell? ⟨gt, 0, none⟩ = some (.pointer (some ⟨G, off, none⟩)) := Cells.cell ht (i := 0) (by simp)
  obtain ⟨v0, c3⟩ : ∃ v0, w.cell? ⟨G, off, none⟩ = some v0 := ⟨_, Cells.cell hG hl⟩
  have HST : Hid (Cells (w.setCell ⟨G, off, none⟩ (.string s)) G t (cs.set off (.string s))) := Lib.hid ((All.store (rs := [.cells G t cs]) ⟨hG, trivial⟩ 0 rfl off _ trivial).1)
  have hfz : w.frozen? ⟨G, off, none⟩ = false := Cells.frozen hG off
  clear hl hp ht hG
  go_enter Tryd.func36, Tryd.ntmps36
  go_wp2_with (go_at_call 18; refine (text_any _ _).mono ?_; rintro e w1 ⟨rfl, rfl⟩)
  go_ret
  exact ⟨rfl, HST.out, grown_setCell _ _ _⟩
set_option maxHeartbeats 12800000 in
theorem readRel (w : World) (G gr g0 g1 g2 g3 g4 g5 B : Nat) (A : Option Addr) (n c : Nat) (b : List UInt8) (hb : Rd w B 1 A n (b.map bv)) (hnc : n ≤ c) (hcm : c ≤ maxLen) (hB : B ≤ w.heap.size)
    (hG : Cells w G 26 rlsZ) (hr : Cells w gr 44 [fldV 33 g0, fldV 33 g1, fldV 36 g2, fldV 36 g3, fldV 33 g4, fldV 37 g5]) (p0 : Cells w g0 46 [.pointer (some ⟨G, 0, none⟩)]) (q0 : Cells w (g0 + 1) 47 [fnV 16]) (p1 : Cells w g1 46 [.pointer (some ⟨G, 32, none⟩)]) (q1 : Cells w (g1 + 1) 47 [fnV 16]) (p2 : Cells w g2 49 [.pointer (some ⟨G, 64, none⟩)]) (q2 : Cells w (g2 + 1) 50 [fnV 18]) (p3 : Cells w g3 49 [.pointer (some ⟨G, 65, none⟩)]) (q3 : Cells w (g3 + 1) 50 [fnV 18]) (p4 : Cells w g4 46 [.pointer (some ⟨G, 66, none⟩)]) (q4 : Cells w (g4 + 1) 47 [fnV 16]) (p5 : Cells w g5 52 [.pointer (some ⟨G, 98, none⟩)]) (q5 : Cells w (g5 + 1) 53 [fnV 20])
    (ngr : gr ≠ G) (n0 : g0 ≠ G) (m0 : g0 + 1 ≠ G) (n1 : g1 ≠ G) (m1 : g1 + 1 ≠ G) (n2 : g2 ≠ G) (m2 : g2 + 1 ≠ G) (n3 : g3 ≠ G) (m3 : g3 + 1 ≠ G) (n4 : g4 ≠ G) (m4 : g4 + 1 ≠ G) (n5 : g5 ≠ G) (m5 : g5 + 1 ≠ G) :
    Calls Tryd.prog 14 #[.slice A n c, .string ⟨#[114, 101, 108, 101, 97, 115, 101]⟩, .slice (some ⟨gr, 0, none⟩) 6 6] w (ReadPostR G 26 b w) := by
  have HD := Lib.hid (Decode_any w B A n c b hb hnc hcm hB)
  clear hb hnc hcm hB
  go_enter Tryd.func14, Tryd.ntmps14
  go_upto_region 2 with (go_at_call 32; refine HD.out.mono ?_; clear HD; rintro e w1 ⟨A1, m1, c1, rfl, hLn, hmc, hcm1, hbl⟩)
  have hg1 : w.grownBy w1 none := grown_of_below hbl
  have hwG : w1.grownBy w1 (some G) := ⟨rfl, rfl, rfl, Nat.le_refl _, fun _ _ _ => rfl⟩
  have HG := Lib.hid (hG.below hbl (Cells.lt hG))
  have HR := Lib.hid (hr.below hbl (Cells.lt hr))
  have P0 := Lib.hid (p0.below hbl (Cells.lt p0))
  have Q0 := Lib.hid (q0.below hbl (Cells.lt q0))
  have P1 := Lib.hid (p1.below hbl (Cells.lt p1))
  have Q1 := Lib.hid (q1.below hbl (Cells.lt q1))
  have P2 := Lib.hid (p2.below hbl (Cells.lt p2))
  have Q2 := Lib.hid (q2.below hbl (Cells.lt q2))
  have P3 := Lib.hid (p3.below hbl (Cells.lt p3))
  have Q3 := Lib.hid (q3.below hbl (Cells.lt q3))
  have P4 := Lib.hid (p4.below hbl (Cells.lt p4))
  have Q4 := Lib.hid (q4.below hbl (Cells.lt q4))
  have P5 := Lib.hid (p5.below hbl (Cells.lt p5))
  have Q5 := Lib.hid (q5.below hbl (Cells.lt q5))
  clear hG hr hbl p0 q0 p1 q1 p2 q2 p3 q3 p4 q4 p5 q5
  by_cases q0 : (decR b).2 = 0
  · rw [q0]
    by_cases q1 : (decR b).1.length = 1
    · obtain ⟨l, hl⟩ : ∃ l, (decR b).1 = [l] := by
        match hx : (decR b).1, q1 with
        | [l], _ => exact ⟨l, rfl⟩
      have HF := Lib.hid (rlsF_one q0 hl)
      rw [hl] at hLn
      have hm1 : m1 = 1 := by have := hLn.len; simpa using this.symm
      obtain ⟨adL, A2, c2, rfl, _, hcl, hc2, hc2m, hSt⟩ := hLn.at_ (k := 0) (by simp)
      rw [add_zero] at hcl
      have hcl' : w1.cell? adL = some (.slice A2 l.length c2) := hcl
      subst hm1
      clear hcl hLn q1 hl
      by_cases q2 : l.length = 7
      · obtain ⟨k, wa, wd, wl, wr', wc, wt, rfl⟩ : ∃ k wa wd wl wr wc wt, l = [k, wa, wd, wl, wr, wc, wt] := by
          match l, q2 with
          | [k, wa, wd, wl, wr, wc, wt], _ => exact ⟨k, wa, wd, wl, wr, wc, wt, rfl⟩
        obtain ⟨rad, rfl, _, s0, _⟩ := hSt.at_ (k := 0) (by simp)
        obtain ⟨rad1, e1, _, s1, zz1⟩ := hSt.at_ (k := 1) (by simp)
        obtain rfl := Option.some.inj e1
        obtain ⟨rad2, e2, _, s2, zz2⟩ := hSt.at_ (k := 2) (by simp)
        obtain rfl := Option.some.inj e2
        obtain ⟨rad3, e3, _, s3, zz3⟩ := hSt.at_ (k := 3) (by simp)
        obtain rfl := Option.some.inj e3
        obtain ⟨rad4, e4, _, s4, zz4⟩ := hSt.at_ (k := 4) (by simp)
        obtain rfl := Option.some.inj e4
        obtain ⟨rad5, e5, _, s5, zz5⟩ := hSt.at_ (k := 5) (by simp)
        obtain rfl := Option.some.inj e5
        obtain ⟨rad6, e6, _, s6, zz6⟩ := hSt.at_ (k := 6) (by simp)
        obtain rfl := Option.some.inj e6
        have s0' : w1.cell? rad = some (.string k) := by rw [add_zero] at s0; exact s0
        have s1' : w1.cell? ⟨rad.block, rad.off + 1, none⟩ = some (.string wa) := s1
        have s2' : w1.cell? ⟨rad.block, rad.off + 2, none⟩ = some (.string wd) := s2
        have s3' : w1.cell? ⟨rad.block, rad.off + 3, none⟩ = some (.string wl) := s3
        have s4' : w1.cell? ⟨rad.block, rad.off + 4, none⟩ = some (.string wr') := s4
        have s5' : w1.cell? ⟨rad.block, rad.off + 5, none⟩ = some (.string wc) := s5
        have s6' : w1.cell? ⟨rad.block, rad.off + 6, none⟩ = some (.string wt) := s6
        have hcl3 : w1.cell? adL = some (.slice (some rad) 7 c2) := hcl'
        have ZL : Hid (wl.size ≤ 140737488355328) := Lib.hid zz3
        have ZR : Hid (wr'.size ≤ 140737488355328) := Lib.hid zz4
        clear zz1 zz2 zz3 zz4 zz5 zz6 s0 s1 s2 s3 s4 s5 s6 hSt e1 e2 e3 e4 e5 e6 hcl' q2
        by_cases q3 : k.toList = [114, 101, 108, 101, 97, 115, 101]
        · have d3 : (!(k.toList == [114, 101, 108, 101, 97, 115, 101])) = false := by rw [q3]; rfl
          have HN0 : Hid ((parseD wa.data.toList).isSome = false → rlsF b = none) := Lib.hid (fun h => by rw [HF.out]; exact rlsLn_a h)
          have HN1 : Hid ((parseD wd.data.toList).isSome = false → rlsF b = none) := Lib.hid (fun h => by rw [HF.out]; exact rlsLn_d h)
          have HN4 : Hid ((parseD wc.data.toList).isSome = false → rlsF b = none) := Lib.hid (fun h => by rw [HF.out]; exact rlsLn_c h)
          have HN5 : Hid ((parseS wt.data.toList).isSome = false → rlsF b = none) := Lib.hid (fun h => by rw [HF.out]; exact rlsLn_t h)
          have HFO : Hid ((parseD wa.data.toList).isSome = true → (parseD wd.data.toList).isSome = true → (parseD wc.data.toList).isSome = true → (parseS wt.data.toList).isSome = true → rlsF b = some (rlsS wa wd wl wr' wc wt 6)) := Lib.hid (fun h1 h2 h3 h4 => by rw [HF.out]; exact rlsLn_ok q3 h1 h2 h3 h4)
          have hn1 := Lib.hid (rls_not1 HG.out hcl3)
          have hn2 := Lib.hid (rls_not2 HG.out s1' s2' s3')
          have HC1 := Lib.hid hcl3
          have HS1 := Lib.hid s1'
          have HS2 := Lib.hid s2'
          have HS3 := Lib.hid s3'
          have HS4 := Lib.hid s4'
          have HS5 := Lib.hid s5'
          have HS6 := Lib.hid s6'
          have Q00 := Lib.hid q0
          clear HF q3 q0
          go_upto_region 6 with (fail)
          clear hcl3 s0' s1' s2' s3' s4' s5' s6' d3
          go_wp2_with fail
          go_loopw [43] (fun i wr => ∃ j : Nat, j ≤ 6 ∧ i = .int .i64 j ∧ Cells wr G 26 (rlsC (rlsS wa wd wl wr' wc wt j)) ∧ w1.grownBy wr (some G) ∧ (1 ≤ j → (parseD wa.data.toList).isSome = true) ∧ (2 ≤ j → (parseD wd.data.toList).isSome = true) ∧ (5 ≤ j → (parseD wc.data.toList).isSome = true) ∧ (6 ≤ j → (parseS wt.data.toList).isSome = true)) (fun i _ => 6 - (intOf i).toNat)
          case atStart => exact ⟨0, by omega, rfl, HG.out, hwG, fun h => absurd h (by omega), fun h => absurd h (by omega), fun h => absurd h (by omega), fun h => absurd h (by omega)⟩
          case round =>
            obtain ⟨j, hj, rfl, hCG, hgw, o1, o2, o3, o4⟩ := hrel
            have x0 : wr.cell? adL = some (.slice (some rad) 7 c2) := cellG HC1.out hgw hn1.out
            have x1 : wr.cell? ⟨rad.block, rad.off + 1, none⟩ = some (.string wa) := cellG HS1.out hgw hn2.out
            have x2 : wr.cell? ⟨rad.block, rad.off + 2, none⟩ = some (.string wd) := cellG HS2.out hgw hn2.out
            have x3 : wr.cell? ⟨rad.block, rad.off + 3, none⟩ = some (.string wl) := cellG HS3.out hgw hn2.out
            have x4 : wr.cell? ⟨rad.block, rad.off + 4, none⟩ = some (.string wr') := cellG HS4.out hgw hn2.out
            have x5 : wr.cell? ⟨rad.block, rad.off + 5, none⟩ = some (.string wc) := cellG HS5.out hgw hn2.out
            have x6 : wr.cell? ⟨rad.block, rad.off + 6, none⟩ = some (.string wt) := cellG HS6.out hgw hn2.out
            have HR2 := HR.out.apart hgw ngr
            have r0 : wr.cell? ⟨gr, 0, none⟩ = some (.func (.func 33) #[] #[.pointer (some ⟨g0 + 1, 0, none⟩), .pointer (some ⟨g0, 0, none⟩)]) := Cells.cell HR2 (i := 0) (by simp)
            have r1 : wr.cell? ⟨gr, 1, none⟩ = some (.func (.func 33) #[] #[.pointer (some ⟨g1 + 1, 0, none⟩), .pointer (some ⟨g1, 0, none⟩)]) := Cells.cell HR2 (i := 1) (by simp)
            have r2 : wr.cell? ⟨gr, 2, none⟩ = some (.func (.func 36) #[] #[.pointer (some ⟨g2 + 1, 0, none⟩), .pointer (some ⟨g2, 0, none⟩)]) := Cells.cell HR2 (i := 2) (by simp)
            have r3 : wr.cell? ⟨gr, 3, none⟩ = some (.func (.func 36) #[] #[.pointer (some ⟨g3 + 1, 0, none⟩), .pointer (some ⟨g3, 0, none⟩)]) := Cells.cell HR2 (i := 3) (by simp)
            have r4 : wr.cell? ⟨gr, 4, none⟩ = some (.func (.func 33) #[] #[.pointer (some ⟨g4 + 1, 0, none⟩), .pointer (some ⟨g4, 0, none⟩)]) := Cells.cell HR2 (i := 4) (by simp)
            have r5 : wr.cell? ⟨gr, 5, none⟩ = some (.func (.func 37) #[] #[.pointer (some ⟨g5 + 1, 0, none⟩), .pointer (some ⟨g5, 0, none⟩)]) := Cells.cell HR2 (i := 5) (by simp)
            clear HR2
            match j, hj with
            | 0, _ =>
              have hc := fldD_any wr (g0 + 1) g0 G 0 26 (rlsC (rlsS wa wd wl wr' wc wt 0)) wa (Q0.out.apart hgw m0) (P0.out.apart hgw n0) hCG (by rw [rls_len _ (rlsS_ok ..)]; decide)
              rw [set_a _ (rlsS_ok ..)] at hc
              have HG2 := Lib.hid hgw
              clear o1 o2 o3 o4 hCG hgw
              cases hpd : (parseD wa.data.toList).isSome with
              | false =>
                rw [hpd] at hc
                have HN := Lib.hid (HN0.out hpd)
                clear hpd HN0 HN1 HN4 HN5 HFO
                go_wp2_with (go_at_call 33; refine hc.mono ?_; clear hc; rintro e w3 ⟨rfl, _, hg3⟩)
                go_ret
                exact ⟨ret_int (by rw [rlsE_none Q00.out HN.out]), grown_trans hg1 (grown_two HG2.out hg3), fun h => by rw [rlsE_none Q00.out HN.out] at h; cases h⟩
              | true =>
                rw [hpd] at hc
                have HPD := Lib.hid hpd
                clear hpd
                go_wp2_with (go_at_call 33; refine hc.mono ?_; clear hc; rintro e w3 ⟨rfl, hC3, hg3⟩)
                exact ⟨⟨1, by omega, rfl, hC3, grown_two HG2.out hg3, fun _ => (by first | exact HPD.out | trivial), fun h => absurd h (by omega), fun h => absurd h (by omega), fun h => absurd h (by omega)⟩, by simp [intOf]⟩
            | 1, _ =>
              have hc := fldD_any wr (g1 + 1) g1 G 32 26 (rlsC (rlsS wa wd wl wr' wc wt 1)) wd (Q1.out.apart hgw m1) (P1.out.apart hgw n1) hCG (by rw [rls_len _ (rlsS_ok ..)]; decide)
              rw [set_d _ (rlsS_ok ..)] at hc
              have HG2 := Lib.hid hgw
              have O0 := Lib.hid (o1 (by omega))
              clear o1 o2 o3 o4 hCG hgw
              cases hpd : (parseD wd.data.toList).isSome with
              | false =>
                rw [hpd] at hc
                have HN := Lib.hid (HN1.out hpd)
                clear hpd HN0 HN1 HN4 HN5 HFO
                go_wp2_with (go_at_call 33; refine hc.mono ?_; clear hc; rintro e w3 ⟨rfl, _, hg3⟩)
                go_ret
                exact ⟨ret_int (by rw [rlsE_none Q00.out HN.out]), grown_trans hg1 (grown_two HG2.out hg3), fun h => by rw [rlsE_none Q00.out HN.out] at h; cases h⟩
              | true =>
                rw [hpd] at hc
                have HPD := Lib.hid hpd
                clear hpd
                go_wp2_with (go_at_call 33; refine hc.mono ?_; clear hc; rintro e w3 ⟨rfl, hC3, hg3⟩)
                exact ⟨⟨2, by omega, rfl, hC3, grown_two HG2.out hg3, fun _ => O0.out, fun _ => (by first | exact HPD.out | trivial), fun h => absurd h (by omega), fun h => absurd h (by omega)⟩, by simp [intOf]⟩
            | 2, _ =>
              have hc := fldS_any wr (g2 + 1) g2 G 64 26 (rlsC (rlsS wa wd wl wr' wc wt 2)) wl (Q2.out.apart hgw m2) (P2.out.apart hgw n2) hCG (by rw [rls_len _ (rlsS_ok ..)]; decide)
              rw [set_l _ (rlsS_ok ..)] at hc
              have HG2 := Lib.hid hgw
              have O0 := Lib.hid (o1 (by omega))
              have O1 := Lib.hid (o2 (by omega))
              clear o1 o2 o3 o4 hCG hgw
              go_wp2_with (go_at_call 36; refine hc.mono ?_; clear hc; rintro e w3 ⟨rfl, hC3, hg3⟩)
              exact ⟨⟨3, by omega, rfl, hC3, grown_two HG2.out hg3, fun _ => O0.out, fun _ => O1.out, fun h => absurd h (by omega), fun h => absurd h (by omega)⟩, by simp [intOf]⟩
            | 3, _ =>
              have hc := fldS_any wr (g3 + 1) g3 G 65 26 (rlsC (rlsS wa wd wl wr' wc wt 3)) wr' (Q3.out.apart hgw m3) (P3.out.apart hgw n3) hCG (by rw [rls_len _ (rlsS_ok ..)]; decide)
              rw [set_r _ (rlsS_ok ..)] at hc
              have HG2 := Lib.hid hgw
              have O0 := Lib.hid (o1 (by omega))
              have O1 := Lib.hid (o2 (by omega))
              clear o1 o2 o3 o4 hCG hgw
              go_wp2_with (go_at_call 36; refine hc.mono ?_; clear hc; rintro e w3 ⟨rfl, hC3, hg3⟩)
              exact ⟨⟨4, by omega, rfl, hC3, grown_two HG2.out hg3, fun _ => O0.out, fun _ => O1.out, fun h => absurd h (by omega), fun h => absurd h (by omega)⟩, by simp [intOf]⟩
            | 4, _ =>
              have hc := fldD_any wr (g4 + 1) g4 G 66 26 (rlsC (rlsS wa wd wl wr' wc wt 4)) wc (Q4.out.apart hgw m4) (P4.out.apart hgw n4) hCG (by rw [rls_len _ (rlsS_ok ..)]; decide)
              rw [set_c _ (rlsS_ok ..)] at hc
              have HG2 := Lib.hid hgw
              have O0 := Lib.hid (o1 (by omega))
              have O1 := Lib.hid (o2 (by omega))
              clear o1 o2 o3 o4 hCG hgw
              cases hpd : (parseD wc.data.toList).isSome with
              | false =>
                rw [hpd] at hc
                have HN := Lib.hid (HN4.out hpd)
                clear hpd HN0 HN1 HN4 HN5 HFO
                go_wp2_with (go_at_call 33; refine hc.mono ?_; clear hc; rintro e w3 ⟨rfl, _, hg3⟩)
                go_ret
                exact ⟨ret_int (by rw [rlsE_none Q00.out HN.out]), grown_trans hg1 (grown_two HG2.out hg3), fun h => by rw [rlsE_none Q00.out HN.out] at h; cases h⟩
              | true =>
                rw [hpd] at hc
                have HPD := Lib.hid hpd
                clear hpd
                go_wp2_with (go_at_call 33; refine hc.mono ?_; clear hc; rintro e w3 ⟨rfl, hC3, hg3⟩)
                exact ⟨⟨5, by omega, rfl, hC3, grown_two HG2.out hg3, fun _ => O0.out, fun _ => O1.out, fun _ => (by first | exact HPD.out | trivial), fun h => absurd h (by omega)⟩, by simp [intOf]⟩
            | 5, _ =>
              have hc := fldI_any wr (g5 + 1) g5 G 98 26 (rlsC (rlsS wa wd wl wr' wc wt 5)) wt (Q5.out.apart hgw m5) (P5.out.apart hgw n5) hCG (by rw [rls_len _ (rlsS_ok ..)]; decide)
              rw [set_t _ (rlsS_ok ..)] at hc
              have HG2 := Lib.hid hgw
              have O0 := Lib.hid (o1 (by omega))
              have O1 := Lib.hid (o2 (by omega))
              have O4 := Lib.hid (o3 (by omega))
              clear o1 o2 o3 o4 hCG hgw
              cases hpd : (parseS wt.data.toList).isSome with
              | false =>
                rw [hpd] at hc
                have HN := Lib.hid (HN5.out hpd)
                clear hpd HN0 HN1 HN4 HN5 HFO
                go_wp2_with (go_at_call 37; refine hc.mono ?_; clear hc; rintro e w3 ⟨rfl, _, hg3⟩)
                go_ret
                exact ⟨ret_int (by rw [rlsE_none Q00.out HN.out]), grown_trans hg1 (grown_two HG2.out hg3), fun h => by rw [rlsE_none Q00.out HN.out] at h; cases h⟩
              | true =>
                rw [hpd] at hc
                have HPD := Lib.hid hpd
                clear hpd
                go_wp2_with (go_at_call 37; refine hc.mono ?_; clear hc; rintro e w3 ⟨rfl, hC3, hg3⟩)
                exact ⟨⟨6, by omega, rfl, hC3, grown_two HG2.out hg3, fun _ => O0.out, fun _ => O1.out, fun _ => O4.out, fun _ => (by first | exact HPD.out | trivial)⟩, by simp [intOf]⟩
            | 6, _ =>
              have hx := HFO.out (o1 (by omega)) (o2 (by omega)) (o3 (by omega)) (o4 (by omega))
              have HX := Lib.hid hx
              have HG2 := Lib.hid hgw
              have HCG := Lib.hid hCG
              have HOK := Lib.hid (rlsS_ok wa wd wl wr' wc wt 6)
              clear o1 o2 o3 o4 hCG hgw hx HN0 HN1 HN4 HN5 HFO
              go_wp2_with fail
              go_ret
              exact ⟨ret_int (by rw [rlsE_some Q00.out HX.out]), grown_trans hg1 HG2.out, fun _ => ⟨_, HX.out, HOK.out, ZL.out, ZR.out, HCG.out⟩⟩
        · have d3 : (!(k.toList == [114, 101, 108, 101, 97, 115, 101])) = true := by simp [q3]
          have HN : Hid (rlsF b = none) := Lib.hid (by rw [HF.out]; exact rlsLn_word q3)
          have HE := Lib.hid (rlsE_none q0 HN.out)
          clear q3 HF q0
          go_wp2_with fail
          go_ret
          exact ⟨ret_int (by rw [HE.out]), grown_trans hg1 hwG, fun h => by rw [HE.out] at h; cases h⟩
      · have HN : Hid (rlsF b = none) := Lib.hid (by rw [HF.out]; exact rlsLn_len q2)
        have HE := Lib.hid (rlsE_none q0 HN.out)
        have d2 : ((l.length : Int) != 7) = true := by simp; omega
        clear q2 HF q0 hSt
        generalize l.length = m at *
        go_wp2_with fail
        go_ret
        exact ⟨ret_int (by rw [HE.out]), grown_trans hg1 hwG, fun h => by rw [HE.out] at h; cases h⟩
    · have HN : Hid (rlsF b = none) := Lib.hid (rlsF_len q1)
      have HE := Lib.hid (rlsE_none q0 HN.out)
      have hm1 : m1 ≠ 1 := by have := hLn.len; omega
      have d1 : ((m1 : Int) != 1) = true := by simp; omega
      clear q1 q0 hLn
      go_wp2_with fail
      go_ret
      exact ⟨ret_int (by rw [HE.out]), grown_trans hg1 hwG, fun h => by rw [HE.out] at h; cases h⟩
  · have HE := Lib.hid (rlsE_bad q0)
    obtain ⟨q, hq⟩ : ∃ q, q = (decR b).2 := ⟨_, rfl⟩
    rw [← hq] at HE q0 ⊢
    have d0 : (q != 0) = true := by simpa using q0
    have HQ := Lib.hid q0
    clear hq hLn q0
    go_wp2_with fail
    go_ret
    exact ⟨ret_int (by rw [HE.out]), grown_trans hg1 hwG, fun h => by rw [HE.out] at h; exact absurd h HQ.out⟩
end Go.Proofs.YthlfafkakijjfaaDoor
