/- Opening records. -/
import Derived.Test.YtjdinakdkdjocaaGreatDoorOpenS
import Derived.Test.YtjdinakdkdjocaaGreatDoorOpenE
import Derived.Test.YtjdinakdkdjocaaGreatDoorRec6
set_option linter.unusedSimpArgs false
set_option linter.unusedVariables false
set_option maxRecDepth 100000
namespace Go.AdR
open Go Go.RowKit Go.Adm
instance : Inhabited Var := ⟨⟨ByteArray.empty, ByteArray.empty⟩⟩
/-- what is known of any record that was handed in -/
structure RecRaw (x : Rec) : Prop where
  run : x.run.size ≤ 140737488355328
  step : x.step.size ≤ 140737488355328
  scope : x.scope.size ≤ 140737488355328
  env : ∀ e ∈ x.env, VarOk e
  mat : ∀ e ∈ x.mat, E32 e
  prod : ∀ e ∈ x.prod, E32 e
  lo : -9223372036854775808 ≤ x.t
  hi : x.t ≤ 9223372036854775807
end Go.AdR
namespace Go.Proofs.YtjdinakdkdjocaaGreatDoor
open Go Go.RowKit Go.Adm Go.AdR Go.ChangeShapes Go.WideShapes Go.Deep
section
variable {H : Type} {enc : TypeId × Value → H} {w : World} {base b0 : Nat} {held : Bool} {r : Reach} {v : Value} {d : DataW H} {ps : List MemPlace}
theorem el_var (fuel : Nat) (cs : List Value) (x : DataW H × List MemPlace) (hs : Small Tryz.prog 49 x.1) (hl : cs.length = 2) (h : DataW.trod enc Tryz.prog w base (fun _ => true) held fuel 49 cs = some x) : ∃ e : Var, cs = varC e ∧ VarOk e := by
  obtain ⟨m0, y0, f0, g0⟩ := fldS Tryz.underlying49 h hs 0 _ rfl
  obtain ⟨m1, y1, f1, g1⟩ := fldS Tryz.underlying49 h hs 1 _ rfl
  obtain ⟨s, e0, i0, _⟩ := DataW.trod_string Tryz.underlying9 f0
  obtain ⟨u, e1, i1, _⟩ := DataW.trod_string Tryz.underlying9 f1
  rw [i0] at g0
  rw [i1] at g1
  have z0 := g0.str
  have z1 := g1.str
  have c0 : cs = [.string s] ++ cs.drop (0 + 1) := by have := cut_at (o := 0) e0; rwa [List.drop_zero] at this
  have c1 : cs.drop 1 = [.string u] ++ cs.drop (1 + 1) := cut_at e1
  refine ⟨⟨s, u⟩, ?_, ?_, ?_⟩
  · rw [c0, show 0 + 1 = 1 from rfl, c1, show 1 + 1 = 2 from rfl, List.drop_of_length_le (Nat.le_of_eq hl)]
    rfl
  · have h9 : s.data.toList.length = s.size := Array.length_toList
    show s.size ≤ _
    omega
  · have h9 : u.data.toList.length = u.size := Array.length_toList
    show u.size ≤ _
    omega
theorem el_record (fuel : Nat) (cs : List Value) (x : DataW H × List MemPlace) (hs : Small Tryz.prog 31 x.1) (hl : cs.length = 8) (h : DataW.trod enc Tryz.prog w base (fun _ => true) held fuel 31 cs = some x) :
    ∃ (o : Rec) (sc se sm sp : Sl), cs = recC o sc se sm sp ∧ RecIn w w.heap.size o sc se sm sp ∧ RecRaw o := by
  obtain ⟨m0, y0, f0, g0⟩ := fldS Tryz.underlying31 h hs 0 _ rfl
  obtain ⟨m1, y1, f1, g1⟩ := fldS Tryz.underlying31 h hs 1 _ rfl
  obtain ⟨m2, y2, f2, g2⟩ := fldS Tryz.underlying31 h hs 2 _ rfl
  obtain ⟨m3, y3, f3, g3⟩ := fldS Tryz.underlying31 h hs 3 _ rfl
  obtain ⟨m4, y4, f4, g4⟩ := fldS Tryz.underlying31 h hs 4 _ rfl
  obtain ⟨m5, y5, f5, g5⟩ := fldS Tryz.underlying31 h hs 5 _ rfl
  obtain ⟨m6, y6, f6, g6⟩ := fldS Tryz.underlying31 h hs 6 _ rfl
  obtain ⟨m7, y7, f7, g7⟩ := fldS Tryz.underlying31 h hs 7 _ rfl
  obtain ⟨s0, e0, i0, _⟩ := DataW.trod_string Tryz.underlying9 f0
  obtain ⟨s1, e1, i1, _⟩ := DataW.trod_string Tryz.underlying9 f1
  obtain ⟨s2, e2, i2, _⟩ := DataW.trod_string Tryz.underlying9 f2
  obtain ⟨t, e3, _, hw⟩ := DataW.trod_int Tryz.underlying2 f3
  have hb : -9223372036854775808 ≤ t ∧ t ≤ 9223372036854775807 := by simpa [Lit.wf, IntKind.min, IntKind.max, IntKind.signed, IntKind.bits] using hw
  rw [i0] at g0
  rw [i1] at g1
  rw [i2] at g2
  have z0 := g0.str
  have z1 := g1.str
  have z2 := g2.str
  have l4 : cs.drop 4 = [cs[4]] ++ cs.drop (4 + 1) := List.drop_eq_getElem_cons (by omega)
  have l5 : cs.drop 5 = [cs[5]] ++ cs.drop (5 + 1) := List.drop_eq_getElem_cons (by omega)
  have l6 : cs.drop 6 = [cs[6]] ++ cs.drop (6 + 1) := List.drop_eq_getElem_cons (by omega)
  have l7 : cs.drop 7 = [cs[7]] ++ cs.drop (7 + 1) := List.drop_eq_getElem_cons (by omega)
  have t4 : (cs.drop 4).take 1 = [cs[4]] := by rw [l4]; rfl
  have t5 : (cs.drop 5).take 1 = [cs[5]] := by rw [l5]; rfl
  have t6 : (cs.drop 6).take 1 = [cs[6]] := by rw [l6]; rfl
  have t7 : (cs.drop 7).take 1 = [cs[7]] := by rw [l7]; rfl
  have f4' : DataW.trod enc Tryz.prog w base (fun _ => true) held m4 27 [cs[4]] = some y4 := by rw [← t4]; exact f4
  have f5' : DataW.trod enc Tryz.prog w base (fun _ => true) held m5 28 [cs[5]] = some y5 := by rw [← t5]; exact f5
  have f6' : DataW.trod enc Tryz.prog w base (fun _ => true) held m6 29 [cs[6]] = some y6 := by rw [← t6]; exact f6
  have f7' : DataW.trod enc Tryz.prog w base (fun _ => true) held m7 29 [cs[7]] = some y7 := by rw [← t7]; exact f7
  obtain ⟨A4, n4, c4, ss, v4, hn4, hc4, S4⟩ := open_strs Tryz.underlying27 Tryz.underlying9 (by kernel_rfl) (of_decide_eq_true (by kernel_rfl)) f4' g4
  obtain ⟨A5, n5, c5, q5, v5, hc5, hn5, ok5, E5⟩ := trod_els varC VarOk (by decide) Tryz.underlying28 (by kernel_rfl) (of_decide_eq_true (by kernel_rfl)) el_var (fun a h => rfl) f5' g5
  obtain ⟨A6, n6, c6, q6, v6, hc6, hn6, ok6, E6⟩ := trod_els entC E32 (by decide) Tryz.underlying29 (by kernel_rfl) (of_decide_eq_true (by kernel_rfl)) el_entry (fun a h => entC_len h) f6' g6
  obtain ⟨A7, n7, c7, q7, v7, hc7, hn7, ok7, E7⟩ := trod_els entC E32 (by decide) Tryz.underlying29 (by kernel_rfl) (of_decide_eq_true (by kernel_rfl)) el_entry (fun a h => entC_len h) f7' g7
  have c0 : cs = [.string s0] ++ cs.drop (0 + 1) := by have := cut_at (o := 0) e0; rwa [List.drop_zero] at this
  have c1 : cs.drop 1 = [.string s1] ++ cs.drop (1 + 1) := cut_at e1
  have c2 : cs.drop 2 = [.string s2] ++ cs.drop (2 + 1) := cut_at e2
  have c3 : cs.drop 3 = [.int .i64 t] ++ cs.drop (3 + 1) := cut_at e3
  refine ⟨⟨s0, s1, s2, t, ss, q5, q6, q7⟩, ⟨A4, n4, c4⟩, ⟨A5, n5, c5⟩, ⟨A6, n6, c6⟩, ⟨A7, n7, c7⟩, ?_, ⟨S4, E5, E6, E7⟩, ⟨?_, ?_, ?_, ok5, ok6, ok7, hb.1, hb.2⟩⟩
  · rw [c0, show 0 + 1 = 1 from rfl, c1, show 1 + 1 = 2 from rfl, c2, show 2 + 1 = 3 from rfl, c3, show 3 + 1 = 4 from rfl, l4, show 4 + 1 = 5 from rfl, l5, show 5 + 1 = 6 from rfl, l6, show 6 + 1 = 7 from rfl, l7, show 7 + 1 = 8 from rfl, List.drop_of_length_le (Nat.le_of_eq hl), v4, v5, v6, v7]
    rfl
  · have h9 : s0.data.toList.length = s0.size := Array.length_toList
    show s0.size ≤ _
    omega
  · have h9 : s2.data.toList.length = s2.size := Array.length_toList
    show s2.size ≤ _
    omega
  · have h9 : s1.data.toList.length = s1.size := Array.length_toList
    show s1.size ≤ _
    omega
theorem open_record (hval : Value.okWide Tryz.prog w r b0 31 v) (hd : DataW.Trod enc Tryz.prog w base (fun _ => true) held 31 v d ps) (hs : Small Tryz.prog 31 d) :
    ∃ (o : Rec) (sc se sm sp : Sl), v = .agg (recC o sc se sm sp).toArray ∧ RecIn w w.heap.size o sc se sm sp ∧ RecRaw o := by
  obtain ⟨cs, rfl, hc⟩ := okWide_struct Tryz.underlying31 hval
  obtain ⟨fu, f⟩ := hd
  obtain ⟨o, sc, se, sm, sp, e, ho⟩ := el_record fu cs.toList _ hs (by rw [Array.length_toList, hc]; kernel_rfl) f
  exact ⟨o, sc, se, sm, sp, by rw [← e], ho⟩
end
end Go.Proofs.YtjdinakdkdjocaaGreatDoor
