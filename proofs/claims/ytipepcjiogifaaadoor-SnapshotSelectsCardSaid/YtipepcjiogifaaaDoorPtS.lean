/- Relocation: the order is kept; the reference's Rest and Under. -/
import Derived.Test.YtipepcjiogifaaaDoorPtR
set_option linter.unusedSimpArgs false
set_option linter.unusedVariables false
set_option maxRecDepth 100000
namespace Go.Adm
open Go Go.RowKit
theorem names_end : ∀ (l acc : List UInt8), namesOk acc (l ++ [47]) = false
  | [], acc => by simp [namesOk, okName]
  | b :: l, acc => by
    simp only [List.cons_append, namesOk]
    split
    · rw [names_end l [], Bool.and_false]
    · exact names_end l _
theorem path_end {p : ByteArray} (h : pathB p = true) (x : List UInt8) : p.data.toList ≠ x ++ [47] := fun e => by
  unfold pathB at h
  simp only [Bool.and_eq_true] at h
  rw [e, names_end] at h
  exact absurd h.2.2.2 (by decide)
theorem pre_iff (s d : List UInt8) : Lib.hasPrefix s (d ++ [47]) = (decide (d.length < s.length) && (s.take d.length == d) && (s.getD d.length 0 == 47)) := by
  rw [← Lib.hasPrefix_of_take, Bool.eq_iff_iff]
  simp only [Bool.and_eq_true, decide_eq_true_eq, beq_iff_eq, List.length_append, List.length_singleton]
  constructor
  · rintro ⟨h1, h2⟩
    have h3 : d.length < s.length := by omega
    rw [List.take_succ_eq_append_getElem h3] at h2
    obtain ⟨h4, h5⟩ := List.append_inj' h2 rfl
    refine ⟨⟨h3, h4⟩, ?_⟩
    rw [List.getD_eq_getElem?_getD, List.getElem?_eq_getElem h3]
    exact List.head_eq_of_cons_eq h5
  · rintro ⟨⟨h3, h4⟩, h5⟩
    refine ⟨by omega, ?_⟩
    rw [List.take_succ_eq_append_getElem h3, h4]
    rw [List.getD_eq_getElem?_getD, List.getElem?_eq_getElem h3] at h5
    rw [show s[d.length] = 47 from h5]
theorem slash_list (d : ByteArray) : (d ++ (⟨#[47]⟩ : ByteArray)).data.toList = d.data.toList ++ [47] := by
  rw [ByteArray.data_append, Array.toList_append]
theorem less_app : ∀ (x a b : List UInt8), Op.bytesLess (x ++ a) (x ++ b) = Op.bytesLess a b
  | [], a, b => rfl
  | c :: x, a, b => by
    simp only [List.cons_append, Op.bytesLess, less_app x a b]
    simp
theorem ba_eq (l : List UInt8) : ((⟨l.toArray⟩ : ByteArray)).data.toList = l := rfl
theorem blt_data (a b : ByteArray) : blt a b = Op.bytesLess a.data.toList b.data.toList := by unfold blt; rw [ByteArray.toList_eq, ByteArray.toList_eq]
theorem pre_split {s p : List UInt8} (h : Lib.hasPrefix s p = true) : s = p ++ Lib.trimPrefix s p := by
  unfold Lib.trimPrefix
  rw [if_pos h]
  unfold Lib.hasPrefix at h
  obtain ⟨t, rfl⟩ := List.isPrefixOf_iff_prefix.1 h
  rw [List.drop_left]
theorem rest_blt {d p q r r' : ByteArray} (h : restO d p = some r) (h' : restO d q = some r') : blt p q = blt r r' := by
  unfold restO at h h'
  split at h
  · rename_i h0
    rw [if_pos h0] at h'
    rw [← Option.some.inj h, ← Option.some.inj h']
  · rename_i h0
    rw [if_neg h0] at h'
    split at h
    · rename_i h1
      split at h'
      · rename_i h2
        rw [← Option.some.inj h, ← Option.some.inj h', blt_data, blt_data, ba_eq, ba_eq]
        conv => lhs; rw [pre_split h1, pre_split h2]
        exact less_app _ _ _
      · cases h'
    · cases h
theorem under_blt (t r r' : ByteArray) : blt (underB t r) (underB t r') = blt r r' := by
  unfold underB
  split
  · rfl
  · rw [blt_data, blt_data, ByteArray.data_append, ByteArray.data_append, Array.toList_append, Array.toList_append]
    exact less_app _ _ _
theorem rel_inv {f t p q : ByteArray} (h : relO f t p = some q) : pathB q = true ∧ ∃ r, restO f p = some r ∧ q = underB t r := by
  unfold relO at h
  split at h
  · split at h
    · split at h
      · cases hr : restO f p with
        | none => rw [hr] at h; cases h
        | some r =>
          rw [hr] at h
          change finO (underB t r) = some q at h
          unfold finO at h
          split at h
          · rename_i hp
            obtain rfl := Option.some.inj h
            exact ⟨hp, r, rfl, rfl⟩
          · cases h
      · cases h
    · cases h
  · cases h
theorem rel_blt {f t p q a b : ByteArray} (h : relO f t p = some a) (h' : relO f t q = some b) : blt a b = blt p q := by
  obtain ⟨-, r, hr, rfl⟩ := rel_inv h
  obtain ⟨-, r', hr', rfl⟩ := rel_inv h'
  rw [under_blt, rest_blt hr hr']
/-- an entry moved -/
def mvE (f t : ByteArray) (e : E) : Option E := (relO f t e.p).map (fun p => ⟨p, e.d⟩)
def mvL (f t : ByteArray) (l : List E) : List E := l.filterMap (mvE f t)
theorem mvE_inv {f t : ByteArray} {e x : E} (h : mvE f t e = some x) : relO f t e.p = some x.p ∧ x.d = e.d := by
  unfold mvE at h
  obtain ⟨p, h1, rfl⟩ := Option.map_eq_some_iff.1 h
  exact ⟨h1, rfl⟩
theorem mvE_32 {f t : ByteArray} {e x : E} (he : E32 e) (h : mvE f t e = some x) : E32 x := by
  obtain ⟨h1, h2⟩ := mvE_inv h
  have h3 := path_le (rel_inv h1).1
  exact ⟨by rw [h2]; exact he.1, by omega⟩
theorem mvL_32 {f t : ByteArray} {l : List E} (h : ∀ e ∈ l, E32 e) : ∀ x ∈ mvL f t l, E32 x := fun x hx => by
  obtain ⟨e, he, hm⟩ := List.mem_filterMap.1 hx
  exact mvE_32 (h e he) hm
theorem mvL_len (f t : ByteArray) (l : List E) : (mvL f t l).length ≤ l.length := List.length_filterMap_le _ _
theorem mvL_asc {f t : ByteArray} {l : List E} (h : l.Pairwise fun x y => blt x.p y.p = true) : (mvL f t l).Pairwise fun x y => blt x.p y.p = true := by
  refine List.Pairwise.filterMap _ ?_ h
  intro a a' h b hb b' hb'
  have h1 := (mvE_inv hb).1
  have h2 := (mvE_inv hb').1
  rw [rel_blt h1 h2]
  exact h
end Go.Adm
namespace Go.Proofs.YtipepcjiogifaaaDoor
open Go Go.RowKit Go.Adm
theorem Under_any (t r : ByteArray) (w : World) (ht : t.size ≤ 200) (hr : r.size ≤ 200) : Calls Tryd.prog 45 #[.string t, .string r] w fun e w' => e = .returned (.string (underB t r)) ∧ w = w' := by
  cases q1 : (t.toList == []) with
  | true =>
    have hv : Hid (underB t r = r) := Lib.hid (by unfold underB; rw [q1]; rfl)
    go_enter Tryd.func45, Tryd.ntmps45
    go_wp2_with fail
    go_ret
    exact ⟨by rw [hv.out]; rfl, rfl⟩
  | false =>
    have hv : Hid (underB t r = t ++ ⟨#[47]⟩ ++ r) := Lib.hid (by unfold underB; rw [q1]; rfl)
    go_enter Tryd.func45, Tryd.ntmps45
    go_wp2_with fail
    go_ret
    exact ⟨by rw [hv.out]; rfl, rfl⟩
theorem Rest_any (d p : ByteArray) (w : World) (hd : d.size ≤ 200) (hp : pathB p = true) : Calls Tryd.prog 44 #[.string d, .string p] w fun e w' => e = .returned (.tuple #[.string (relS (restO d p)), .bool (restO d p).isSome]) ∧ w = w' := by
  have hpl := path_le hp
  have HPE := Lib.hid (path_end hp)
  clear hp
  cases q1 : (d.toList == []) with
  | true =>
    have hv : Hid (restO d p = some p) := Lib.hid (by unfold restO; rw [q1]; rfl)
    go_enter Tryd.func44, Tryd.ntmps44
    go_wp2_with fail
    go_ret2
    rw [hv.out]
    exact ⟨rfl, rfl⟩
  | false =>
    have HQ : Hid (restO d p = if (decide (d.data.toList.length < p.data.toList.length) && (p.data.toList.take d.data.toList.length == d.data.toList) && (p.data.toList.getD d.data.toList.length 0 == 47)) = true then some ⟨(Lib.trimPrefix p.data.toList (d.data.toList ++ [47])).toArray⟩ else none) := Lib.hid (by
      unfold restO; rw [q1, slash_list, pre_iff]; rfl)
    have HDL := Lib.hid (Lib.size_eq d)
    have HPL := Lib.hid (Lib.size_eq p)
    have e1 : IntKind.i64.wrap ((d.size : Int) + 1) = ((d.size + 1 : Nat) : Int) := by rw [IntWalk.i64_in _ (by omega)]; omega
    by_cases q2 : d.size + 1 < p.size
    · have d1 : decide (((d.size + 1 : Nat) : Int) < (p.size : Int)) = true := by simp; omega
      have e2 : (0 : Int) ≤ (d.size : Int) := by omega
      have e3 : (d.size : Int) ≤ (p.size : Int) := by omega
      have e4 : (d.size : Int) < (p.size : Int) := by omega
      have e5 : (d.size : Int).toNat = d.size := by omega
      have HB : Hid (p.data.toList.getD d.data.toList.length 0 = p.data.toList.getD d.size 0) := Lib.hid (by rw [HDL.out])
      have HT : Hid (p.data.toList.take d.data.toList.length = (p.extract 0 d.size).data.toList) := Lib.hid (by rw [ext_take p d.size (by omega), HDL.out])
      have HL : Hid (decide (d.data.toList.length < p.data.toList.length) = true) := Lib.hid (by have := HDL.out; have := HPL.out; simp only [decide_eq_true_eq]; omega)
      cases q3 : ((p.extract 0 d.size).toList == d.toList) with
      | false =>
        have q4 : ((p.extract 0 d.size).data.toList == d.data.toList) = false := by rw [← ByteArray.toList_eq, ← ByteArray.toList_eq]; exact q3
        have hv : Hid (restO d p = none) := Lib.hid (by rw [HQ.out, HL.out, HT.out, q4]; rfl)
        clear q4
        go_enter Tryd.func44, Tryd.ntmps44
        go_wp2_with fail
        go_ret2
        rw [hv.out]
        exact ⟨rfl, rfl⟩
      | true =>
        have q4 : ((p.extract 0 d.size).data.toList == d.data.toList) = true := by rw [← ByteArray.toList_eq, ← ByteArray.toList_eq]; exact q3
        have HD : Hid (restO d p = if (p.data.toList.getD d.size 0 == 47) = true then some (p.extract (d.size + 1) p.size) else none) := Lib.hid (by
          have hx : (⟨(Lib.trimPrefix p.data.toList (d.data.toList ++ [47])).toArray⟩ : ByteArray) = p.extract (d.size + 1) p.size ∨ (p.data.toList.getD d.size 0 == 47) = false := by
            cases hc : (p.data.toList.getD d.size 0 == 47) with
            | false => exact .inr rfl
            | true =>
              refine .inl (toList_inj ?_)
              rw [ByteArray.toList_eq, ByteArray.toList_eq, ba_eq, ext_drop]
              have hp := pre_iff p.data.toList d.data.toList
              rw [HL.out, HT.out, q4, HB.out, hc] at hp
              unfold Lib.trimPrefix
              rw [if_pos (by rw [hp]; rfl), List.length_append, ← HDL.out]
              rfl
          rw [HQ.out, HL.out, HT.out, q4, HB.out, Bool.true_and, Bool.true_and]
          rcases hx with hx | hx
          · rw [hx]
          · rw [if_neg (by rw [hx]; decide), if_neg (by rw [hx]; decide)])
        clear HQ HL HT HB q4
        have hi : d.size < p.size := by omega
        have HX : Hid (p.data.toList.getD d.size 0 = p[d.size]) := Lib.hid (by rw [List.getD_eq_getElem?_getD, List.getElem?_eq_getElem (by rw [Array.length_toList]; exact hi)]; rfl)
        cases hc : (((p[d.size].toNat : Int)) == 47) with
        | false =>
          have hv : Hid (restO d p = none) := Lib.hid (by
            rw [HD.out, HX.out, if_neg]
            intro h
            rw [beq_iff_eq.1 h] at hc
            cases hc)
          go_enter Tryd.func44, Tryd.ntmps44
          go_wp2_with fail
          go_ret2
          rw [hv.out]
          exact ⟨rfl, rfl⟩
        | true =>
          have hv : Hid (restO d p = some (p.extract (d.size + 1) p.size)) := Lib.hid (by
            rw [HD.out, HX.out, if_pos]
            rw [beq_iff_eq] at hc ⊢
            exact UInt8.toNat_inj.1 (by rw [show (p[d.size]).toNat = 47 from by omega]; rfl))
          go_enter Tryd.func44, Tryd.ntmps44
          go_wp2_with fail
          go_ret2
          rw [hv.out]
          exact ⟨rfl, rfl⟩
    · have d1 : decide (((d.size + 1 : Nat) : Int) < (p.size : Int)) = false := by simp; omega
      have hv : Hid (restO d p = none) := Lib.hid (by
        have hdl := HDL.out
        have hpl' := HPL.out
        rw [HQ.out, if_neg]
        intro h
        simp only [Bool.and_eq_true, decide_eq_true_eq, beq_iff_eq] at h
        obtain ⟨⟨h1, h2⟩, h3⟩ := h
        refine HPE.out d.data.toList ?_
        rw [List.getD_eq_getElem?_getD, List.getElem?_eq_getElem h1] at h3
        rw [← h2]
        conv => lhs; rw [← List.take_append_drop d.data.toList.length p.data.toList]
        rw [List.drop_eq_getElem_cons h1, show p.data.toList[d.data.toList.length] = 47 from h3, List.drop_eq_nil_of_le (by omega)])
      go_enter Tryd.func44, Tryd.ntmps44
      go_wp2_with fail
      go_ret2
      rw [hv.out]
      exact ⟨rfl, rfl⟩
end Go.Proofs.YtipepcjiogifaaaDoor
