/- The waking test of the laws on records: the encoded form of a record without files. -/
import Derived.Test.YtjdinakdkdjocaaGreatDoorRecT
import Derived.Test.YtjdinakdkdjocaaGreatDoorLineV
import Derived.Test.YtjdinakdkdjocaaGreatDoorNumP
import Derived.Test.YtjdinakdkdjocaaGreatDoorDocA
set_option linter.unusedSimpArgs false
set_option linter.unusedVariables false
set_option maxRecDepth 100000
namespace Go.Adm
open Go Go.RowKit
theorem cell_at {w : World} {g : Nat} {t : TypeId} {cs : List Value} (h : Cells w g t cs) {i : Nat} {v : Value} (hi : cs[i]? = some v) : w.cell? ⟨g, i, none⟩ = some v := by
  obtain ⟨hl, e⟩ := List.getElem?_eq_some_iff.1 hi
  rw [Cells.cell h hl, e]
theorem cell_all {w : World} {g : Nat} {t : TypeId} {cs : List Value} (h : Cells w g t cs) : ∀ j u, cs[j]? = some u → w.cell? ((⟨g, 0, none⟩ : Addr).add j) = some u := by
  intro j u hu
  rw [show (⟨g, 0, none⟩ : Addr).add j = ⟨g, j, none⟩ from by simp [Addr.add]; omega]
  exact cell_at h hu
/-- a document that was made by a literal of two rows -/
def TwoV (ls : List (List ByteArray)) (W : World) (v : Value) : Prop := ∃ ad, v = .slice (some ad) 2 2 ∧ Lines W W.heap.size (some ad) 2 ls
theorem TwoV.grown {ls : List (List ByteArray)} {w w' : World} {v : Value} (hg : w.grownBy w' none) (h : TwoV ls w v) : TwoV ls w' v := by
  obtain ⟨ad, h1, h2⟩ := h
  exact ⟨ad, h1, (h2.keep fun p hp => World.cell?_of_block (w := w) (hg.block _ hp (by simp))).mono hg.size⟩
theorem TwoV.lit (w : World) (t : TypeId) (s1 s2 : List ByteArray) (n1 n2 : Nat) (v1 v2 : Value) (h1 : n1 ≤ 1000) (h2 : n2 ≤ 1000) (r1 : RowV n1 s1 w v1) (r2 : RowV n2 s2 w v2) :
    TwoV [s1, s2] (w.alloc (.cells #[v1, v2] t)) (.slice (some ⟨w.heap.size, 0, none⟩) 2 2) := by
  obtain ⟨a1, rfl, k1, p1⟩ := r1
  obtain ⟨a2, rfl, k2, p2⟩ := r2
  have q1 := p1.grown (grown_alloc w (.cells #[.slice (some a1) n1 n1, .slice (some a2) n2 n2] t))
  have q2 := p2.grown (grown_alloc w (.cells #[.slice (some a1) n1 n1, .slice (some a2) n2 n2] t))
  refine ⟨_, rfl, ⟨rfl, by decide, [.slice (some a1) n1 n1, .slice (some a2) n2 n2], (Rd.lit w #[.slice (some a1) n1 n1, .slice (some a2) n2 n2] t 2 rfl).mono (by simp), fun k hk => ?_⟩⟩
  match k, hk with
  | 0, _ => exact ⟨some a1, n1, by simp [k1], by simp [k1], Nat.le_trans h1 (by decide), by simpa [k1] using q1⟩
  | 1, _ => exact ⟨some a2, n2, by simp [k2], by simp [k2], Nat.le_trans h2 (by decide), by simpa [k2] using q2⟩
def VF.two (ls : List (List ByteArray)) : VF := .gen (TwoV ls) fun _ _ _ hg h => h.grown hg
theorem run_app_nothing {P : Program} (w : World) {t e : TypeId} {z : Value} {size bytes : Nat} (E : ElemOf P t e z size bytes) (ty : TypeId) (ad : Addr) (n : Nat) : (Builtin.append_ #[t, t] ty #[.slice (some ad) n n, .slice none 0 0]).run P w = .ok (.slice (some ad) n n) w := by
  obtain ⟨i, hi, hz, hsize, hby⟩ := E.hi
  simp [Builtin.append_, run_underlying E.ht, sizeOf, typeInfo, hi, Builtin.lenOf, Builtin.firstCells, storeCells]
theorem wp_app_nothing {P : Program} {w : World} {o : Oper} {a : Act} {K : Act → World → Prop} {Q : Exit → Act → World → Prop} {t e : TypeId} {z : Value} {size bytes : Nat} (E : ElemOf P t e z size bytes) (s x : Operand)
    (ho : o.op = .call { callee := .builtin .append, args := #[s, x], argTypes := #[t, t] }) (ad : Addr) (n : Nat) (hs : a.eval s = .slice (some ad) n n) (hx : a.eval x = .slice none 0 0) (h : K (a.put o.dst (.slice (some ad) n n)) w) : o.wp P a w K Q := by
  unfold Oper.wp execOp
  simp only [ho, resolve, invoke, builtin, Sem.run_bind, Sem.run_pure, Result.andThen_ok, List.map_toArray, List.map_cons, List.map_nil, hs, hx, run_app_nothing w E o.type ad n]
  exact h
theorem wl_app_nothing {P : Program} {ops : Array Oper} {rest : List Oper} {w : World} {o : Oper} {a : Act} {Q : Exit → Act → World → Prop} {t e : TypeId} {z : Value} {size bytes : Nat} (E : ElemOf P t e z size bytes) (hgd : o.guard = none) (s x : Operand)
    (ho : o.op = .call { callee := .builtin .append, args := #[s, x], argTypes := #[t, t] }) (ad : Addr) (n : Nat) (hs : a.eval s = .slice (some ad) n n) (hx : a.eval x = .slice none 0 0) (h : wpList P ops Q rest (a.put o.dst (.slice (some ad) n n)) w) : wpList P ops Q (o :: rest) a w :=
  wpList_plain hgd fun _ hK => wp_app_nothing E s x ho ad n hs hx (hK _ _ h)
def recA : List Value := [.string ⟨#[114]⟩, .string ⟨#[]⟩, .string ⟨#[115]⟩, .int .i64 3, .slice none 0 0, .slice none 0 0, .slice none 0 0, .slice none 0 0]
def recZ : List Value := [.string ByteArray.empty, .string ByteArray.empty, .string ByteArray.empty, .int .i64 0, .slice none 0 0, .slice none 0 0, .slice none 0 0, .slice none 0 0]
def rowA : List ByteArray := [⟨#[114, 101, 99, 111, 114, 100]⟩, ⟨#[114]⟩, ⟨#[]⟩, ⟨#[115]⟩, ⟨#[51]⟩]
def rowB : List ByteArray := [⟨#[99, 111, 109, 109, 97, 110, 100]⟩]
def recL : List (List ByteArray) := [rowA, rowB]
def recT : List UInt8 := [114, 101, 99, 111, 114, 100, 32, 114, 32, 126, 32, 115, 32, 51, 10, 99, 111, 109, 109, 97, 110, 100, 10]
theorem recL_E : docE recL = 0 := by decide +kernel
theorem recL_D : encD recL = recT := by decide +kernel
theorem itoa3 : Lib.itoa 3 = [51] := by decide +kernel
end Go.Adm
namespace Go.Proofs.YtjdinakdkdjocaaGreatDoor
open Go Go.RowKit Go.Adm
theorem el_str : ElemOf Tryz.prog 27 9 (.string ByteArray.empty) 1 16 := ElemOf.mk' Tryz.underlying27 (by kernel_rfl) rfl (by decide) (by decide)
theorem el_line : ElemOf Tryz.prog 47 27 (.slice none 0 0) 1 24 := ElemOf.mk' Tryz.underlying47 (by kernel_rfl) rfl (by decide) (by decide)
theorem zero_rec (w : World) : (zeroValue 31).run Tryz.prog w = .ok (.agg recZ.toArray) w := by kernel_rfl
theorem name_r : nameB ⟨#[114]⟩ = true := nameB_yes ⟨by decide, by decide, by decide⟩
theorem name_s : nameB ⟨#[115]⟩ = true := nameB_yes ⟨by decide, by decide, by decide⟩
theorem Index0 (v : Value) (w : World) : Calls Tryz.prog 82 #[.slice none 0 0, v] w fun e w' => e = .returned (.int .i64 (-1)) ∧ w' = w := by
  go_enter Tryz.func82, Tryz.ntmps82
  go_wp2_with fail
  go_loop [8] (fun i => i = .int .i64 0) (fun _ => 0)
  case atStart => rfl
  case round =>
    obtain rfl := hrel
    go_wp2_with fail
    go_ret
    exact ⟨rfl, rfl⟩
theorem Contains0 (v : Value) (w : World) : Calls Tryz.prog 58 #[.slice none 0 0, v] w fun e w' => e = .returned (.bool false) ∧ w' = w := by
  go_enter Tryz.func58, Tryz.ntmps58
  go_wp2_with (go_at_call 82; refine (Index0 _ _).mono ?_; rintro e w' ⟨rfl, rfl⟩)
  go_ret
  exact ⟨rfl, rfl⟩
theorem variables0 (w : World) : Calls Tryz.prog 59 #[.slice none 0 0] w fun e w' => e = .returned (.bool true) ∧ w' = w := by
  go_enter Tryz.func59, Tryz.ntmps59
  go_wp2_with fail
  go_loop [7] (fun i => i = .int .i64 0) (fun _ => 0)
  case atStart => rfl
  case round =>
    obtain rfl := hrel
    go_wp2_with fail
    go_ret
    exact ⟨rfl, rfl⟩
theorem snapValid0 (w : World) : Calls Tryz.prog 60 #[.slice none 0 0] w fun e w' => e = .returned (.bool true) ∧ w' = w := by
  go_enter Tryz.func60, Tryz.ntmps60
  go_wp2_with fail
  go_loop [7] (fun i => i = .int .i64 0) (fun _ => 0)
  case atStart => rfl
  case round =>
    obtain rfl := hrel
    go_wp2_with fail
    go_ret
    exact ⟨rfl, rfl⟩
theorem Lines0 (t : ByteArray) (w : World) : Calls Tryz.prog 36 #[.string t, .slice none 0 0] w fun e w' => e = .returned (.slice none 0 0) ∧ w' = w := by
  go_enter Tryz.func36, Tryz.ntmps36
  go_wp2_with fail
  go_loop [5, 10] (fun v i => i = .int .i64 0 ∧ v = .slice none 0 0) (fun _ _ => 0)
  case atStart => exact ⟨rfl, rfl⟩
  case round =>
    obtain ⟨rfl, rfl⟩ := hrel
    go_wp2_with fail
    go_ret
    exact ⟨rfl, rfl⟩
theorem nameR (w : World) : Calls Tryz.prog 56 #[.string ⟨#[114]⟩] w fun e w' => e = .returned (.bool true) ∧ w = w' := by rw [← name_r]; exact Name_any _ w (by decide)
theorem nameS (w : World) : Calls Tryz.prog 56 #[.string ⟨#[115]⟩] w fun e w' => e = .returned (.bool true) ∧ w = w' := by rw [← name_s]; exact Name_any _ w (by decide)
theorem scope0 (m : Int) (w : World) (hm : w.cell? ⟨0, 0, none⟩ = some (.int .i64 m)) : Calls Tryz.prog 33 #[.string ⟨#[]⟩] w fun e w' => e = .returned (.bool true) ∧ Below w.heap.size w w' := by
  have h := Scope_any ⟨#[]⟩ w (by decide) m hm
  rwa [show scopeB ⟨#[]⟩ = true from by unfold scopeB; rw [show ((⟨#[]⟩ : ByteArray).toList == []) = true from by rw [ByteArray.toList_eq]; rfl]; rfl] at h
set_option maxHeartbeats 3200000 in
theorem recValid0 (m : Int) (w : World) (hm : w.cell? ⟨0, 0, none⟩ = some (.int .i64 m)) (hgm : 0 < w.heap.size) : Calls Tryz.prog 25 #[.agg recA.toArray] w fun e w' => e = .returned (.bool true) ∧ Below w.heap.size w w' := by
  have hR : All w [.kept w w.heap.size] := ⟨⟨Below.refl _ _, Nat.le_refl _⟩, trivial⟩
  have HM := Lib.hid hm
  clear hm
  go_enter Tryz.func25, Tryz.ntmps25
  go_upto_region 1 with (fail)
  refine wp_gen (hR.new (l := recA) _ 31 rfl rfl) ?_
  intro W hW
  have hm2 : Hid (W.cell? ⟨0, 0, none⟩ = some (.int .i64 m)) := Lib.hid (((hW.at_ 1 rfl : _ ∧ _).1.cell hgm).trans HM.out)
  have c0 := cell_at (hW.at_ 0 rfl) (i := 0) rfl
  have c1 := cell_at (hW.at_ 0 rfl) (i := 1) rfl
  have c2 := cell_at (hW.at_ 0 rfl) (i := 2) rfl
  have c3 := cell_at (hW.at_ 0 rfl) (i := 3) rfl
  have hnr := name_r
  have hns := name_s
  clear hR
  go_upto_region 4 with (first
    | (go_at_call 56; refine (Name_any _ _ (by decide)).mono ?_; rintro e w' ⟨rfl, rfl⟩)
    | (go_at_call 33; refine (scope0 m _ hm2.out).mono ?_; rintro e w2 ⟨rfl, hb2⟩; have c8 := cell_at ((hW.call hb2).at_ 0 rfl) (i := 3) rfl))
  clear c0 c1 c2 c3 c8 hnr hns
  have hW2 := hW.call hb2
  clear hW hb2 hm2
  have c4 := cell_at (hW2.at_ 0 rfl) (i := 4) rfl
  have c5 := cell_at (hW2.at_ 0 rfl) (i := 5) rfl
  have c6 := cell_at (hW2.at_ 0 rfl) (i := 6) rfl
  have c7 := cell_at (hW2.at_ 0 rfl) (i := 7) rfl
  go_wp2_with (first
    | (go_at_call 58; refine (Contains0 _ _).mono ?_; rintro e w' ⟨rfl, rfl⟩)
    | (go_at_call 59; refine (variables0 _).mono ?_; rintro e w' ⟨rfl, rfl⟩)
    | (go_at_call 60; refine (snapValid0 _).mono ?_; rintro e w' ⟨rfl, rfl⟩))
  go_ret
  exact ⟨rfl, (hW2.at_ 1 rfl : _ ∧ _).1⟩
theorem encRec (w : World) (ad : Addr) (h : Lines w w.heap.size (some ad) 2 recL) : Calls Tryz.prog 37 #[.slice (some ad) 2 2] w fun e w' => ∃ A c, e = .returned (.tuple #[.slice A 23 c, .int .i64 0]) ∧ Below w.heap.size w w' ∧ Rd w' w'.heap.size 1 A 23 (recT.map bv) := by
  refine (Encode_any w w.heap.size (some ad) 2 2 recL h (Nat.le_refl _)).mono ?_
  rintro e w' ⟨A, n, c, rfl, hb, ho, _⟩
  have h1 := Own.rd (ho recL_E)
  rw [recL_D] at h1
  have h2 := h1.len
  obtain rfl : n = 23 := by rw [List.length_map] at h2; have : recT.length = 23 := rfl; omega
  exact ⟨A, c, by rw [recL_E], hb, h1⟩
set_option maxHeartbeats 6400000 in
theorem recEncode0 (m : Int) (w : World) (hm : w.cell? ⟨0, 0, none⟩ = some (.int .i64 m)) (hgm : 0 < w.heap.size) (ht : Lib.TabIs Tryz.prog w "internal/strconv.uint64pow10" .u64 Lib.pow10Tab) :
    Calls Tryz.prog 12 #[.agg recA.toArray] w fun e w' => ∃ A c, e = .returned (.tuple #[.slice A 23 c, .int .i64 0]) ∧ Below w.heap.size w w' ∧ Rd w' w'.heap.size 1 A 23 (recT.map bv) := by
  have hR : All w [.kept w w.heap.size] := ⟨⟨Below.refl _ _, Nat.le_refl _⟩, trivial⟩
  have HM := Lib.hid hm
  have HT : Hid (∀ W, Below w.heap.size w W → Lib.TabIs Tryz.prog W "internal/strconv.uint64pow10" .u64 Lib.pow10Tab) := Lib.hid (fun W hb => tab_keep ht hb)
  clear hm ht
  go_enter Tryz.func12, Tryz.ntmps12
  go_upto_region 1 with (fail)
  refine wp_gen (hR.new (l := recA) _ 31 rfl rfl) ?_
  intro W hW
  have hm2 : Hid (W.cell? ⟨0, 0, none⟩ = some (.int .i64 m)) := Lib.hid (((hW.at_ 1 rfl : _ ∧ _).1.cell hgm).trans HM.out)
  have hg2 : 0 < W.heap.size := Nat.lt_of_lt_of_le hgm (hW.at_ 1 rfl : _ ∧ _).2
  clear hR
  go_upto_region 3 with (first
    | (refine wl_load_any rfl 31 (.tmp 1) rfl ⟨w.heap.size, 0, none⟩ rfl recA _ (cell_all (hW.at_ 0 rfl)) Tryz.underlying31 rfl (by kernel_rfl) ?_)
    | (go_at_call 25; refine (recValid0 m _ hm2.out hg2).mono ?_; rintro e w2 ⟨rfl, hb2⟩; have hW2 := hW.call hb2))
  clear hW hb2 hm2 hg2
  refine wp_region_hops 14 [10, 11, 12, 13, 14, 15, 16, 17, 18, 19, 20, 21, 22, 23] _
    [.eq (.pointer (some ⟨w.heap.size, 0, none⟩)), .eq (.string ⟨#[114]⟩), .eq (.pointer (some ⟨w.heap.size, 1, none⟩)), .eq (.string ⟨#[]⟩), .eq (.pointer (some ⟨w.heap.size, 2, none⟩)), .eq (.string ⟨#[115]⟩), .eq (.pointer (some ⟨w.heap.size, 3, none⟩)), .eq (.int .i64 3), .eq (.string ⟨#[51]⟩), .row 5 rowA, .row 1 rowB, .eq (.pointer (some ⟨w.heap.size, 4, none⟩)), .eq (.slice none 0 0), .row 1 rowB]
    (by kernel_rfl) (by kernel_rfl) hW2 rfl ?hops ?fin
  case hops =>
    refine ⟨?_, ?_, ?_, ?_, ?_, ?_, ?_, ?_, ?_, ?_, ?_, ?_, ?_, ?_, trivial⟩
    · intro a' W hW hb hd K hK
      have b1 := hb 1 rfl
      go_simp
      exact hK _ _ (World.grownBy.refl _ _) rfl
    · intro a' W hW hb hd K hK
      have b10 : a'.tmps[10]?.getD undef = _ := hd ⟨0, .data⟩ (by simp) rfl
      have cc := cell_at (hW.at_ 0 rfl) (i := 0) rfl
      go_simp
      exact hK _ _ (World.grownBy.refl _ _) rfl
    · intro a' W hW hb hd K hK
      have b1 := hb 1 rfl
      go_simp
      exact hK _ _ (World.grownBy.refl _ _) rfl
    · intro a' W hW hb hd K hK
      have b12 : a'.tmps[12]?.getD undef = _ := hd ⟨2, .data⟩ (by simp) rfl
      have cc := cell_at (hW.at_ 0 rfl) (i := 1) rfl
      go_simp
      exact hK _ _ (World.grownBy.refl _ _) rfl
    · intro a' W hW hb hd K hK
      have b1 := hb 1 rfl
      go_simp
      exact hK _ _ (World.grownBy.refl _ _) rfl
    · intro a' W hW hb hd K hK
      have b14 : a'.tmps[14]?.getD undef = _ := hd ⟨4, .data⟩ (by simp) rfl
      have cc := cell_at (hW.at_ 0 rfl) (i := 2) rfl
      go_simp
      exact hK _ _ (World.grownBy.refl _ _) rfl
    · intro a' W hW hb hd K hK
      have b1 := hb 1 rfl
      go_simp
      exact hK _ _ (World.grownBy.refl _ _) rfl
    · intro a' W hW hb hd K hK
      have b16 : a'.tmps[16]?.getD undef = _ := hd ⟨6, .data⟩ (by simp) rfl
      have cc := cell_at (hW.at_ 0 rfl) (i := 3) rfl
      go_simp
      exact hK _ _ (World.grownBy.refl _ _) rfl
    · intro a' W hW hb hd K hK
      have b17 : a'.tmps[17]?.getD undef = _ := hd ⟨7, .data⟩ (by simp) rfl
      go_simp
      refine (Number_any 3 (by decide) (by decide) W (HT.out W (hW.at_ 1 rfl : _ ∧ _).1)).mono ?_
      rintro e w' ⟨rfl, hb'⟩
      exact hK _ _ (grown_of_below hb') (by rw [itoa3]; rfl)
    · intro a' W hW hb hd K hK
      have b11 : a'.tmps[11]?.getD undef = _ := hd ⟨1, .data⟩ (by simp) rfl
      have b13 : a'.tmps[13]?.getD undef = _ := hd ⟨3, .data⟩ (by simp) rfl
      have b15 : a'.tmps[15]?.getD undef = _ := hd ⟨5, .data⟩ (by simp) rfl
      have b18 : a'.tmps[18]?.getD undef = _ := hd ⟨8, .data⟩ (by simp) rfl
      go_simp
      exact hK _ _ (grown_alloc _ _) (RowV.lit W _ rowA 5 rfl (by decide))
    · intro a' W hW hb hd K hK
      go_simp
      exact hK _ _ (grown_alloc _ _) (RowV.lit W _ rowB 1 rfl (by decide))
    · intro a' W hW hb hd K hK
      have b1 := hb 1 rfl
      go_simp
      exact hK _ _ (World.grownBy.refl _ _) rfl
    · intro a' W hW hb hd K hK
      have b21 : a'.tmps[21]?.getD undef = _ := hd ⟨11, .data⟩ (by simp) rfl
      have cc := cell_at (hW.at_ 0 rfl) (i := 4) rfl
      go_simp
      exact hK _ _ (World.grownBy.refl _ _) rfl
    · intro a' W hW hb hd K hK
      have b22 : a'.tmps[22]?.getD undef = _ := hd ⟨12, .data⟩ (by simp) rfl
      have hr : RowV 1 rowB W (a'.tmps[20]?.getD undef) := hd ⟨10, .data⟩ (by simp) rfl
      have hr2 := hr
      obtain ⟨ad, b20, _, _⟩ := hr2
      refine wp_app_nothing el_str (.tmp 20) (.tmp 22) rfl ad 1 (show a'.eval (.tmp 20) = _ from by simp only [Act.eval, Array.getD_eq_getD_getElem?]; exact b20) (show a'.eval (.tmp 22) = _ from by simp only [Act.eval, Array.getD_eq_getD_getElem?]; exact b22) ?_
      rw [b20] at hr
      exact hK _ _ (World.grownBy.refl _ _) hr
  case fin =>
    intro vs V hV hv
    have e9 : RowV 5 rowA V (vs 9) := hv 9 (by decide)
    have e13 : RowV 1 rowB V (vs 13) := hv 13 (by decide)
    clear hv hW2
    simp only [putAll, List.drop_succ_cons, List.drop_zero, Act.put, List.setIfInBounds_toArray, List.set_cons_succ, List.set_cons_zero]
    generalize vs 9 = v9 at *
    generalize vs 13 = v13 at *
    generalize vs 10 = v10 at *
    have hlit := TwoV.lit V 27 rowA rowB 5 1 v9 v13 (by decide) (by decide) e9 e13
    obtain ⟨a9, rfl, _, _⟩ := e9
    obtain ⟨a13, rfl, _, _⟩ := e13
    have hV1 := hV.alloc (.cells #[.slice (some a9) 5 5, .slice (some a13) 1 1] 27)
    go_upto_region 4 with (fail)
    refine wp_genP (Pr := fun U => TwoV recL U (.slice (some ⟨V.heap.size, 0, none⟩) 2 2) ∧ All U [.cells w.heap.size 31 recA, .kept w w.heap.size]) ⟨hlit, hV1⟩ ?_
    rintro U ⟨hT2, hU⟩
    clear hlit hV1 hV
    obtain ⟨ad, had, hLn⟩ := hT2
    obtain rfl : ⟨V.heap.size, 0, none⟩ = ad := by injection had with h1; injection h1
    clear had
    generalize V.heap.size = g2 at *
    have c5 := cell_at (hU.at_ 0 rfl) (i := 5) rfl
    have c6 := cell_at (hU.at_ 0 rfl) (i := 6) rfl
    have c7 := cell_at (hU.at_ 0 rfl) (i := 7) rfl
    have hB := (hU.at_ 1 rfl : _ ∧ _).1
    have hlen := hU.size_kept 1 rfl
    go_wp2_with fail
    go_loop [4, 28] (fun v i => i = .int .i64 0 ∧ v = .slice (some ⟨g2, 0, none⟩) 2 2) (fun _ _ => 0)
    case atStart => exact ⟨rfl, rfl⟩
    case round =>
      obtain ⟨rfl, rfl⟩ := hrel
      go_wp2_with (first
        | (go_at_call 36; refine (Lines0 _ _).mono ?_; rintro e w' ⟨rfl, rfl⟩)
        | (refine wl_app_nothing el_line rfl (.tmp 41) (.tmp 44) rfl ⟨g2, 0, none⟩ 2 rfl rfl ?_)
        | (refine wl_app_nothing el_line rfl (.tmp 46) (.tmp 49) rfl ⟨g2, 0, none⟩ 2 rfl rfl ?_)
        | (go_at_call 37; refine (encRec _ _ hLn).mono ?_; rintro e w5 ⟨A5, c5, rfl, hb5, hr5⟩))
      go_ret2
      exact ⟨A5, c5, rfl, ((hU.call hb5).at_ 1 rfl : _ ∧ _).1, hr5⟩
end Go.Proofs.YtjdinakdkdjocaaGreatDoor
