/- pattern.Match. -/
import Derived.Test.YtipepcjiogifaaaDoorPtM
set_option linter.unusedSimpArgs false
set_option linter.unusedVariables false
set_option maxRecDepth 100000
namespace Go.Adm
open Go Go.RowKit
theorem map_mem {p : Pt} {o : Option (List Pt)} {xs : List Pt} (h : o.map (p :: ·) = some xs) : ∃ r, o = some r ∧ xs = p :: r := by
  cases o with
  | none => cases h
  | some r => exact ⟨r, rfl, by injection h with h; exact h.symm⟩
theorem patR_le : ∀ (m : Nat) (l : List UInt8), l.length ≤ m → ∀ xs, patR l = some xs → xs.length ≤ l.length ∧ ∀ x ∈ xs, x.1 ≤ 3 := by
  intro m
  induction m with
  | zero =>
    intro l hl xs h
    cases l with
    | nil => rw [pat_nil] at h; injection h with h; subst h; exact ⟨Nat.le_refl _, fun x hx => by cases hx⟩
    | cons b r => simp at hl
  | succ m ih =>
    intro l hl xs h
    have hstep : ∀ (p : Pt) (r l' : List UInt8), p.1 ≤ 3 → r.length ≤ m → r.length + 1 ≤ l'.length → (patR r).map (p :: ·) = some xs → xs.length ≤ l'.length ∧ ∀ x ∈ xs, x.1 ≤ 3 := by
      intro p r l' hp hr hl' h
      obtain ⟨ys, h1, rfl⟩ := map_mem h
      obtain ⟨h2, h3⟩ := ih r hr ys h1
      refine ⟨by simp only [List.length_cons]; omega, fun x hx => ?_⟩
      rcases List.mem_cons.1 hx with e | e
      · rw [e]; exact hp
      · exact h3 x e
    cases l with
    | nil => rw [pat_nil] at h; injection h with h; subst h; exact ⟨Nat.le_refl _, fun x hx => by cases hx⟩
    | cons b r =>
      simp only [List.length_cons] at hl
      by_cases h0 : b = 0
      · rw [h0, pat_0] at h; cases h
      by_cases h1 : b = 92
      · subst h1
        cases r with
        | nil => rw [pat_esc_end] at h; cases h
        | cons c r' =>
          simp only [List.length_cons] at hl
          by_cases hc : c = 0
          · rw [hc, pat_esc_0] at h; cases h
          · rw [pat_esc r' hc] at h
            exact hstep (0, c) r' _ (by simp) (by omega) (by simp) h
      by_cases h2 : b = 63
      · subst h2; rw [pat_q] at h; exact hstep (1, 0) r _ (by simp) (by omega) (by simp) h
      by_cases h3 : b = 42
      · subst h3
        by_cases hc : ∃ r', r = 42 :: r'
        · obtain ⟨r', rfl⟩ := hc
          simp only [List.length_cons] at hl
          rw [pat_ss] at h; exact hstep (3, 0) r' _ (by simp) (by omega) (by simp) h
        · rw [pat_s (fun r' e => hc ⟨r', e⟩)] at h; exact hstep (2, 0) r _ (by simp) (by omega) (by simp) h
      rw [pat_lit r h0 h1 h2 h3] at h
      exact hstep (0, b) r _ (by simp) (by omega) (by simp) h
theorem patS_le {s : ByteArray} {xs : List Pt} (h : patS s = some xs) : xs.length ≤ 200 ∧ ∀ x ∈ xs, x.1 ≤ 3 := by
  unfold patS at h
  split at h
  · cases h
  · next hs =>
    obtain ⟨h1, h2⟩ := patR_le _ _ (Nat.le_refl _) xs h
    have : s.data.toList.length = s.size := Array.length_toList
    exact ⟨by omega, h2⟩
noncomputable def matchF (s name : ByteArray) : Bool := match patS s with
  | some xs => pathB name && matchB name.data.toList xs
  | none => false
theorem partC_len (x : Pt) : (partC x).length = 2 := rfl
theorem parts_els {w : World} {base c : Nat} {e : TypeId} {A : Option Addr} {xs : List Pt} (h : Own w base e 2 A xs.length c (xs.map partC).flatten) : Els w w.heap.size 2 A xs.length (xs.map partC) :=
  Els.of h (fun x hx => by obtain ⟨y, _, rfl⟩ := List.mem_map.1 hx; rfl) (by simp)
/-- the next row, so far as it is laid -/
def inn (L : List UInt8) (x : Pt) (f : Nat → Bool) (j : Nat) : Nat → Bool := fun q => if q ≤ j then rowN L x f q else false
theorem inn_zero (L : List UInt8) (x : Pt) (f : Nat → Bool) {n : Nat} {v : Bool} (h : v = (f 0 && repB x)) : ∀ i, i < n → (if i = 0 then v else false) = inn L x f 0 i := by
  intro i _
  unfold inn
  by_cases hi : i = 0
  · subst hi; rw [if_pos rfl, if_pos (Nat.le_refl _), h]; rfl
  · rw [if_neg hi, if_neg (by omega)]
theorem inn_step (L : List UInt8) (x : Pt) (f : Nat → Bool) (j : Nat) {n : Nat} {v : Bool} (h : rowN L x f (j + 1) = v) : ∀ i, i < n → (if i = j + 1 then v else inn L x f j i) = inn L x f (j + 1) i := by
  intro i _
  unfold inn
  by_cases hi : i = j + 1
  · subst hi; rw [if_pos rfl, if_pos (Nat.le_refl _), h]
  · rw [if_neg hi]
    by_cases h2 : i ≤ j
    · rw [if_pos h2, if_pos (by omega)]
    · rw [if_neg h2, if_neg (by omega)]
theorem inn_at {L : List UInt8} {x : Pt} {f : Nat → Bool} {j : Nat} {v : Bool} (h : rowN L x f j = v) : inn L x f j j = v := by unfold inn; rw [if_pos (Nat.le_refl _), h]
theorem bc_cell {w : World} {g : Nat} {t : TypeId} {n : Nat} {f : Nat → Bool} (h : Cells w g t (bc n f)) {i : Nat} (hi : i < n) {b : Bool} (hb : f i = b) : w.cell? ⟨g, i, none⟩ = some (.bool b) := by
  rw [h.cell (by rw [bc_len]; exact hi)]
  have := bc_at f hi
  rw [List.getElem?_eq_getElem (by rw [bc_len]; exact hi)] at this
  rw [this, hb]
theorem box_at {w : World} {g : Nat} {t : TypeId} {cs : List Value} (h : Cells w g t cs) : ∀ j u, cs[j]? = some u → w.cell? ((⟨g, 0, none⟩ : Addr).add j) = some u := Cells.sub h 0 (fun j u hu => by rw [Nat.zero_add]; exact hu)
theorem part_cells {w : World} {g : Nat} {t : TypeId} {x : Pt} (h : Cells w g t (partC x)) : w.cell? ⟨g, 0, none⟩ = some (.int .i64 (x.1 : Int)) ∧ w.cell? ⟨g, 1, none⟩ = some (.int .u8 (x.2.toNat : Int)) :=
  ⟨h.cell (i := 0) (by simp [partC]), h.cell (i := 1) (by simp [partC])⟩
theorem fn_ok {P : Program} {g : Nat} (h : FnOk P g) : ∀ args w, (callFunc g args).run P w = .ok (.enter g args) w := h
theorem All.kept_here {w : World} {rs : List Res} (h : All w rs) : All w (.kept w w.heap.size :: rs) := ⟨⟨Below.refl _ _, Nat.le_refl _⟩, h⟩
end Go.Adm
namespace Go.Proofs.YtipepcjiogifaaaDoor
open Go Go.RowKit Go.Adm
theorem el_bools : ElemOf Tryd.prog 72 4 (.bool false) 1 1 := ElemOf.mk' Tryd.underlying72 (by kernel_rfl) rfl (by decide) (by decide)
set_option maxHeartbeats 12800000 in
theorem Match_any (s name : ByteArray) (w : World) (hs : s.size ≤ 140737488355328) (hn : name.size ≤ 140737488355328) :
    Calls Tryd.prog 31 #[.string s, .string name] w fun e w' => e = .returned (.bool (matchF s name)) ∧ Below w.heap.size w w' := by
  have hzr := zero_pp
  have hpar := Parse_pat s w hs
  cases hp : patS s with
  | none =>
    rw [hp] at hpar
    have HF : Hid (matchF s name = false) := Lib.hid (by unfold matchF; rw [hp])
    clear hp
    go_enter Tryd.func31, Tryd.ntmps31
    go_wp2_with (go_at_call 46; refine hpar.mono ?_; clear hpar; rintro e w1 ⟨A, c, rfl, hO, hb1⟩)
    go_ret
    rw [HF.out]
    exact ⟨rfl, hb1⟩
  | some xs =>
    rw [hp] at hpar
    have hpath := fun W => Path_any name W hn
    obtain ⟨hx200, hx3⟩ := patS_le hp
    have HX3 := Lib.hid hx3
    cases hpb : pathB name with
    | false =>
      rw [hpb] at hpath
      have HF : Hid (matchF s name = false) := Lib.hid (by unfold matchF; rw [hp]; simp [hpb])
      clear hp hpb hx3
      go_enter Tryd.func31, Tryd.ntmps31
      go_wp2_with (first
        | (go_at_call 46; refine hpar.mono ?_; clear hpar; rintro e w1 ⟨A, c, rfl, hO, hb1⟩)
        | (go_at_call 26; refine (hpath _).mono ?_; clear hpath; rintro e w2 ⟨rfl, hb2⟩))
      go_ret
      rw [HF.out]
      exact ⟨rfl, hb1.trans (hb2.mono hb1.size)⟩
    | true =>
      rw [hpb] at hpath
      have HF : Hid (matchF s name = matchB name.data.toList xs) := Lib.hid (by unfold matchF; rw [hp]; simp [hpb])
      clear hp hpb hx3
      have wn1 : IntKind.i64.wrap ((name.size : Int) + 1) = ((name.size + 1 : Nat) : Int) := by rw [IntWalk.i64_in _ (by omega)]; omega
      have wn2 : 0 < name.size + 1 := by omega
      have wn3 : (0 : Int) < ((name.size + 1 : Nat) : Int) := by omega
      go_enter Tryd.func31, Tryd.ntmps31
      go_wp2_with (first
        | (go_at_call 46; refine hpar.mono ?_; clear hpar; rintro e w1 ⟨A, c, rfl, hO, hb1⟩)
        | (go_at_call 26; refine (hpath _).mono ?_; clear hpath; rintro e w2 ⟨rfl, hb2⟩; have hI2 : All w2 [.low (.els w1.heap.size 2 A xs.length (xs.map partC)), .kept w w.heap.size] := ⟨⟨(parts_els hO).keep (fun p hp => hb2.cell hp), hb2.size⟩, ⟨hb1.trans (hb2.mono hb1.size), Nat.le_trans hb1.size hb2.size⟩, trivial⟩)
        | (refine wl_mk el_bools hI2 rfl (.tmp 27) (.tmp 27) rfl (name.size + 1) (name.size + 1) rfl rfl (Nat.le_refl _) (by omega) ?_; intro w3 hI3 hs3; rw [bc_made] at hI3)
        | (refine wl_set1 hI3 0 rfl 4 (.tmp 30) (.const (.bool true)) rfl w2.heap.size 4 _ 0 (.bool true) rfl rfl rfl (by rw [bc_len]; omega) (by kernel_rfl) rfl (by have := hI2.at_ 0 rfl; have := hI2.at_ 1 rfl; simp [Apart, Res.apart, Low.els, Res.ok] at *; omega) ?_; intro w4 hI4 hs4; simp only [List.set_cons_zero] at hI4))
      go_loopw [7, 33] (fun v i wr => ∃ (k g : Nat), i = .int .i64 k ∧ v = .slice (some ⟨g, 0, none⟩) (name.size + 1) (name.size + 1) ∧ k ≤ xs.length ∧ All wr [.cells g 4 (bc (name.size + 1) (rowK name.data.toList xs k)), .low (.els w1.heap.size 2 A xs.length (xs.map partC)), .kept w w.heap.size]) (fun _ i _ => xs.length - (intOf i).toNat)
      case atStart =>
        rw [bc_set] at hI4
        refine ⟨0, w2.heap.size, rfl, rfl, Nat.zero_le _, ?_⟩
        rw [rowK_zero, show bc (name.size + 1) row0 = bc (name.size + 1) (fun i => if i = 0 then true else false) from bc_congr (fun i _ => by simp [row0])]
        exact hI4
      case round =>
        obtain ⟨k, g, rfl, rfl, hk, hI⟩ := hrel
        by_cases hlt : k < xs.length
        · have hkl : Hid (xs[k]? = some xs[k]) := Lib.hid (List.getElem?_eq_getElem hlt)
          have hx3 := Lib.hid (HX3.out _ (List.getElem_mem hlt))
          obtain ⟨ad, rfl, hadB, hc⟩ := Els.elem (hI.at_ 1 rfl : Els wr w1.heap.size 2 A xs.length (xs.map partC) ∧ w1.heap.size ≤ wr.heap.size).1 hlt
          have HC := Lib.hid hc
          clear hc
          generalize xs[k] = x at *
          have HM := Lib.hid (rowK_succ name.data.toList xs hkl.out)
          have d0 : decide ((k : Int) < (xs.length : Int)) = true := by simp; omega
          have hsz : w1.heap.size ≤ wr.heap.size := (hI.at_ 1 rfl : _ ∧ _).2
          have hszw : w.heap.size ≤ wr.heap.size := (hI.at_ 2 rfl : _ ∧ _).2
          have hgl : g < wr.heap.size := Cells.lt (hI.at_ 0 rfl)
          cases hf0 : rowK name.data.toList xs k 0 with
          | false =>
            have HF0 := Lib.hid hf0
            clear hf0
            go_wp2_with (first
              | (refine wl_load_any rfl 74 (.tmp 35) rfl (ad.add (k * 2)) rfl (partC x) _ HC.out Tryd.underlying74 rfl (by kernel_rfl) ?_)
              | (refine wl_store_at (hI.new (l := [.int .i64 0, .int .u8 0]) _ 74 rfl rfl) 0 rfl 74 (.tmp 9) (.tmp 36) rfl wr.heap.size _ _ (partC x) rfl rfl rfl rfl (by kernel_rfl) (partC_one x) (by simp [Apart, Res.apart, Low.els] <;> omega) ?_; intro W2 hW2 hs2; simp only [List.set_cons_zero] at hW2)
              | (refine wl_load_any rfl 74 (.tmp 9) rfl ⟨wr.heap.size, 0, none⟩ rfl (partC x) _ (box_at (hW2.at_ 0 rfl)) Tryd.underlying74 rfl (by kernel_rfl) ?_)
              | (go_at_call 47; refine (class_any x W2 hx3.out).mono ?_; rintro e w6 ⟨gf, lb, rfl, eg0, hF, hb6⟩; have eg := fn_ok eg0; clear eg0; have hI6 := hW2.call hb6; have hI6' := hI6.kept_here; have hl1 : wr.heap.size < w6.heap.size := Cells.lt (hI6.at_ 0 rfl); have hl2 : g < w6.heap.size := Cells.lt (hI6.at_ 1 rfl); have hl3 : w1.heap.size ≤ w6.heap.size := (hI6.at_ 2 rfl : _ ∧ _).2; have hl4 : w.heap.size ≤ w6.heap.size := (hI6.at_ 3 rfl : _ ∧ _).2)
              | (refine wl_mk el_bools hI6' rfl (.tmp 41) (.tmp 41) rfl (name.size + 1) (name.size + 1) rfl rfl (Nat.le_refl _) (by omega) ?_; intro w7 hI7 hs7; rw [bc_made] at hI7; have hc0 : w7.cell? ⟨g, 0, none⟩ = some (.bool false) := bc_cell (hI7.at_ 3 rfl) (i := 0) (by omega) HF0.out)
              | (refine wl_set1 hI7 0 rfl 4 (.tmp 51) (.tmp 50) rfl w6.heap.size 4 _ 0 (.bool false) rfl rfl rfl (by rw [bc_len]; omega) (by kernel_rfl) rfl (by simp [Apart, Res.apart, Low.els] <;> omega) ?_; intro w9 hI9 hs9; simp only [List.set_cons_zero] at hI9))
            obtain ⟨wo, rfl⟩ : ∃ wo : World, wo = wr := ⟨wr, rfl⟩
            go_loopw [54] (fun i wq => ∃ j : Nat, i = .int .i64 j ∧ j ≤ name.size ∧ All wq [.cells w6.heap.size 4 (bc (name.size + 1) (inn name.data.toList x (rowK name.data.toList xs k) j)), .kept w6 w6.heap.size, .cells wo.heap.size 74 (partC x), .cells g 4 (bc (name.size + 1) (rowK name.data.toList xs k)), .low (.els w1.heap.size 2 (some ad) xs.length (xs.map partC)), .kept w w.heap.size]) (fun i _ => name.size - (intOf i).toNat)
            case atStart =>
              rw [bc_set, bc_congr (inn_zero name.data.toList x (rowK name.data.toList xs k) (by rw [HF0.out]; rfl))] at hI9
              exact ⟨0, rfl, Nat.zero_le _, hI9⟩
            case round =>
              obtain ⟨j, rfl, hj, hJ⟩ := hrel
              by_cases hjl : j < name.size
              · have HB : Hid (name.data.toList.getD j 0 = name[j]) := Lib.hid (by rw [List.getD_eq_getElem?_getD, ba_at name hjl]; rfl)
                have e0 : decide ((j : Int) < (name.size : Int)) = true := by simp; omega
                have e1 : IntKind.i64.wrap ((j : Int) + 1) = ((j + 1 : Nat) : Int) := by rw [IntWalk.i64_in _ (by omega)]; omega
                have e2 : (0 : Int) ≤ (j : Int) := by omega
                have e3 : (j : Int) < (name.size : Int) := by omega
                have e4 : (j : Int) < ((name.size + 1 : Nat) : Int) := by omega
                have e5 : ((j + 1 : Nat) : Int) < ((name.size + 1 : Nat) : Int) := by omega
                have e6 : (0 : Int) ≤ ((j + 1 : Nat) : Int) := by omega
                have e7 : ((j + 1 : Nat) : Int).toNat = j + 1 := by omega
                have e8 : (j : Int).toNat = j := by omega
                have hrep := fun W => repeats_any x W hx3.out
                cases hr : repB x with
                | true =>
                  rw [hr] at hrep
                  have HR := Lib.hid hr
                  clear hr
                  cases hv1 : rowK name.data.toList xs k (j + 1) with
                  | true =>
                    have HV1 := Lib.hid hv1; clear hv1
                    go_wp2_with (first
                      | (refine wl_load_any rfl 74 (.tmp 9) rfl ⟨wo.heap.size, 0, none⟩ rfl (partC x) _ (box_at (hJ.at_ 2 rfl)) Tryd.underlying74 rfl (by kernel_rfl) ?_)
                      | (go_at_call 48; refine (hrep _).mono ?_; clear hrep; rintro e v5 ⟨rfl, hb5⟩; have hJ5 := hJ.call hb5; have hca : v5.cell? ⟨g, j + 1, none⟩ = some (.bool true) := bc_cell (hJ5.at_ 3 rfl) (i := j + 1) (by omega) HV1.out)
                      | (refine wl_set1 hJ5 0 rfl 4 (.tmp 96) (.tmp 95) rfl w6.heap.size 4 _ (j + 1) (.bool true) rfl rfl rfl (by rw [bc_len]; omega) (by kernel_rfl) rfl (by simp [Apart, Res.apart, Low.els] <;> omega) ?_; intro w9 hJ9 hs9; simp only [List.set_cons_zero] at hJ9))
                    rw [bc_set, bc_congr (inn_step name.data.toList x (rowK name.data.toList xs k) j (by rw [rowN, if_pos HR.out, HV1.out]; rfl))] at hJ9
                    exact ⟨⟨j + 1, by go_num, by omega, hJ9⟩, by simp [intOf]; omega⟩
                  | false =>
                    have HV1 := Lib.hid hv1; clear hv1
                    cases hv2 : rowN name.data.toList x (rowK name.data.toList xs k) j with
                    | true =>
                      have HV2 := Lib.hid hv2; clear hv2
                      go_wp2_with (first
                        | (refine wl_load_any rfl 74 (.tmp 9) rfl ⟨wo.heap.size, 0, none⟩ rfl (partC x) _ (box_at (hJ.at_ 2 rfl)) Tryd.underlying74 rfl (by kernel_rfl) ?_)
                        | (go_at_call 48; refine (hrep _).mono ?_; clear hrep; rintro e v5 ⟨rfl, hb5⟩; have hJ5 := hJ.call hb5; have hca : v5.cell? ⟨g, j + 1, none⟩ = some (.bool false) := bc_cell (hJ5.at_ 3 rfl) (i := j + 1) (by omega) HV1.out; have hcn : v5.cell? ⟨w6.heap.size, j, none⟩ = some (.bool true) := bc_cell (hJ5.at_ 0 rfl) (i := j) (by omega) (inn_at HV2.out))
                        | (go_at_fn gf; refine (hF _ (hJ5.at_ 1 rfl : _ ∧ _).1 name[j]).mono ?_; rintro e v6 ⟨rfl, rfl⟩)
                        | (refine wl_set1 hJ5 0 rfl 4 (.tmp 96) (.tmp 95) rfl w6.heap.size 4 _ (j + 1) (.bool (fitB x name[j])) rfl rfl rfl (by rw [bc_len]; omega) (by kernel_rfl) rfl (by simp [Apart, Res.apart, Low.els] <;> omega) ?_; intro w9 hJ9 hs9; simp only [List.set_cons_zero] at hJ9))
                      rw [bc_set, bc_congr (inn_step name.data.toList x (rowK name.data.toList xs k) j (by rw [rowN, if_pos HR.out, HV1.out, HV2.out, HB.out]; rfl))] at hJ9
                      exact ⟨⟨j + 1, by go_num, by omega, hJ9⟩, by simp [intOf]; omega⟩
                    | false =>
                      have HV2 := Lib.hid hv2; clear hv2
                      go_wp2_with (first
                        | (refine wl_load_any rfl 74 (.tmp 9) rfl ⟨wo.heap.size, 0, none⟩ rfl (partC x) _ (box_at (hJ.at_ 2 rfl)) Tryd.underlying74 rfl (by kernel_rfl) ?_)
                        | (go_at_call 48; refine (hrep _).mono ?_; clear hrep; rintro e v5 ⟨rfl, hb5⟩; have hJ5 := hJ.call hb5; have hca : v5.cell? ⟨g, j + 1, none⟩ = some (.bool false) := bc_cell (hJ5.at_ 3 rfl) (i := j + 1) (by omega) HV1.out; have hcn : v5.cell? ⟨w6.heap.size, j, none⟩ = some (.bool false) := bc_cell (hJ5.at_ 0 rfl) (i := j) (by omega) (inn_at HV2.out))
                        | (refine wl_set1 hJ5 0 rfl 4 (.tmp 96) (.tmp 95) rfl w6.heap.size 4 _ (j + 1) (.bool false) rfl rfl rfl (by rw [bc_len]; omega) (by kernel_rfl) rfl (by simp [Apart, Res.apart, Low.els] <;> omega) ?_; intro w9 hJ9 hs9; simp only [List.set_cons_zero] at hJ9))
                      rw [bc_set, bc_congr (inn_step name.data.toList x (rowK name.data.toList xs k) j (by rw [rowN, if_pos HR.out, HV1.out, HV2.out]; rfl))] at hJ9
                      exact ⟨⟨j + 1, by go_num, by omega, hJ9⟩, by simp [intOf]; omega⟩
                | false =>
                  rw [hr] at hrep
                  have HR : Hid (¬ repB x = true) := Lib.hid (by rw [hr]; decide)
                  clear hr
                  cases hv1 : rowK name.data.toList xs k j with
                  | true =>
                    have HV1 := Lib.hid hv1; clear hv1
                    go_wp2_with (first
                      | (refine wl_load_any rfl 74 (.tmp 9) rfl ⟨wo.heap.size, 0, none⟩ rfl (partC x) _ (box_at (hJ.at_ 2 rfl)) Tryd.underlying74 rfl (by kernel_rfl) ?_)
                      | (go_at_call 48; refine (hrep _).mono ?_; clear hrep; rintro e v5 ⟨rfl, hb5⟩; have hJ5 := hJ.call hb5; have hca : v5.cell? ⟨g, j, none⟩ = some (.bool true) := bc_cell (hJ5.at_ 3 rfl) (i := j) (by omega) HV1.out)
                      | (go_at_fn gf; refine (hF _ (hJ5.at_ 1 rfl : _ ∧ _).1 name[j]).mono ?_; rintro e v6 ⟨rfl, rfl⟩)
                      | (refine wl_set1 hJ5 0 rfl 4 (.tmp 71) (.tmp 70) rfl w6.heap.size 4 _ (j + 1) (.bool (fitB x name[j])) rfl rfl rfl (by rw [bc_len]; omega) (by kernel_rfl) rfl (by simp [Apart, Res.apart, Low.els] <;> omega) ?_; intro w9 hJ9 hs9; simp only [List.set_cons_zero] at hJ9))
                    rw [bc_set, bc_congr (inn_step name.data.toList x (rowK name.data.toList xs k) j (by rw [rowN, if_neg HR.out, HV1.out, HB.out]; rfl))] at hJ9
                    exact ⟨⟨j + 1, by go_num, by omega, hJ9⟩, by simp [intOf]; omega⟩
                  | false =>
                    have HV1 := Lib.hid hv1; clear hv1
                    go_wp2_with (first
                      | (refine wl_load_any rfl 74 (.tmp 9) rfl ⟨wo.heap.size, 0, none⟩ rfl (partC x) _ (box_at (hJ.at_ 2 rfl)) Tryd.underlying74 rfl (by kernel_rfl) ?_)
                      | (go_at_call 48; refine (hrep _).mono ?_; clear hrep; rintro e v5 ⟨rfl, hb5⟩; have hJ5 := hJ.call hb5; have hca : v5.cell? ⟨g, j, none⟩ = some (.bool false) := bc_cell (hJ5.at_ 3 rfl) (i := j) (by omega) HV1.out)
                      | (refine wl_set1 hJ5 0 rfl 4 (.tmp 71) (.tmp 70) rfl w6.heap.size 4 _ (j + 1) (.bool false) rfl rfl rfl (by rw [bc_len]; omega) (by kernel_rfl) rfl (by simp [Apart, Res.apart, Low.els] <;> omega) ?_; intro w9 hJ9 hs9; simp only [List.set_cons_zero] at hJ9))
                    rw [bc_set, bc_congr (inn_step name.data.toList x (rowK name.data.toList xs k) j (by rw [rowN, if_neg HR.out, HV1.out]; rfl))] at hJ9
                    exact ⟨⟨j + 1, by go_num, by omega, hJ9⟩, by simp [intOf]; omega⟩
              · have e0 : decide ((j : Int) < (name.size : Int)) = false := by simp; omega
                have HE : Hid (bc (name.size + 1) (inn name.data.toList x (rowK name.data.toList xs k) j) = bc (name.size + 1) (rowK name.data.toList xs (k + 1))) := Lib.hid (by rw [HM.out]; exact bc_congr (fun i hi => if_pos (by omega)))
                have wk : IntKind.i64.wrap ((k : Int) + 1) = ((k + 1 : Nat) : Int) := by rw [IntWalk.i64_in _ (by omega)]; omega
                go_wp2_with fail
                refine ⟨⟨k + 1, w6.heap.size, by go_num, rfl, by omega, ?_⟩, by simp [intOf]; omega⟩
                rw [← HE.out]
                exact ⟨hJ.at_ 0 rfl, hJ.at_ 4 rfl, hJ.at_ 5 rfl, trivial⟩
          | true =>
            have HF0 := Lib.hid hf0
            clear hf0
            go_wp2_with (first
              | (refine wl_load_any rfl 74 (.tmp 35) rfl (ad.add (k * 2)) rfl (partC x) _ HC.out Tryd.underlying74 rfl (by kernel_rfl) ?_)
              | (refine wl_store_at (hI.new (l := [.int .i64 0, .int .u8 0]) _ 74 rfl rfl) 0 rfl 74 (.tmp 9) (.tmp 36) rfl wr.heap.size _ _ (partC x) rfl rfl rfl rfl (by kernel_rfl) (partC_one x) (by simp [Apart, Res.apart, Low.els] <;> omega) ?_; intro W2 hW2 hs2; simp only [List.set_cons_zero] at hW2)
              | (refine wl_load_any rfl 74 (.tmp 9) rfl ⟨wr.heap.size, 0, none⟩ rfl (partC x) _ (box_at (hW2.at_ 0 rfl)) Tryd.underlying74 rfl (by kernel_rfl) ?_)
              | (go_at_call 47; refine (class_any x W2 hx3.out).mono ?_; rintro e w6 ⟨gf, lb, rfl, eg0, hF, hb6⟩; have eg := fn_ok eg0; clear eg0; have hI6 := hW2.call hb6; have hI6' := hI6.kept_here; have hl1 : wr.heap.size < w6.heap.size := Cells.lt (hI6.at_ 0 rfl); have hl2 : g < w6.heap.size := Cells.lt (hI6.at_ 1 rfl); have hl3 : w1.heap.size ≤ w6.heap.size := (hI6.at_ 2 rfl : _ ∧ _).2; have hl4 : w.heap.size ≤ w6.heap.size := (hI6.at_ 3 rfl : _ ∧ _).2)
              | (refine wl_mk el_bools hI6' rfl (.tmp 41) (.tmp 41) rfl (name.size + 1) (name.size + 1) rfl rfl (Nat.le_refl _) (by omega) ?_; intro w7 hI7 hs7; rw [bc_made] at hI7; have hc0 : w7.cell? ⟨g, 0, none⟩ = some (.bool true) := bc_cell (hI7.at_ 3 rfl) (i := 0) (by omega) HF0.out; obtain ⟨hb0, hb1⟩ := part_cells (hI7.at_ 2 rfl); have hb2 : w7.cell? ⟨wr.heap.size, 0 + 1, none⟩ = some (.int .u8 (x.2.toNat : Int)) := hb1)
              | (go_at_call 48; refine (repeats_any x w7 hx3.out).mono ?_; rintro e w8 ⟨rfl, hb8⟩; have hI8 := hI7.call hb8)
              | (refine wl_set1 hI8 0 rfl 4 (.tmp 51) (.tmp 50) rfl w6.heap.size 4 _ 0 (.bool (repB x)) rfl rfl rfl (by rw [bc_len]; omega) (by kernel_rfl) rfl (by simp [Apart, Res.apart, Low.els] <;> omega) ?_; intro w9 hI9 hs9; simp only [List.set_cons_zero] at hI9))
            obtain ⟨wo, rfl⟩ : ∃ wo : World, wo = wr := ⟨wr, rfl⟩
            go_loopw [54] (fun i wq => ∃ j : Nat, i = .int .i64 j ∧ j ≤ name.size ∧ All wq [.cells w6.heap.size 4 (bc (name.size + 1) (inn name.data.toList x (rowK name.data.toList xs k) j)), .kept w6 w6.heap.size, .cells wo.heap.size 74 (partC x), .cells g 4 (bc (name.size + 1) (rowK name.data.toList xs k)), .low (.els w1.heap.size 2 (some ad) xs.length (xs.map partC)), .kept w w.heap.size]) (fun i _ => name.size - (intOf i).toNat)
            case atStart =>
              rw [bc_set, bc_congr (inn_zero name.data.toList x (rowK name.data.toList xs k) (by rw [HF0.out]; rfl))] at hI9
              exact ⟨0, rfl, Nat.zero_le _, hI9⟩
            case round =>
              obtain ⟨j, rfl, hj, hJ⟩ := hrel
              by_cases hjl : j < name.size
              · have HB : Hid (name.data.toList.getD j 0 = name[j]) := Lib.hid (by rw [List.getD_eq_getElem?_getD, ba_at name hjl]; rfl)
                have e0 : decide ((j : Int) < (name.size : Int)) = true := by simp; omega
                have e1 : IntKind.i64.wrap ((j : Int) + 1) = ((j + 1 : Nat) : Int) := by rw [IntWalk.i64_in _ (by omega)]; omega
                have e2 : (0 : Int) ≤ (j : Int) := by omega
                have e3 : (j : Int) < (name.size : Int) := by omega
                have e4 : (j : Int) < ((name.size + 1 : Nat) : Int) := by omega
                have e5 : ((j + 1 : Nat) : Int) < ((name.size + 1 : Nat) : Int) := by omega
                have e6 : (0 : Int) ≤ ((j + 1 : Nat) : Int) := by omega
                have e7 : ((j + 1 : Nat) : Int).toNat = j + 1 := by omega
                have e8 : (j : Int).toNat = j := by omega
                have hrep := fun W => repeats_any x W hx3.out
                cases hr : repB x with
                | true =>
                  rw [hr] at hrep
                  have HR := Lib.hid hr
                  clear hr
                  cases hv1 : rowK name.data.toList xs k (j + 1) with
                  | true =>
                    have HV1 := Lib.hid hv1; clear hv1
                    go_wp2_with (first
                      | (refine wl_load_any rfl 74 (.tmp 9) rfl ⟨wo.heap.size, 0, none⟩ rfl (partC x) _ (box_at (hJ.at_ 2 rfl)) Tryd.underlying74 rfl (by kernel_rfl) ?_)
                      | (go_at_call 48; refine (hrep _).mono ?_; clear hrep; rintro e v5 ⟨rfl, hb5⟩; have hJ5 := hJ.call hb5; have hca : v5.cell? ⟨g, j + 1, none⟩ = some (.bool true) := bc_cell (hJ5.at_ 3 rfl) (i := j + 1) (by omega) HV1.out)
                      | (refine wl_set1 hJ5 0 rfl 4 (.tmp 96) (.tmp 95) rfl w6.heap.size 4 _ (j + 1) (.bool true) rfl rfl rfl (by rw [bc_len]; omega) (by kernel_rfl) rfl (by simp [Apart, Res.apart, Low.els] <;> omega) ?_; intro w9 hJ9 hs9; simp only [List.set_cons_zero] at hJ9))
                    rw [bc_set, bc_congr (inn_step name.data.toList x (rowK name.data.toList xs k) j (by rw [rowN, if_pos HR.out, HV1.out]; rfl))] at hJ9
                    exact ⟨⟨j + 1, by go_num, by omega, hJ9⟩, by simp [intOf]; omega⟩
                  | false =>
                    have HV1 := Lib.hid hv1; clear hv1
                    cases hv2 : rowN name.data.toList x (rowK name.data.toList xs k) j with
                    | true =>
                      have HV2 := Lib.hid hv2; clear hv2
                      go_wp2_with (first
                        | (refine wl_load_any rfl 74 (.tmp 9) rfl ⟨wo.heap.size, 0, none⟩ rfl (partC x) _ (box_at (hJ.at_ 2 rfl)) Tryd.underlying74 rfl (by kernel_rfl) ?_)
                        | (go_at_call 48; refine (hrep _).mono ?_; clear hrep; rintro e v5 ⟨rfl, hb5⟩; have hJ5 := hJ.call hb5; have hca : v5.cell? ⟨g, j + 1, none⟩ = some (.bool false) := bc_cell (hJ5.at_ 3 rfl) (i := j + 1) (by omega) HV1.out; have hcn : v5.cell? ⟨w6.heap.size, j, none⟩ = some (.bool true) := bc_cell (hJ5.at_ 0 rfl) (i := j) (by omega) (inn_at HV2.out))
                        | (go_at_fn gf; refine (hF _ (hJ5.at_ 1 rfl : _ ∧ _).1 name[j]).mono ?_; rintro e v6 ⟨rfl, rfl⟩)
                        | (refine wl_set1 hJ5 0 rfl 4 (.tmp 96) (.tmp 95) rfl w6.heap.size 4 _ (j + 1) (.bool (fitB x name[j])) rfl rfl rfl (by rw [bc_len]; omega) (by kernel_rfl) rfl (by simp [Apart, Res.apart, Low.els] <;> omega) ?_; intro w9 hJ9 hs9; simp only [List.set_cons_zero] at hJ9))
                      rw [bc_set, bc_congr (inn_step name.data.toList x (rowK name.data.toList xs k) j (by rw [rowN, if_pos HR.out, HV1.out, HV2.out, HB.out]; rfl))] at hJ9
                      exact ⟨⟨j + 1, by go_num, by omega, hJ9⟩, by simp [intOf]; omega⟩
                    | false =>
                      have HV2 := Lib.hid hv2; clear hv2
                      go_wp2_with (first
                        | (refine wl_load_any rfl 74 (.tmp 9) rfl ⟨wo.heap.size, 0, none⟩ rfl (partC x) _ (box_at (hJ.at_ 2 rfl)) Tryd.underlying74 rfl (by kernel_rfl) ?_)
                        | (go_at_call 48; refine (hrep _).mono ?_; clear hrep; rintro e v5 ⟨rfl, hb5⟩; have hJ5 := hJ.call hb5; have hca : v5.cell? ⟨g, j + 1, none⟩ = some (.bool false) := bc_cell (hJ5.at_ 3 rfl) (i := j + 1) (by omega) HV1.out; have hcn : v5.cell? ⟨w6.heap.size, j, none⟩ = some (.bool false) := bc_cell (hJ5.at_ 0 rfl) (i := j) (by omega) (inn_at HV2.out))
                        | (refine wl_set1 hJ5 0 rfl 4 (.tmp 96) (.tmp 95) rfl w6.heap.size 4 _ (j + 1) (.bool false) rfl rfl rfl (by rw [bc_len]; omega) (by kernel_rfl) rfl (by simp [Apart, Res.apart, Low.els] <;> omega) ?_; intro w9 hJ9 hs9; simp only [List.set_cons_zero] at hJ9))
                      rw [bc_set, bc_congr (inn_step name.data.toList x (rowK name.data.toList xs k) j (by rw [rowN, if_pos HR.out, HV1.out, HV2.out]; rfl))] at hJ9
                      exact ⟨⟨j + 1, by go_num, by omega, hJ9⟩, by simp [intOf]; omega⟩
                | false =>
                  rw [hr] at hrep
                  have HR : Hid (¬ repB x = true) := Lib.hid (by rw [hr]; decide)
                  clear hr
                  cases hv1 : rowK name.data.toList xs k j with
                  | true =>
                    have HV1 := Lib.hid hv1; clear hv1
                    go_wp2_with (first
                      | (refine wl_load_any rfl 74 (.tmp 9) rfl ⟨wo.heap.size, 0, none⟩ rfl (partC x) _ (box_at (hJ.at_ 2 rfl)) Tryd.underlying74 rfl (by kernel_rfl) ?_)
                      | (go_at_call 48; refine (hrep _).mono ?_; clear hrep; rintro e v5 ⟨rfl, hb5⟩; have hJ5 := hJ.call hb5; have hca : v5.cell? ⟨g, j, none⟩ = some (.bool true) := bc_cell (hJ5.at_ 3 rfl) (i := j) (by omega) HV1.out)
                      | (go_at_fn gf; refine (hF _ (hJ5.at_ 1 rfl : _ ∧ _).1 name[j]).mono ?_; rintro e v6 ⟨rfl, rfl⟩)
                      | (refine wl_set1 hJ5 0 rfl 4 (.tmp 71) (.tmp 70) rfl w6.heap.size 4 _ (j + 1) (.bool (fitB x name[j])) rfl rfl rfl (by rw [bc_len]; omega) (by kernel_rfl) rfl (by simp [Apart, Res.apart, Low.els] <;> omega) ?_; intro w9 hJ9 hs9; simp only [List.set_cons_zero] at hJ9))
                    rw [bc_set, bc_congr (inn_step name.data.toList x (rowK name.data.toList xs k) j (by rw [rowN, if_neg HR.out, HV1.out, HB.out]; rfl))] at hJ9
                    exact ⟨⟨j + 1, by go_num, by omega, hJ9⟩, by simp [intOf]; omega⟩
                  | false =>
                    have HV1 := Lib.hid hv1; clear hv1
                    go_wp2_with (first
                      | (refine wl_load_any rfl 74 (.tmp 9) rfl ⟨wo.heap.size, 0, none⟩ rfl (partC x) _ (box_at (hJ.at_ 2 rfl)) Tryd.underlying74 rfl (by kernel_rfl) ?_)
                      | (go_at_call 48; refine (hrep _).mono ?_; clear hrep; rintro e v5 ⟨rfl, hb5⟩; have hJ5 := hJ.call hb5; have hca : v5.cell? ⟨g, j, none⟩ = some (.bool false) := bc_cell (hJ5.at_ 3 rfl) (i := j) (by omega) HV1.out)
                      | (refine wl_set1 hJ5 0 rfl 4 (.tmp 71) (.tmp 70) rfl w6.heap.size 4 _ (j + 1) (.bool false) rfl rfl rfl (by rw [bc_len]; omega) (by kernel_rfl) rfl (by simp [Apart, Res.apart, Low.els] <;> omega) ?_; intro w9 hJ9 hs9; simp only [List.set_cons_zero] at hJ9))
                    rw [bc_set, bc_congr (inn_step name.data.toList x (rowK name.data.toList xs k) j (by rw [rowN, if_neg HR.out, HV1.out]; rfl))] at hJ9
                    exact ⟨⟨j + 1, by go_num, by omega, hJ9⟩, by simp [intOf]; omega⟩
              · have e0 : decide ((j : Int) < (name.size : Int)) = false := by simp; omega
                have HE : Hid (bc (name.size + 1) (inn name.data.toList x (rowK name.data.toList xs k) j) = bc (name.size + 1) (rowK name.data.toList xs (k + 1))) := Lib.hid (by rw [HM.out]; exact bc_congr (fun i hi => if_pos (by omega)))
                have wk : IntKind.i64.wrap ((k : Int) + 1) = ((k + 1 : Nat) : Int) := by rw [IntWalk.i64_in _ (by omega)]; omega
                go_wp2_with fail
                refine ⟨⟨k + 1, w6.heap.size, by go_num, rfl, by omega, ?_⟩, by simp [intOf]; omega⟩
                rw [← HE.out]
                exact ⟨hJ.at_ 0 rfl, hJ.at_ 4 rfl, hJ.at_ 5 rfl, trivial⟩
        · have d0 : decide ((k : Int) < (xs.length : Int)) = false := by simp; omega
          have hg : Cells wr g 4 (bc (name.size + 1) (rowK name.data.toList xs k)) := hI.at_ 0 rfl
          have hc := hg.cell (i := name.size) (by rw [bc_len]; omega)
          have hv : Hid (rowK name.data.toList xs k name.size = matchB name.data.toList xs) := Lib.hid (by
            have : k = xs.length := by omega
            subst this
            rw [rowK_all]; unfold matchB; rw [Array.length_toList]; rfl)
          have hc1 : wr.cell? ⟨g, name.size, none⟩ = some (.bool (rowK name.data.toList xs k name.size)) := by
            rw [hg.cell (by rw [bc_len]; omega)]
            have := bc_at (n := name.size + 1) (rowK name.data.toList xs k) (i := name.size) (by omega)
            rw [List.getElem?_eq_getElem (by rw [bc_len]; omega)] at this
            exact this
          clear hc
          have wn4 : (name.size : Int) < ((name.size + 1 : Nat) : Int) := by omega
          have wn5 : (0 : Int) ≤ (name.size : Int) := by omega
          go_wp2_with fail
          go_ret
          rw [HF.out, ← hv.out]
          exact ⟨rfl, (hI.at_ 2 rfl : _ ∧ _).1⟩
end Go.Proofs.YtipepcjiogifaaaDoor
