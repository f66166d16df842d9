/- A record that was made is valid and short: plain Lean. -/
import Derived.Test.YtjdinakdkdjocaaGreatDoorMade
import Derived.Test.YtjdinakdkdjocaaGreatDoorRecD
import Derived.Test.YtjdinakdkdjocaaGreatDoorRecT
set_option linter.unusedSimpArgs false
set_option linter.unusedVariables false
set_option maxRecDepth 100000
namespace Go.Proofs.YtjdinakdkdjocaaGreatDoor
open Go Go.RowKit Go.Adm Go.AdR
def nameK (s : ByteArray) : Bool := decide (1 ≤ s.size) && (decide (s.size ≤ 64) && (List.range s.size).all fun k => if h : k < s.size then okAt k s[k] else true)
theorem nameB_of {s : ByteArray} (h : nameK s = true) : nameB s = true := by
  unfold nameK at h
  simp only [Bool.and_eq_true, decide_eq_true_eq, List.all_eq_true, List.mem_range] at h
  refine nameB_yes ⟨h.1, h.2.1, fun k hk => ?_⟩
  have := h.2.2 k hk
  rwa [dif_pos hk] at this
theorem run_names : (runL.all nameK) = true := by decide +kernel
theorem step_names : (stepL.all nameK) = true := by decide +kernel
theorem scope_names : (scopeL.all fun s => (s.data.toList == []) || ((partsL s).all nameK && decide ((partsL s).length ≤ 4))) = true := by decide +kernel
theorem scope_good {s : ByteArray} (h : s ∈ scopeL) : scopeB s = true := by
  have h2 := List.all_eq_true.1 scope_names s h
  unfold scopeB
  rw [ByteArray.toList_eq]
  simp only [Bool.or_eq_true, Bool.and_eq_true, List.all_eq_true] at h2 ⊢
  rcases h2 with h2 | h2
  · exact .inl h2
  · exact .inr ⟨fun x hx => nameB_of (h2.1 x hx), h2.2⟩
theorem vars_good {v : ByteArray} (h : v ∈ valL) : varsB [⟨⟨#[99, 99]⟩, v⟩, ⟨⟨#[112, 97, 116, 104]⟩, ⟨#[120]⟩⟩] = true := by
  have h1 : nameB ⟨#[99, 99]⟩ = true := nameB_of (by decide +kernel)
  have h2 : nameB ⟨#[112, 97, 116, 104]⟩ = true := nameB_of (by decide +kernel)
  have hv : v.size ≤ 100 := small_of (.inr (.inr (.inr (.inr h))))
  unfold varsB
  rw [vAll_all]
  · rfl
  · intro i hi
    match i, hi with
    | 0, _ =>
      show (goodV _ && _) = true
      unfold goodV
      rw [h1]
      have : decide ((200 : Int) < (v.size : Int)) = false := by simp; omega
      simp [this]
    | 1, _ =>
      show (goodV _ && _) = true
      unfold goodV
      rw [h2]
      show ((true && !decide ((200 : Int) < ((⟨#[120]⟩ : ByteArray).size : Int))) && Go.AdR.blt ⟨#[99, 99]⟩ ⟨#[112, 97, 116, 104]⟩) = true
      decide +kernel
theorem made_rec {x : Rec} (h : MadeShape x) : recB x = true := by
  have h1 := nameB_of (List.all_eq_true.1 run_names _ h.run)
  have h2 := nameB_of (List.all_eq_true.1 step_names _ h.step)
  have h3 := scope_good h.scope
  have h4 : decide (x.t < 0) = false := by have := h.lo; simp; omega
  have h5 : decide (1099511627776 < x.t) = false := by have := h.hi; simp; omega
  have h6 : decide ((16 : Int) < (x.cmd.length : Int)) = false := by have := h.ncmd; simp; omega
  have h7 : x.cmd.any longB = false := by
    rw [List.any_eq_false]
    intro s hs
    have := small_of (.inr (.inr (.inr (.inl (h.cmd s hs)))))
    simp [longB]
    omega
  have h8 : varsB x.env = true := by
    rcases h.env with e | ⟨v, hv, e⟩
    · rw [e]; rfl
    · rw [e]; exact vars_good hv
  have h9 := h.mat.valid (by have := h.nmat; omega)
  have h10 := h.prod.valid (by have := h.nprod; omega)
  unfold recB
  rw [h1, h2, h3, h4, h5, h6, h7, h8, h9, h10]
  rfl
/-- a line of few short words -/
def fewB (l : List ByteArray) : Prop := 0 < l.length ∧ l.length ≤ 5 ∧ ∀ w ∈ l, w.size ≤ 200
theorem few_zero {l : List ByteArray} (h : fewB l) : lineE l = 0 := by
  obtain ⟨h1, h2, h3⟩ := h
  unfold lineE
  rw [if_neg (by omega), if_neg (by omega), if_neg]
  intro h4
  rw [List.any_eq_true] at h4
  obtain ⟨w, hw, h5⟩ := h4
  have := h3 w hw
  simp at h5
  omega
theorem few_len {l : List ByteArray} (hw : ∀ w ∈ l, w.size ≤ 200) : lenW l ≤ 602 * l.length := by
  induction l with
  | nil => simp [lenW]
  | cons w r ih =>
    have h1 := ih fun x hx => hw x (by simp [hx])
    have h2 := hw w (by simp)
    have h3 := encW_len (bs w)
    have h4 := wordS_len (bs w)
    rw [bs_len] at h3
    simp only [lenW, List.map_cons, List.sum_cons, List.length_cons] at *
    omega
theorem few_doc {ls : List (List ByteArray)} (h : ∀ l ∈ ls, fewB l) : (encD ls).length ≤ 3100 * ls.length := by
  induction ls with
  | nil => simp [encD]
  | cons l r ih =>
    obtain ⟨h1, h2, h3⟩ := h l (by simp)
    have h4 := ih fun x hx => h x (by simp [hx])
    have h5 := lineS_len l (by intro he; rw [he] at h1; simp at h1)
    have h6 := few_len h3
    simp only [encD, List.flatMap_cons, List.length_append, List.length_cons] at *
    omega
theorem few_docE {ls : List (List ByteArray)} (h : ∀ l ∈ ls, fewB l) (hl : ls.length ≤ 80) : docE ls = 0 := by
  have h1 : linesE ls = 0 := linesE_zero.2 fun l hl => few_zero (h l hl)
  have h2 := few_doc h
  unfold docE
  rw [if_neg (by omega), if_neg (by simp [h1]), if_neg (by omega)]
theorem encD_pos {ls : List (List ByteArray)} (h : ls ≠ []) : 0 < (encD ls).length := by
  cases ls with
  | nil => exact absurd rfl h
  | cons l r => simp [encD, lineS]; omega
theorem path_size {p : ByteArray} (h : pathB p = true) : p.size ≤ 200 := by
  unfold pathB at h
  simp only [Bool.and_eq_true, Bool.not_eq_true', decide_eq_false_iff_not] at h
  omega
theorem ent_few {tag : ByteArray} (ht : tag.size ≤ 200) {e : E} (he : E32 e) (hp : pathB e.p = true) : fewB (entLn tag e) := by
  refine ⟨by simp [entLn], by simp [entLn], fun w hw => ?_⟩
  simp only [entLn, List.mem_cons, List.mem_nil_iff, or_false] at hw
  rcases hw with rfl | rfl | rfl
  · exact ht
  · exact path_size hp
  · rw [fmt_size he.1]; decide
theorem made_few {x : Rec} (h : MadeShape x) : ∀ l ∈ recLs x, fewB l := by
  intro l hl
  unfold recLs at hl
  simp only [List.mem_append, List.mem_cons, List.mem_nil_iff, or_false] at hl
  have r1 := small_of (.inl h.run)
  have r2 := small_of (.inr (.inl h.scope))
  have r3 := small_of (.inr (.inr (.inl h.step)))
  rcases hl with (((rfl | rfl) | hl) | hl) | hl
  · refine ⟨by simp, by simp, fun w hw => ?_⟩
    simp only [List.mem_cons, List.mem_nil_iff, or_false] at hw
    rcases hw with rfl | rfl | rfl | rfl | rfl
    · decide
    · omega
    · omega
    · omega
    · have := Lib.itoa_length_le x.t (by have := h.lo; omega) (by have := h.hi; omega)
      show (Lib.itoa x.t).toArray.size ≤ 200
      rw [List.size_toArray]; omega
  · refine ⟨by simp, by have := h.ncmd; simp; omega, fun w hw => ?_⟩
    rcases List.mem_cons.1 hw with rfl | hw
    · decide
    · have := small_of (.inr (.inr (.inr (.inl (h.cmd w hw)))))
      omega
  · obtain ⟨v, hv, rfl⟩ := List.mem_map.1 hl
    rcases h.env with e | ⟨u, hu, e⟩
    · rw [e] at hv; cases hv
    · rw [e] at hv
      have hu2 := small_of (.inr (.inr (.inr (.inr hu))))
      simp only [List.mem_cons, List.mem_nil_iff, or_false] at hv
      rcases hv with rfl | rfl
      · refine ⟨by simp [envLn], by simp [envLn], fun w hw => ?_⟩
        simp only [envLn, List.mem_cons, List.mem_nil_iff, or_false] at hw
        rcases hw with rfl | rfl | rfl
        · decide
        · decide
        · omega
      · refine ⟨by simp [envLn], by simp [envLn], fun w hw => ?_⟩
        simp only [envLn, List.mem_cons, List.mem_nil_iff, or_false] at hw
        rcases hw with rfl | rfl | rfl <;> decide
  · obtain ⟨e, he, rfl⟩ := List.mem_map.1 hl
    exact ent_few (by decide) (h.mat.each e he) (h.mat.path e he)
  · obtain ⟨e, he, rfl⟩ := List.mem_map.1 hl
    exact ent_few (by decide) (h.prod.each e he) (h.prod.path e he)
theorem made_doc {x : Rec} (h : MadeShape x) : docE (recLs x) = 0 := by
  refine few_docE (made_few h) ?_
  have h1 := h.nmat
  have h2 := h.nprod
  have h3 : x.env.length ≤ 2 := by
    rcases h.env with e | ⟨v, hv, e⟩ <;> rw [e] <;> simp
  unfold recLs entLs
  simp only [List.length_append, List.length_cons, List.length_nil, List.length_map]
  omega
theorem made_pos {x : Rec} : 0 < (encD (recLs x)).length := encD_pos (by unfold recLs; simp)
end Go.Proofs.YtjdinakdkdjocaaGreatDoor
namespace Go.Proofs.YtjdinakdkdjocaaGreatDoor
open Go Go.RowKit Go.Adm Go.AdR
theorem made_short {x : Rec} (h : MadeShape x) : (encD (recLs x)).length ≤ 262144 := Nat.le_of_not_lt (docE_zero (made_doc h)).2.2
end Go.Proofs.YtjdinakdkdjocaaGreatDoor
