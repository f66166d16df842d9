/- All levels of a tree. -/
import Derived.Test.YtlnbeglelhdjfaaKey10
set_option linter.unusedSimpArgs false
set_option linter.unusedVariables false
namespace Go.Adm
open Go Go.RowKit
def lvl (level : Int) (l : List (List UInt8)) : Nat → List (List UInt8)
  | 0 => l
  | k + 1 => upS (level + k) (lvl level l k)
theorem lvl_shift (level : Int) (l : List (List UInt8)) : ∀ k, lvl level l (k + 1) = lvl (level + 1) (upS level l) k
  | 0 => by simp [lvl]
  | k + 1 => by
    rw [lvl, lvl_shift level l k, lvl]
    congr 1
    omega
theorem lvl_len (level : Int) (l : List (List UInt8)) (j : Nat) (h : l.length = 2 ^ j) : ∀ k, k ≤ j → (lvl level l k).length = 2 ^ (j - k)
  | 0, _ => by simpa [lvl] using h
  | k + 1, hk => by
    rw [lvl, upS_len, lvl_len level l j h k (by omega), show j - k = (j - (k + 1)) + 1 from by omega, Nat.pow_succ]
    omega
theorem lvl_each (level : Int) (l : List (List UInt8)) (h : ∀ x ∈ l, x.length = 16) : ∀ k, ∀ x ∈ lvl level l k, x.length = 16
  | 0 => h
  | _ + 1 => upS_each _ _
def lvls (level : Int) (l : List (List UInt8)) (j : Nat) : List (List (List UInt8)) := (List.range (j + 1)).map (lvl level l)
theorem lvls_succ (level : Int) (l : List (List UInt8)) (j : Nat) : lvls level l (j + 1) = l :: lvls (level + 1) (upS level l) j := by
  unfold lvls
  rw [List.range_succ_eq_map, List.map_cons, List.map_map]
  exact congrArg (l :: ·) (List.map_congr_left fun k _ => lvl_shift level l k)
theorem lvls_zero (level : Int) (l : List (List UInt8)) : lvls level l 0 = [l] := rfl
/-- a slice of halves, as a value -/
def LvlAt (w : World) (v : Value) (l : List (List UInt8)) : Prop := ∃ A c, v = .slice A l.length c ∧ Els w w.heap.size 16 A l.length (hvs l)
theorem LvlAt.apart {w w' : World} {row : Option Nat} {A : Option Addr} {n c : Nat} {l : List (List UInt8)} (h : LvlAt w (.slice A n c) l) (hg : w.grownBy w' row) (ha : ∀ ad, A = some ad → row ≠ some ad.block) : LvlAt w' (.slice A n c) l := by
  obtain ⟨A', c', e, h1⟩ := h
  injection e with e1 e2 e3
  subst e1 e2 e3
  refine ⟨_, _, rfl, ⟨⟨h1.rd.len, fun hn => ?_⟩, h1.each, h1.len⟩⟩
  obtain ⟨ad, e, hb, hc⟩ := h1.rd.at_ hn
  refine ⟨ad, e, Nat.lt_of_lt_of_le hb hg.size, fun j u hu => ?_⟩
  rw [World.cell?_of_block (w := w) (hg.block _ (by rw [add_block]; exact hb) (fun e' => ha ad e (by rw [add_block] at e'; exact e'.symm)))]
  exact hc j u hu
theorem All2.imp_mem {α β : Type} {R S : α → β → Prop} {xs : List α} {ys : List β} (h : All2 R xs ys) (hi : ∀ a ∈ xs, ∀ b, R a b → S a b) : All2 S xs ys := by
  induction h with
  | nil => exact .nil
  | cons hr _ ih => exact .cons (hi _ (by simp) _ hr) (ih fun a ha => hi a (by simp [ha]))
theorem one_of_lvl {w : World} {vs : List Value} {ls : List (List (List UInt8))} (h : All2 (LvlAt w) vs ls) : ∀ v ∈ vs, v.oneCell' = true := by
  induction h with
  | nil => intro v hv; simp at hv
  | cons hr _ ih =>
    intro v hv
    rcases List.mem_cons.1 hv with rfl | h
    · obtain ⟨A, c, rfl, _⟩ := hr; rfl
    · exact ih v h
structure AboveIs (level : Int) (l : List (List UInt8)) (j : Nat) (v0 : Value) (tid : TypeId) (w w' : World) (A : Option Addr) (c : Nat) (vs : List Value) : Prop where
  own : Go.Adm.Own w' w.heap.size tid 1 A (j + 1) c (v0 :: vs)
  lv : All2 (LvlAt w') (v0 :: vs) (lvls level l j)
  fresh : ∀ v ∈ vs, ∀ A n c, v = .slice A n c → ∀ ad, A = some ad → w.heap.size ≤ ad.block
  kept : Below w.heap.size w w'
def AbovePost (level : Int) (l : List (List UInt8)) (j : Nat) (v0 : Value) (tid : TypeId) (w : World) (e : Ending) (w' : World) : Prop := ∃ A c vs, e = .returned (.slice A (j + 1) c) ∧ AboveIs level l j v0 tid w w' A c vs
end Go.Adm
namespace Go.Proofs.Ytlnbeglelhdjfaa
open Go Go.RowKit Go.Adm

theorem els_hh : ElemOf Try.prog 56 28 (.slice none 0 0) 1 24 := ElemOf.mk' Try.underlying56 (by kernel_rfl) rfl (by decide) (by decide)
set_option maxRecDepth 100000 in
set_option maxHeartbeats 3200000 in
theorem above_any : ∀ (j : Nat) (level : Int) (w : World) (B : Nat) (A : Option Addr) (n c : Nat) (l : List (List UInt8)) (_ : Els w B 16 A n (hvs l)) (_ : ∀ x ∈ l, x.length = 16) (_ : B ≤ w.heap.size) (_ : n = 2 ^ j) (_ : n ≤ 1000000) (_ : 0 ≤ level) (_ : level + j ≤ 1000),
    Calls Try.prog 42 #[.int .i64 level, .slice A n c] w (AbovePost level l j (.slice A n c) 28 w)
  | 0, level, w, B, A, n, c, l, h, h16, hB, hn, _, h0, h1 => by
    have hln : l.length = n := by have := h.len; rwa [hvs_len] at this
    have hn1 : n < 2 := by omega
    have HN := Lib.hid hn
    have HH := Lib.hid h
    have HLN := Lib.hid hln
    clear h hn hln
    go_enter Try.func42, Try.ntmps42
    go_wp2
    go_ret
    refine ⟨_, 1, [], rfl, ?_, ?_, fun v hv => by simp at hv, ((Below.refl _ _).alloc (Nat.le_refl _) _).alloc (by simp) _⟩
    · have h2 := Go.Adm.Own.lit (base := w.heap.size) (e := 28) (size := 1) (w.alloc (.cells #[.int .i64 level] 3)) #[.slice A n c] 1 (by simp) (by decide) rfl
      have h3 : (w.alloc (.cells #[.int .i64 level] 3)).heap.size = w.heap.size + 1 := by simp
      rw [h3] at h2
      exact h2
    · rw [lvls_zero]
      have h4 := HH.out.keep (w' := (w.alloc (.cells #[.int .i64 level] 3)).alloc (.cells #[.slice A n c] 28)) (fun p hp => (World.cell?_alloc_lt _ _ p (by simp; omega)).trans (World.cell?_alloc_lt _ _ p (by omega)))
      exact .cons ⟨A, c, by rw [HLN.out], by rw [HLN.out]; exact h4.mono (by simp; omega)⟩ .nil
  | j + 1, level, w, B, A, n, c, l, h, h16, hB, hn, hnb, h0, h1 => by
    have hln : l.length = n := by have := h.len; rwa [hvs_len] at this
    have hp := Nat.one_le_two_pow (n := j)
    have hn2 : 2 ≤ n := by rw [hn, Nat.pow_succ]; omega
    have HNJ : Hid (n / 2 = 2 ^ j) := Lib.hid (by rw [hn, Nat.pow_succ]; omega)
    have HN := Lib.hid hn
    have H := Lib.hid h
    have HLN := Lib.hid hln
    have H16 := Lib.hid h16
    have hR : All w [.low (.els B 16 A n (hvs l)), .kept w w.heap.size] := ⟨⟨h, hB⟩, ⟨Below.refl _ _, Nat.le_refl _⟩, trivial⟩
    clear h hn hln h16 hp
    go_enter Try.func42, Try.ntmps42
    go_upto_region 4 with (fail)
    have hownL : Go.Adm.Own ((w.alloc (.cells #[.int .i64 level] 3)).alloc (.cells #[.slice A n c] 28)) (w.heap.size + 1) 28 1 (some ⟨w.heap.size + 1, 0, none⟩) 1 1 [.slice A n c] := by
      have h2 := Go.Adm.Own.lit (base := w.heap.size + 1) (e := 28) (size := 1) (w.alloc (.cells #[.int .i64 level] 3)) #[.slice A n c] 1 (by simp) (by decide) rfl
      have h3 : (w.alloc (.cells #[.int .i64 level] 3)).heap.size = w.heap.size + 1 := by simp
      rw [h3] at h2
      exact h2
    have hIa := (hR.new #[.int .i64 level] 3 rfl rfl).alloc (.cells #[.slice A n c] 28)
    refine wp_genP (Pr := fun W => All W [.own (w.heap.size + 1) 28 1 (some ⟨w.heap.size + 1, 0, none⟩) 1 1 [.slice A n c], .cells w.heap.size 3 [.int .i64 level], .low (.els B 16 A n (hvs l)), .kept w w.heap.size] ∧ W.heap.size = w.heap.size + 2) ⟨⟨hownL, hIa⟩, by simp⟩ ?_
    rintro W ⟨hW, hWs⟩
    have HWS := Lib.hid hWs
    have hWl : w.heap.size + 2 ≤ W.heap.size := by omega
    clear hownL hIa hWs hR
    have hcl : W.cell? ⟨w.heap.size, 0, none⟩ = some (.int .i64 level) := Cells.cell (hW.2.1 : Cells W w.heap.size _ _) (i := 0) (by simp)
    go_wp2_with fail
    refine (raise_any W B A n c level l (hW.2.2.1.1 : Els W B 16 A n (hvs l)) H16.out (by omega) hnb w.heap.size hcl (by omega)).mono ?_
    rintro e w5 ⟨A5, c5, rfl, hown5, hb5⟩
    have hI5 := hW.call hb5
    have hs5 := hb5.size
    have hcl5 : w5.cell? ⟨w.heap.size, 0, none⟩ = some (.int .i64 level) := Cells.cell (hI5.2.1 : Cells w5 w.heap.size _ _) (i := 0) (by simp)
    rw [HLN.out] at hown5 ⊢
    have hul : Hid ((upS level l).length = n / 2) := Lib.hid (by rw [upS_len, HLN.out])
    have hE5 : Els w5 w5.heap.size 16 A5 (n / 2) (hvs (upS level l)) := Els.of hown5 (hvs_each (upS_each level l)) (by rw [hvs_len, hul.out])
    have hblk5 : ∀ ad, A5 = some ad → W.heap.size ≤ ad.block := fun ad e => by subst e; exact (hown5.lt rfl).1
    have hn4 : n / 2 ≤ 1000000 := by omega
    generalize hn5 : n / 2 = n5 at *
    have HN5 := Lib.hid hn5
    clear hn5 hW hb5 hcl
    go_wp2_with fail
    refine (above_any j (level + 1) w5 w5.heap.size A5 n5 c5 (upS level l) hE5 (upS_each level l) (Nat.le_refl _) HNJ.out hn4 (by omega) (by omega)).mono ?_
    rintro e w6 ⟨A6, c6, vs6, rfl, hab⟩
    have hI6 := hI5.call hab.kept
    have hs6 := hab.kept.size
    have hnb2 : j + 1 ≤ 2000 := by omega
    clear hI5 hcl5
    go_wp2_with (at_builtin; refine wl_app6 _ els_hh rfl (.tmp 16) (.tmp 20) rfl (w.heap.size + 1) (some ⟨w.heap.size + 1, 0, none⟩) 1 1 _ rfl hI6.1 w6.heap.size A6 (j + 1) c6 _ rfl hab.own.rd (by intro u hu; rcases List.mem_cons.1 hu with rfl | h; exact rfl; exact one_of_lvl hab.lv _ (List.mem_cons_of_mem _ h)) (by omega) (by omega) ?_; intro A7 c7 w7 hown7 hg7 hob7)
    go_ret
    have hkw : Below w.heap.size w w6 := (hI6.at_ 3 rfl).1
    have hk7 : Below w.heap.size w w7 := hkw.grown hg7 (by omega) (fun g hg => by have := (hI6.1.lt hg).1; omega)
    have ho : (Value.slice (some ⟨w.heap.size + 1, 0, none⟩) 1 1).ownBlock = some (w.heap.size + 1) := rfl
    rw [ho] at hg7
    refine ⟨A7, c7, .slice A5 n5 c5 :: vs6, by rw [show j + 1 + 1 = 1 + (j + 1) from by omega]; rfl, ⟨?_, ?_, ?_, hk7⟩⟩
    · have := Go.Adm.Own.less (base' := w.heap.size) hown7 (by omega)
      rw [show j + 1 + 1 = 1 + (j + 1) from by omega]
      exact this
    · rw [lvls_succ]
      refine .cons ⟨A, c, by rw [HLN.out], by rw [HLN.out]; exact (H.out.keep (fun p hp => hk7.cell (by omega))).mono (by have := hk7.size; omega)⟩ ?_
      refine hab.lv.imp_mem fun v hv l' hl' => ?_
      obtain ⟨A', c', rfl, _⟩ := id hl'
      refine hl'.apart hg7 fun ad e h => ?_
      injection h with h
      rcases List.mem_cons.1 hv with h2 | h2
      · injection h2 with h3 _ _
        have := hblk5 ad (by rw [← h3]; exact e)
        omega
      · have := hab.fresh _ h2 _ _ _ rfl ad e
        omega
    · intro v hv A' n' c' e ad ea
      rcases List.mem_cons.1 hv with h2 | h2
      · rw [h2] at e
        injection e with e1 _ _
        have := hblk5 ad (by rw [e1]; exact ea)
        omega
      · have := hab.fresh _ h2 _ _ _ e ad ea
        omega
end Go.Proofs.Ytlnbeglelhdjfaa
