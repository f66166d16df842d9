/- The stores that the laws fill. Merging of stores, in plain Lean. -/
import Derived.Test.YtkcmaembpfakdaaGreatDoorSto16
import Derived.Test.YtkcmaembpfakdaaGreatDoorFmtR
import Derived.Test.YtkcmaembpfakdaaGreatDoorNumF
import Derived.Test.YtkcmaembpfakdaaGreatDoorLkS
import Derived.Deep.Cut
import Derived.Deep.CutRange
import Derived.Deep.DeepCutAuto
set_option linter.unusedSimpArgs false
set_option linter.unusedVariables false
set_option maxRecDepth 100000
namespace Go.Adm
open Go Go.RowKit
def iz (z : Int) : Value := .int .i64 z
def IntsAt (w : World) (B : Nat) (v : Value) (L : List Int) : Prop := ∃ A c, v = .slice A L.length c ∧ Rd w B 1 A L.length (L.map iz)
/-- a slice of slices of ints -/
structure IRows (w : World) (B : Nat) (A : Option Addr) (n : Nat) (rows : List (List Int)) : Prop where
  rows : ∃ vs, Rd w B 1 A n vs ∧ All2 (IntsAt w B) vs rows
theorem IRows.len {w : World} {B n : Nat} {A : Option Addr} {rows : List (List Int)} (h : IRows w B A n rows) : rows.length = n := by
  obtain ⟨vs, h1, h2⟩ := h.rows
  have := h1.len
  rw [← h2.len]; omega
theorem irow_at {w : World} {B n : Nat} {A : Option Addr} {rows : List (List Int)} (h : IRows w B A n rows) (hB : B ≤ w.heap.size) {k : Nat} (hk : k < rows.length) :
    ∃ ad R rc, A = some ad ∧ ∀ W, Below w.heap.size w W → W.cell? (ad.add k) = some (.slice R rows[k].length rc) ∧ Rd W B 1 R rows[k].length (rows[k].map iz) := by
  have hl := h.len
  obtain ⟨vs, h1, h2⟩ := h.rows
  obtain ⟨v, hv, R, rc, rfl, h3⟩ := h2.at_ hk
  obtain ⟨ad, u, rfl, hb, hu, hc⟩ := h1.cell (k := k) (by omega)
  rw [hu] at hv
  obtain rfl := Option.some.inj hv
  exact ⟨ad, R, rc, rfl, fun W hW => ⟨by rw [hW.cell (by rw [add_block]; omega)]; exact hc, h3.below hW hB⟩⟩
/-- the blocks of a store -/
def StoF (A : Option Addr) (l : List Bl) : Nat → Prop := fun b => (∃ ad, A = some ad ∧ ad.block = b) ∨ DatF l b
def StoI (A : Option Addr) (n : Nat) (l : List Bl) (w : World) : Prop := Blobs w w.heap.size A n l
theorem StoI.st (A : Option Addr) (n : Nat) (l : List Bl) : St 0 (StoF A l) (StoI A n l) := fun w w' hs hb h =>
  ⟨⟨(Rd.st (B0 := 0) (A := A) (F := StoF A l) fun ad e => Or.inr (Or.inl ⟨ad, e, rfl⟩)) w w' hs hb h.els.rd, h.els.each, h.els.len⟩, fun x hx =>
    ⟨(h.each x hx).d32, (Rd.st (B0 := 0) (A := x.A) (F := StoF A l) fun ad e => Or.inr (Or.inr ⟨x, hx, ad, e, rfl⟩)) w w' hs hb (h.each x hx).rd, (h.each x hx).nc, (h.each x hx).cm⟩, h.len⟩
/-- a store, and beside it the row of all digests -/
def Res.fil (base : Nat) (t : TypeId) (Aa : Option Addr) (na ca : Nat) (ds : List (List UInt8)) (A : Option Addr) (n : Nat) (l : List Bl) : Res := .nest base t 32 Aa na ca (dvs ds).flatten 0 (StoF A l) (StoI A n l)
theorem inv_nil : InvP [] [] := ⟨List.Pairwise.nil, Nat.le_refl _, (fun p hp => by cases hp), (fun c hc => by cases hc)⟩
/-- the document that is put -/
def docB (ss : List ByteArray) : List UInt8 := if docE [ss] = 0 then encD [ss] else []
theorem docB_len (ss : List ByteArray) : (docB ss).length ≤ 262144 := by
  unfold docB
  split
  · rename_i h
    rcases Nat.lt_or_ge 262144 (encD [ss]).length with h1 | h1
    · unfold docE at h
      rw [if_neg (by simp)] at h
      by_cases h2 : linesE [ss] ≠ 0
      · rw [if_pos h2] at h; exact absurd h h2
      · rw [if_neg h2, if_pos h1] at h; exact absurd h (by decide)
    · exact h1
  · exact Nat.zero_le _
theorem tmod_bd (z : Int) (i : Nat) (h : 0 < i) : -(i : Int) < z.tmod i ∧ z.tmod i < i := by
  refine ⟨?_, Int.tmod_lt_of_pos _ (by omega)⟩
  rcases Int.le_total 0 z with h1 | h1
  · have := Int.tmod_nonneg (i : Int) h1; omega
  · have h2 := Int.tmod_lt_of_pos (-z) (show (0 : Int) < (i : Int) by omega)
    rw [Int.neg_tmod] at h2; omega
theorem fil_apart {bL g base : Nat} {t : TypeId} {Aa A : Option Addr} {na ca n : Nat} {ds : List (List UInt8)} {l : List Bl} {w : World} (h1 : ∀ b, StoF A l b → b < bL) (h2 : ∀ b, (Value.slice Aa na ca).ownBlock = some b → b < bL) (hw : w.heap.size ≤ bL) (hg : bL ≤ g) :
    Apart (some g) [Res.fil base t Aa na ca ds A n l, .kept w w.heap.size] := by
  refine ⟨fun b e => ?_, fun b e => ?_, trivial⟩
  · injection e with e
    subst e
    exact ⟨Nat.zero_le _, Or.inr ⟨fun h => by have := h2 _ h; omega, fun h => by have := h1 _ h; omega⟩⟩
  · injection e with e
    subst e
    omega
theorem fil_digs {w : World} {base n na ca : Nat} {t : TypeId} {Aa A : Option Addr} {ds : List (List UInt8)} {l : List Bl} (h : (Res.fil base t Aa na ca ds A n l).ok w) (h32 : ∀ d ∈ ds, d.length = 32) (hl : ds.length = na) : Digs w w.heap.size Aa na ds := by
  refine ⟨Els.of (Nest.own h) (fun e he => ?_) (by rw [dvs_len]; exact hl), h32, hl⟩
  obtain ⟨x, hx, rfl⟩ := List.mem_map.1 he
  rw [List.length_map]; exact h32 x hx
theorem fil_blobs {w : World} {base n na ca : Nat} {t : TypeId} {Aa A : Option Addr} {ds : List (List UInt8)} {l : List Bl} (h : (Res.fil base t Aa na ca ds A n l).ok w) : Blobs w w.heap.size A n l := Nest.inn h
theorem line_of {w : World} {bL c7 : Nat} {t t2 : TypeId} {A7 : Option Addr} {ss : List ByteArray} (h : Own w bL t 1 A7 ss.length c7 (ss.map sv)) (hs : ∀ s ∈ ss, s.size ≤ 1000) :
    Lines (w.alloc (.cells #[.slice A7 ss.length c7] t2)) (w.heap.size + 1) (some ⟨w.heap.size, 0, none⟩) 1 [ss] := by
  refine ⟨rfl, by decide, [.slice A7 ss.length c7], Rd.lit w #[.slice A7 ss.length c7] t2 1 rfl, fun k hk => ?_⟩
  obtain rfl : k = 0 := by simp at hk; omega
  exact ⟨A7, c7, rfl, h.cap.1, h.cap.2, (h.rd.alloc (Nat.le_refl _) _).mono (Nat.le_succ _), fun s hs' => Nat.le_trans (hs s hs') (by decide)⟩
theorem enc_own {u8 : TypeId} {ss : List ByteArray} {w w' : World} {e : Ending} (h : EncPost u8 [ss] w e w') : ∃ A c, e = .returned (.tuple #[.slice A (docB ss).length c, .int .i64 (docE [ss])]) ∧ Below w.heap.size w w' ∧ Own w' w.heap.size u8 1 A (docB ss).length c ((docB ss).map bv) := by
  obtain ⟨A, n, c, rfl, hb, h1, h2⟩ := h
  by_cases h0 : docE [ss] = 0
  · have ho := h1 h0
    have hd : docB ss = encD [ss] := by unfold docB; rw [if_pos h0]
    rw [← hd] at ho
    have hn : n = (docB ss).length := by have := ho.1; simp at this; omega
    subst hn
    exact ⟨A, c, rfl, hb, ho⟩
  · obtain ⟨rfl, rfl, rfl⟩ := h2 h0
    have hd : docB ss = [] := by unfold docB; rw [if_neg h0]
    rw [hd]
    exact ⟨none, 0, rfl, hb, Own.nil _ _ _ _⟩
/-- the store turns, the row of digests stays -/
theorem fil_new {w : World} {base n n2 na ca bE : Nat} {t : TypeId} {Aa A A2 Ad : Option Addr} {ds : List (List UInt8)} {l l2 : List Bl} (h : (Res.fil base t Aa na ca ds A n l).ok w) (hb : Blobs w w.heap.size A2 n2 l2) (hn : 0 < n2)
    (hA : A2 = A ∨ ∀ ad, A2 = some ad → bE ≤ ad.block) (hl : ∀ x ∈ l2, x ∈ l ∨ x.A = Ad) (hAd : ∀ ad, Ad = some ad → bE ≤ ad.block ∧ ad.block < w.heap.size) (hE : base ≤ bE) (hr : ∀ b, (Value.slice Aa na ca).ownBlock = some b → b < bE) :
    (Res.fil base t Aa na ca ds A2 n2 l2).ok w := by
  have hh : Nest w base t 32 Aa na ca (dvs ds).flatten 0 (StoF A l) (StoI A n l) := h
  have key : ∀ b, StoF A2 l2 b → (StoF A l b ∨ bE ≤ b) ∧ b < w.heap.size := by
    rintro b (⟨ad, e, rfl⟩ | ⟨x, hx, ad, e, rfl⟩)
    · refine ⟨?_, ?_⟩
      · rcases hA with h1 | h1
        · exact Or.inl (Or.inl ⟨ad, by rw [← h1]; exact e, rfl⟩)
        · exact Or.inr (h1 ad e)
      · obtain ⟨ad', e', hb', _⟩ := hb.els.rd.at_ hn
        rw [e] at e'
        injection e' with e'
        subst e'
        exact hb'
    · rcases hl x hx with h1 | h1
      · exact ⟨Or.inl (Or.inr ⟨x, h1, ad, e, rfl⟩), (hh.fr _ (Or.inr ⟨x, h1, ad, e, rfl⟩)).2⟩
      · exact ⟨Or.inr (hAd ad (h1 ▸ e)).1, (hAd ad (h1 ▸ e)).2⟩
  refine Nest.of hh.own hb (StoI.st _ _ _) (fun b hb' => ⟨?_, (key b hb').2, fun e => ?_⟩)
  · rcases (key b hb').1 with h1 | h1
    · exact (hh.fr b h1).1
    · omega
  · rcases (key b hb').1 with h1 | h1
    · exact hh.ap b e h1
    · have := hr b e; omega
theorem nest_or {w : World} {base size n c B0 : Nat} {e : TypeId} {A : Option Addr} {xs : List Value} {F : Nat → Prop} {In : World → Prop} (h : Nest w base e size A n c xs B0 (fun b => F b ∨ False) (fun w => In w ∧ True)) : Nest w base e size A n c xs B0 F In := by
  have e1 : (fun b => F b ∨ False) = F := funext fun b => or_false _
  have e2 : (fun w => In w ∧ True) = In := funext fun w => and_true _
  rw [e1, e2] at h
  exact h
theorem linksW_mem (ws : List ByteArray) : ∀ e ∈ linksW ws, ∃ w ∈ ws, AdP.parseD w.data.toList = some e := by
  have h : ∀ (ws : List ByteArray) (out : List (List UInt8)), ∀ e ∈ ws.foldl addK out, e ∈ out ∨ ∃ w ∈ ws, AdP.parseD w.data.toList = some e := fun ws => by
    induction ws with
    | nil => intro out e he; exact .inl he
    | cons w ws ih =>
      intro out e he
      rcases ih (addK out w) e he with h1 | ⟨x, hx, h1⟩
      · unfold addK at h1
        split at h1
        · exact .inl h1
        · rename_i d hd
          split at h1
          · exact .inl h1
          · rcases List.mem_append.1 h1 with h2 | h2
            · exact .inl h2
            · rw [List.mem_singleton.1 h2]; exact .inr ⟨w, List.mem_cons_self, hd⟩
      · exact .inr ⟨x, List.mem_cons_of_mem _ hx, h1⟩
  intro e he
  exact (h ws [] e he).elim (fun h => by cases h) id
/-- a word that is no digest, or one of some digests -/
def WordIn (ds : List (List UInt8)) (s : ByteArray) : Prop := s.size ≠ 71 ∨ ∃ d ∈ ds, d.length = 32 ∧ s = ⟨(fmtL d).toArray⟩
theorem docB_links {ss : List ByteArray} {ds : List (List UInt8)} (h : ∀ s ∈ ss, WordIn ds s) : ∀ e ∈ linksB (docB ss), e ∈ ds := by
  intro e he
  unfold docB at he
  split at he
  · rename_i h0
    have h1 : ¬ 262144 < (encD [ss]).length := by
      have := docB_len ss
      unfold docB at this
      rw [if_pos h0] at this
      omega
    have h2 : linesE [ss] = 0 := by
      unfold docE at h0
      rw [if_neg (by simp)] at h0
      by_cases h2 : linesE [ss] ≠ 0
      · rw [if_pos h2] at h0; exact absurd h0 h2
      · exact Decidable.not_not.1 h2
    unfold linksB at he
    rw [decR_ok h1 (decO_doc h2) (by simp)] at he
    simp only [List.flatten_cons, List.flatten_nil, List.append_nil] at he
    obtain ⟨w, hw, hp⟩ := linksW_mem ss e he
    rcases h w hw with h3 | ⟨d, hd, h32, rfl⟩
    · rw [AdP.parseD_len (by rw [Array.length_toList]; exact h3)] at hp
      cases hp
    · rw [AdP.parseD_fmt d h32] at hp
      obtain rfl := Option.some.inj hp
      exact hd
  · unfold linksB at he
    rw [decR_ok (by decide) decO_nil (by decide)] at he
    simp [linksW] at he
/-- the links of contents are among some digests -/
def LkIn (cs ds : List (List UInt8)) : Prop := ∀ c ∈ cs, ∀ e ∈ linksB c, e ∈ ds
theorem LkIn.snoc {cs ds : List (List UInt8)} {b d : List UInt8} (h : LkIn cs ds) (hb : ∀ e ∈ linksB b, e ∈ ds) : LkIn (cs ++ [b]) (ds ++ [d]) := fun c hc e he => by
  rcases List.mem_append.1 hc with h1 | h1
  · exact List.mem_append.2 (.inl (h c h1 e he))
  · rw [List.mem_singleton.1 h1] at he
    exact List.mem_append.2 (.inl (hb e he))
/-- what filled leaves -/
def FilPost (w : World) (e : Ending) (w' : World) : Prop :=
  ∃ A n c l Aa na ca ds cs, e = .returned (.tuple #[.slice A n c, .slice Aa na ca]) ∧ Blobs w' w'.heap.size A n l ∧ Digs w' w'.heap.size Aa na ds ∧ n ≤ c ∧ c ≤ maxLen ∧ na ≤ ca ∧ ca ≤ maxLen ∧
    InvP cs (l.map pr) ∧ cs.length ≤ 12 ∧ (∀ c ∈ cs, c.length ≤ 262144) ∧ ds = cs.map shaS ∧ Below w.heap.size w w' ∧ LkIn cs ds
end Go.Adm
namespace Go.Proofs.YtkcmaembpfakdaaGreatDoor
open Go Go.RowKit Go.Adm
theorem el_str : ElemOf Tryz.prog 53 9 (.string ByteArray.empty) 1 16 := ElemOf.mk' Tryz.underlying53 (by kernel_rfl) rfl (by decide) (by decide)
theorem el_row : ElemOf Tryz.prog 57 53 (.slice none 0 0) 1 24 := ElemOf.mk' Tryz.underlying57 (by kernel_rfl) rfl (by decide) (by decide)

set_option maxHeartbeats 6400000 in
theorem filled_any (w : World) (B : Nat) (A : Option Addr) (n cc : Nat) (rows : List (List Int)) (hl : IRows w B A n rows) (hB : B ≤ w.heap.size) (hn : n ≤ 140737488355000) (hz : ∀ r ∈ rows, ∀ z ∈ r, -9223372036854775808 ≤ z ∧ z ≤ 9223372036854775807) (hrl : ∀ r ∈ rows, r.length ≤ 140737488355000) :
    Calls Tryz.prog 8 #[.slice A n cc] w (FilPost w) := by
  have hR : All w [.kept w w.heap.size] := ⟨⟨Below.refl _ _, Nat.le_refl _⟩, trivial⟩
  have HN := Lib.hid hl.len
  have HZ := Lib.hid hz
  have HRL := Lib.hid hrl
  have HPA : Hid (∀ k (hk : k < rows.length), ∃ ad R rc, A = some ad ∧ ∀ W, Below w.heap.size w W → W.cell? (ad.add k) = some (.slice R rows[k].length rc) ∧ Rd W B 1 R rows[k].length (rows[k].map iz)) := Lib.hid (fun k hk => irow_at hl hB hk)
  clear hl hz hrl
  go_enter Tryz.func8, Tryz.ntmps8
  go_upto_region 1 with (fail)
  have hI0 : All w [Res.fil w.heap.size 32 none 0 0 [] none 0 [], .kept w w.heap.size] :=
    ⟨Nest.of (Own.nil _ _ _ _) Blobs.nil (StoI.st _ _ _) (fun b hb => by
      rcases hb with ⟨ad, e, _⟩ | ⟨x, hx, _⟩
      · cases e
      · cases hx), hR⟩
  clear hR
  go_wp2
  go_loopw [4, 5, 6] (fun s al iv wr => ∃ (i : Nat) (A' : Option Addr) (n' c' : Nat) (l' : List Bl) (Aa : Option Addr) (ca : Nat) (ds cs : List (List UInt8)), i ≤ n ∧ i ≤ 12 ∧ iv = .int .i64 i ∧ s = .slice A' n' c' ∧ al = .slice Aa i ca ∧
      Hid (n' ≤ c' ∧ c' ≤ maxLen) ∧ Hid (InvP cs (l'.map pr) ∧ cs.length = i ∧ (∀ c ∈ cs, c.length ≤ 262144) ∧ ds = cs.map shaS) ∧ Hid (LkIn cs ds) ∧ All wr [Res.fil w.heap.size 32 Aa i ca ds A' n' l', .kept w w.heap.size]) (fun _ _ iv _ => n - (intOf iv).toNat)
  case atStart => exact ⟨0, none, 0, 0, [], none, 0, [], [], by omega, by omega, rfl, rfl, rfl, Lib.hid ⟨Nat.le_refl _, Nat.zero_le _⟩, Lib.hid ⟨inv_nil, rfl, (fun c hc => by cases hc), rfl⟩, Lib.hid (fun c hc => by cases hc), hI0⟩
  case round =>
    clear hI0
    obtain ⟨i, A', n', c', l', Aa, ca, ds, cs, hi, hi12, rfl, rfl, rfl, HNC, HCS, HLI, hI⟩ := hrel
    have hkp := (hI.at_ 1 rfl : Below w.heap.size w wr ∧ _).1
    by_cases hlt : i < n ∧ i < 12
    · have hil : i < rows.length := by rw [HN.out]; exact hlt.1
      have d1 : decide ((i : Int) < (n : Int)) = true := by simp; omega
      have d2 : decide ((i : Int) < 12) = true := by simp; omega
      have d3 : decide (i < 12) = true := by simp; omega
      have wi0 : (0 : Int) ≤ (i : Int) := by omega
      have wi1 : (i : Int) < (n : Int) := by omega
      have wi2 : ((i : Int)).toNat = i := by omega
      obtain ⟨sn, hsn⟩ : ∃ s : ByteArray, s = ⟨(Lib.itoa (i : Int)).toArray⟩ := ⟨_, rfl⟩
      have hnu := refNumber_any (i : Int) (by omega) (by omega) wr
      rw [← hsn] at hnu
      have HSN := Lib.hid hsn
      clear hsn
      go_wp2_with fail
      refine hnu.mono ?_
      clear hnu
      rintro e w2 ⟨rfl, hb2⟩
      have hI2 := hI.call hb2
      clear hb2 hI hkp
      obtain ⟨bL, hbL⟩ : ∃ bL, bL = w2.heap.size := ⟨_, rfl⟩
      have hwb : w.heap.size ≤ bL := by rw [hbL]; exact (hI2.at_ 1 rfl : _ ∧ w.heap.size ≤ w2.heap.size).2
      have hnest : Nest w2 w.heap.size 32 32 Aa i ca (dvs ds).flatten 0 (StoF A' l') (StoI A' n' l') := hI2.at_ 0 rfl
      have HFB : Hid (∀ b, StoF A' l' b → b < bL) := Lib.hid (fun b hb => by rw [hbL]; exact (hnest.fr b hb).2)
      have HGB : Hid (∀ g, (Value.slice Aa i ca).ownBlock = some g → g < bL) := Lib.hid (fun g hg => by rw [hbL]; exact (hnest.own.lt hg).2)
      clear hnest
      obtain ⟨sN, hsN⟩ : ∃ s : ByteArray, s = ⟨#[110, 111, 100, 101]⟩ := ⟨_, rfl⟩
      have hJ0 : All (w2.alloc (.cells #[.string sN, .string sn] 9)) [.own bL 9 1 (some ⟨bL, 0, none⟩) 2 2 ([sN, sn].map sv), Res.fil w.heap.size 32 Aa i ca ds A' n' l', .kept w w.heap.size] := ⟨by
        rw [hbL]
        exact Go.Adm.Own.lit w2 #[.string sN, .string sn] 2 (Nat.le_refl _) (by decide) rfl, hI2.alloc _⟩
      have HSZ : Hid (sN.size ≤ 1000 ∧ sn.size ≤ 1000) := Lib.hid ⟨by rw [hsN]; decide, by
        rw [HSN.out]
        show (Lib.itoa (i : Int)).toArray.size ≤ 1000
        rw [List.size_toArray]
        have := Lib.itoa_length_le (i : Int) (by omega) (by omega)
        omega⟩
      have hs0 : bL ≤ (w2.alloc (.cells #[.string sN, .string sn] 9)).heap.size := by rw [hbL]; simp
      have HWI : Hid (∀ s ∈ [sN, sn], WordIn ds s) := Lib.hid (fun s hs => by
        left
        rcases List.mem_cons.1 hs with h | h
        · rw [h, hsN]; decide
        · rw [List.mem_singleton.1 h, HSN.out]
          show (Lib.itoa (i : Int)).toArray.size ≠ 71
          rw [List.size_toArray]
          have := Lib.itoa_length_le (i : Int) (by omega) (by omega)
          omega)
      clear hI2 HSN
      go_wp2_with fail
      rw [← hsN, ← hbL]
      clear hbL
      refine wp_genP (Pr := fun W => All W [.own bL 9 1 (some ⟨bL, 0, none⟩) 2 2 ([sN, sn].map sv), Res.fil w.heap.size 32 Aa i ca ds A' n' l', .kept w w.heap.size] ∧ bL ≤ W.heap.size) ⟨hJ0, hs0⟩ ?_
      clear hJ0 hs0
      rintro W3 ⟨hJ0, hs0⟩
      obtain ⟨ad, R, rc, rfl, hP⟩ := HPA.out i hil
      have HP := Lib.hid hP
      have hzr := fun z hz => HZ.out _ (List.getElem_mem hil) z hz
      have HZR := Lib.hid hzr
      have hrl := HRL.out _ (List.getElem_mem hil)
      clear hP hzr
      generalize rows[i] = r at *
      go_loopw [7, 8] (fun v kv wr => ∃ (k : Nat) (A7 : Option Addr) (c7 : Nat) (ss : List ByteArray), k ≤ 4 ∧ kv = .int .i64 k ∧ v = .slice A7 ss.length c7 ∧ bL ≤ wr.heap.size ∧ Hid (ss.length ≤ 2 + k ∧ ∀ s ∈ ss, s.size ≤ 1000) ∧ Hid (∀ s ∈ ss, WordIn ds s) ∧ All wr [.own bL 9 1 A7 ss.length c7 (ss.map sv), Res.fil w.heap.size 32 Aa i ca ds A' n' l', .kept w w.heap.size]) (fun _ kv _ => 4 - (intOf kv).toNat)
      case atStart => exact ⟨0, some ⟨bL, 0, none⟩, 2, [sN, sn], by omega, rfl, rfl, hs0, Lib.hid ⟨by simp, fun s hs => by
        rcases List.mem_cons.1 hs with h | h
        · rw [h]; exact HSZ.out.1
        · rw [List.mem_singleton.1 h]; exact HSZ.out.2⟩, HWI, hJ0⟩
      case round =>
        clear hJ0 hs0 HWI
        obtain ⟨k, A7, c7, ss, hk, rfl, rfl, hbs, HSS, HWI, hJ⟩ := hrel
        have hkp := (hJ.at_ 2 rfl : Below w.heap.size w wr ∧ _).1
        have q1 := (HP.out wr hkp).1
        go_upto_region 8 with (fail)
        obtain ⟨tb, htb⟩ : ∃ tb : Bool, decide (k < r.length ∧ k < 4 ∧ 0 < i) = tb := ⟨_, rfl⟩
        have HTB := Lib.hid htb
        clear htb
        go_cut [42] (fun t wx => t = .bool tb ∧ wx = wr)
        case first =>
          by_cases hc1 : k < r.length
          · have e1 : decide ((k : Int) < (r.length : Int)) = true := by simp; omega
            have e1' : decide (k < r.length) = true := by simp; omega
            by_cases hc2 : k < 4
            · have e2 : decide ((k : Int) < 4) = true := by simp; omega
              have e2' : decide (k < 4) = true := by simp; omega
              by_cases hc3 : 0 < i
              · have e3 : decide (0 < (i : Int)) = true := by simp; omega
                have e3' : decide (0 < i) = true := by simp; omega
                have e4 : decide (k < r.length ∧ k < 4 ∧ 0 < i) = true := decide_eq_true ⟨hc1, hc2, hc3⟩
                clear hc1 hc2 hc3
                go_wp2_with fail
                go_meet
                exact ⟨by rw [← HTB.out, e4], rfl⟩
              · have e3 : decide (0 < (i : Int)) = false := by simp; omega
                have e3' : decide (0 < i) = false := by simp; omega
                have e4 : decide (k < r.length ∧ k < 4 ∧ 0 < i) = false := decide_eq_false (fun h => hc3 h.2.2)
                clear hc1 hc2 hc3
                go_wp2_with fail
                go_meet
                exact ⟨by rw [← HTB.out, e4], rfl⟩
            · have e2 : decide ((k : Int) < 4) = false := by simp; omega
              have e2' : decide (k < 4) = false := by simp; omega
              have e4 : decide (k < r.length ∧ k < 4 ∧ 0 < i) = false := decide_eq_false (fun h => hc2 h.2.1)
              clear hc1 hc2
              go_wp2_with fail
              go_meet
              exact ⟨by rw [← HTB.out, e4], rfl⟩
          · have e1 : decide ((k : Int) < (r.length : Int)) = false := by simp; omega
            have e1' : decide (k < r.length) = false := by simp; omega
            have e4 : decide (k < r.length ∧ k < 4 ∧ 0 < i) = false := decide_eq_false (fun h => hc1 h.1)
            clear hc1
            go_wp2_with fail
            go_meet
            exact ⟨by rw [← HTB.out, e4], rfl⟩
        case rest =>
          obtain ⟨rfl, rfl⟩ := hcut
          cases tb with
          | true =>
            obtain ⟨hc1, hc2, hc3⟩ := of_decide_eq_true HTB.out
            have hrd := (HP.out wc hkp).2
            obtain ⟨rd, u, rfl, -, hu, q2⟩ := Rd.cell hrd hc1
            obtain ⟨z, hz, rfl⟩ : ∃ z, r[k] = z ∧ iz z = u := ⟨r[k], rfl, by rw [List.getElem?_map, List.getElem?_eq_getElem hc1] at hu; exact Option.some.inj hu⟩
            have q3 : wc.cell? (rd.add k) = some (.int .i64 z) := q2
            have hzz := HZR.out z (by rw [← hz]; exact List.getElem_mem hc1)
            clear hu q2 hrd hz
            have wk0 : (0 : Int) ≤ (k : Int) := by omega
            have wk1 : (k : Int) < (r.length : Int) := by omega
            have wk2 : ((k : Int)).toNat = k := by omega
            have hi0 : (i : Int) ≠ 0 := by omega
            have hi00 : ((i : Int) == 0) = false := by simp; omega
            obtain ⟨hm1, hm2⟩ := tmod_bd z i hc3
            obtain ⟨j, hj, hji⟩ : ∃ j : Nat, z.tmod (i : Int) % (i : Int) = (j : Int) ∧ j < i := ⟨(z.tmod i % i).toNat, by rw [Int.toNat_of_nonneg (Int.emod_nonneg _ hi0)], by have h1 := Int.emod_lt_of_pos (z.tmod i) (show (0 : Int) < (i : Int) by omega); have h2 := Int.emod_nonneg (z.tmod i) hi0; omega⟩
            have wj0 : (0 : Int) ≤ (j : Int) := by omega
            have wj1 : (j : Int) < (i : Int) := by omega
            have wj2 : ((j : Int)).toNat = j := by omega
            have hds : ds.length = i := by rw [HCS.out.2.2.2, List.length_map]; exact HCS.out.2.1
            have h32 : ∀ x ∈ ds, x.length = 32 := fun x hx => by
              rw [HCS.out.2.2.2] at hx
              obtain ⟨c, _, rfl⟩ := List.mem_map.1 hx
              exact shaS_len c
            have hjl : j < ds.length := by omega
            obtain ⟨aa, rfl, -, hd⟩ := Digs.elem (fil_digs (hJ.at_ 1 rfl) h32 hds) hjl
            have HDJ : Hid (ds[j].length = 32) := Lib.hid (h32 _ (List.getElem_mem hjl))
            have HAP : Hid (∀ g, bL ≤ g → Apart (some g) [Res.fil w.heap.size 32 (some aa) i ca ds A' n' l', .kept w w.heap.size]) := Lib.hid (fun g hg => fil_apart HFB.out HGB.out hwb hg)
            have HX := Lib.hid hd
            have HDM : Hid (ds[j] ∈ ds) := Lib.hid (List.getElem_mem hjl)
            clear hds h32 hd
            generalize ds[j] = d at *
            have hfm := refFormat_any wc d HDJ.out
            go_wp2_with (refine wl_load_any rfl 32 (.tmp 63) rfl (aa.add (j * 32)) rfl (d.map bv) _ HX.out Tryz.underlying32 rfl (by rw [List.length_map, HDJ.out]; kernel_rfl) ?_)
            refine hfm.mono ?_
            clear hfm hj q3
            rintro e w5 ⟨rfl, hb5⟩
            have hJ5 := hJ.call hb5
            have hsz5 := hb5.size
            have hfs := fmt_size HDJ.out
            clear hJ hb5 HX hjl
            generalize hsd : (⟨(fmtL d).toArray⟩ : ByteArray) = sd at *
            have HSD := Lib.hid hsd
            clear hsd
            go_wp2_with (at_builtin; refine wl_app_at el_str (hJ5.alloc _) 0 rfl (.tmp 45) (.tmp 66) rfl bL _ _ _ _ rfl rfl (w5.heap.size + 1) _ 1 1 [.string sd] rfl (Rd.lit w5 _ _ 1 rfl) (by intro u hu; simp only [List.mem_singleton] at hu; subst hu; rfl) (by have := HSS.out.1; omega) (by simp; omega) (fun g hg _ => HAP.out g hg) ?_; intro A8 c8 w8 hJ8 hs8; simp only [List.set_cons_zero] at hJ8)
            have hb8 : bL ≤ w8.heap.size := by have : w5.heap.size ≤ (w5.alloc (.cells #[.string sd] 9)).heap.size := by simp
                                               omega
            refine ⟨⟨k + 1, A8, c8, ss ++ [sd], by omega, by go_num, by simp, hb8, Lib.hid ⟨by have := HSS.out.1; simp; omega, fun s hs => ?_⟩, Lib.hid (fun s hs => ?_), ?_⟩, by simp [intOf]; omega⟩
            · rcases List.mem_append.1 hs with h | h
              · exact HSS.out.2 s h
              · rw [List.mem_singleton.1 h, hfs]; decide
            · rcases List.mem_append.1 hs with h | h
              · exact HWI.out s h
              · rw [List.mem_singleton.1 h]; exact .inr ⟨d, HDM.out, HDJ.out, HSD.out.symm⟩
            · refine ⟨(hJ8.at_ 0 rfl : Go.Adm.Own w8 bL 9 1 A8 _ c8 _).cast (by simp) (by simp [sv]), hJ8.2⟩
          | false =>
            clear HTB HP HZR
            have hli := line_of (t2 := 53) (hJ.at_ 0 rfl : Go.Adm.Own wc bL 9 1 A7 ss.length c7 _) HSS.out.2
            have hen := refEncode_any _ _ _ 1 1 [ss] hli (by simp)
            have hJ6 := hJ.alloc (.cells #[.slice A7 ss.length c7] 53)
            clear hJ hli
            go_wp2_with fail
            refine hen.mono ?_
            clear hen
            intro e w6 hp6
            obtain ⟨Ad, cd, rfl, hb6, ho6⟩ := enc_own hp6
            clear hp6
            have hJ7 : All w6 [.own (wc.alloc (.cells #[.slice A7 ss.length c7] 53)).heap.size 5 1 Ad (docB ss).length cd ((docB ss).map bv), Res.fil w.heap.size 32 Aa i ca ds A' n' l', .kept w w.heap.size] := ⟨ho6, (hJ6.call hb6).2⟩
            have hbE : bL ≤ (wc.alloc (.cells #[.slice A7 ss.length c7] 53)).heap.size := by simp; omega
            have hsE : (wc.alloc (.cells #[.slice A7 ss.length c7] 53)).heap.size ≤ w6.heap.size := hb6.size
            clear hb6 ho6 hJ6
            generalize (wc.alloc (.cells #[.slice A7 ss.length c7] 53)).heap.size = bE at *
            have hdl := docB_len ss
            have HLB : Hid (∀ e ∈ linksB (docB ss), e ∈ ds) := Lib.hid (docB_links HWI.out)
            clear HWI
            generalize docB ss = b at *
            generalize docE [ss] = eD at *
            obtain ⟨hinv, hcl, hc26, hds⟩ := HCS.out
            have hbl : Blobs w6 w6.heap.size A' n' l' := fil_blobs (hJ7.at_ 1 rfl)
            have hval : validB l' = true := inv_valid hbl hinv (by omega) hc26
            have hnl : n' ≤ 12 := by
              have h1 := hinv.len
              rw [List.length_map, hbl.len] at h1
              omega
            obtain ⟨dp, hdp⟩ : ∃ dp, shaS b = dp := ⟨_, rfl⟩
            have hob : Go.Adm.Own w6 bE 5 1 Ad b.length cd (b.map bv) := hJ7.at_ 0 rfl
            have hpu := refPut_ex w6 w6.heap.size A' Ad n' c' b.length cd l' dp b hbl hob.rd hdp (by omega) HNC.out.1 HNC.out.2 (by omega) hob.cap.1 hob.cap.2 (Nat.le_refl _) (fun x hx => by have := validB_each hval x hx; omega)
            unfold RefPost at hpu
            rw [put3_ok hval hdl (by rw [hbl.len]; omega)] at hpu
            have hinv2 := hinv.step b
            rw [hdp] at hinv2
            have HIV := Lib.hid hinv2
            have HDP : Hid (dp.length = 32) := Lib.hid (by rw [← hdp]; exact shaS_len b)
            have HSH := Lib.hid hdp
            have HDL := Lib.hid hdl
            clear hinv hcl hc26 hds hbl hval hnl hdp hob hinv2 hdl
            go_wp2_with fail
            refine hpu.mono ?_
            clear hpu
            rintro e w9 ⟨A2, n2, c2, l2, rfl, hbl2, hnc2, hcm2, hpr2, hb9, hA2, hl2⟩
            have hJ9 := hJ7.call hb9
            have hs9 := hb9.size
            have ho9 : Go.Adm.Own w9 bE 5 1 Ad b.length cd (b.map bv) := hJ9.at_ 0 rfl
            have hn2 : 0 < n2 := by
              have h1 := HIV.out.has b (List.mem_append_right _ (List.mem_singleton.2 rfl))
              rw [HSH.out] at h1
              obtain ⟨p, hp, _⟩ := List.mem_map.1 h1
              rw [← hpr2] at hp
              obtain ⟨x, hx, _⟩ := List.mem_map.1 hp
              rw [← hbl2.len]
              exact List.length_pos_of_mem hx
            have hfil := fil_new (bE := bE) (hJ9.at_ 1 rfl) hbl2 hn2 (hA2.imp_right fun h ad e => Nat.le_trans hsE (h ad e)) hl2 (fun ad e => ho9.lt (by rw [e]; rfl)) (Nat.le_trans hwb hbE) (fun q hq => Nat.lt_of_lt_of_le (HGB.out q hq) hbE)
            have hK9 : All w9 [Res.fil w.heap.size 32 Aa i ca ds A2 n2 l2, .kept w w.heap.size] := ⟨hfil, hJ9.2.2⟩
            have HPR : Hid (InvP (cs ++ [b]) (l2.map pr)) := Lib.hid (by rw [hpr2]; exact HIV.out)
            have HN2 : Hid (n2 ≤ c2 ∧ c2 ≤ maxLen) := Lib.hid ⟨hnc2, hcm2⟩
            have HCC : Hid ((cs ++ [b]).length = i + 1 ∧ (∀ c ∈ cs ++ [b], c.length ≤ 262144) ∧ ds ++ [dp] = (cs ++ [b]).map shaS) := Lib.hid (by
              obtain ⟨_, h1, h2, h3⟩ := HCS.out
              refine ⟨by rw [List.length_append, h1]; rfl, fun c hc => ?_, by rw [List.map_append, ← h3, List.map_cons, HSH.out]; rfl⟩
              rcases List.mem_append.1 hc with h | h
              · exact h2 c h
              · rw [List.mem_singleton.1 h]; exact HDL.out)
            have HLI2 : Hid (LkIn (cs ++ [b]) (ds ++ [dp])) := Lib.hid (HLI.out.snoc HLB.out)
            have hfn : Nest w9 w.heap.size 32 32 Aa i ca (dvs ds).flatten 0 (StoF A2 l2) (StoI A2 n2 l2) := hfil
            obtain ⟨g, hg⟩ : ∃ g, g = w9.heap.size := ⟨_, rfl⟩
            have hgw : w.heap.size ≤ g := by rw [hg]; exact (hK9.at_ 1 rfl : _ ∧ w.heap.size ≤ w9.heap.size).2
            have HFB9 : Hid (∀ q, StoF A2 l2 q → q < g) := Lib.hid (fun q hq => by rw [hg]; exact (hfn.fr q hq).2)
            have HGB9 : Hid (∀ q, (Value.slice Aa i ca).ownBlock = some q → q < g) := Lib.hid (fun q hq => by rw [hg]; exact (hfn.own.lt hq).2)
            have hzr := zero_dg
            clear hfil hfn hJ9 hJ7 hb9 hA2 hl2 ho9 hbl2 hnc2 hcm2 hpr2 hn2
            go_upto_region 13 with (refine wl_store_at (hK9.new (l := z32.map bv) _ 32 hg rfl) 0 rfl 32 (.tmp 12) (.tmp 79) rfl g _ _ (dp.map bv) rfl (by rw [hg]; rfl) rfl (by rw [List.length_map, HDP.out]; rfl) (by rw [List.length_map, HDP.out]; kernel_rfl) (bv_one _) (fil_apart HFB9.out HGB9.out hgw (Nat.le_refl _)) ?_; intro W9 hW9 hs9'; simp only [List.set_cons_zero] at hW9)
            simp only [← hg]
            clear hK9 hzr hg
            go_wp2_with (first
              | (refine wl_load_any rfl 32 (.tmp 12) rfl ⟨g, 0, none⟩ rfl (dp.map bv) _ (Cells.sub (hW9.at_ 0 rfl) 0 (fun j u h => by rwa [Nat.zero_add])) Tryz.underlying32 rfl (by rw [List.length_map, HDP.out]; kernel_rfl) ?_)
              | (refine wl_lit1 el_dg rfl (.tmp 83) rfl (dp.map bv) rfl (by rw [List.length_map, HDP.out]) (by decide) ?_)
              | (at_builtin; refine wl_app_nest el_dg (hW9.alloc _) 1 rfl (.tmp 82) (.tmp 84) rfl w.heap.size Aa i ca (dvs ds).flatten 0 (StoF A2 l2) (StoI A2 n2 l2) rfl rfl (W9.heap.size + 1) _ 1 1 (dp.map bv) rfl (Rd.lit W9 (dp.map bv).toArray _ 1 (by rw [List.size_toArray, List.length_map, HDP.out])) (bv_one _) (by omega) (by have := Cells.lt (hW9.at_ 0 rfl); simp; omega) (Nat.zero_le _) (fun _ => False) (fun _ => True) trivial (St.true fun _ => trivial) (fun _ h => h.elim) (fun q hq1 hq => ⟨by have := HGB9.out q hq; intro e; injection e with e; omega, fun g' e => by { injection e with e; omega }, trivial⟩) ?_; intro A10 c10 w10 hJ10 hs10))
            refine ⟨⟨i + 1, A2, n2, c2, l2, A10, c10, ds ++ [dp], cs ++ [b], by omega, by omega, by go_num, rfl, rfl, HN2, Lib.hid ⟨HPR.out, HCC.out⟩, HLI2, ?_, hJ10.2.2⟩, by simp [intOf]; omega⟩
            have h1 := nest_or (hJ10.at_ 1 rfl : Nest w10 w.heap.size 32 32 A10 (i + 1) c10 ((dvs ds).flatten ++ dp.map bv) 0 (fun b => StoF A2 l2 b ∨ False) (fun w => StoI A2 n2 l2 w ∧ True))
            have e1 : (dvs ds).flatten ++ dp.map bv = (dvs (ds ++ [dp])).flatten := by simp [dvs]
            rw [e1] at h1
            exact h1
    · have hfin : FilPost w (.returned (.tuple #[.slice A' n' c', .slice Aa i ca])) wr := by
        obtain ⟨h1, h2, h3, h4⟩ := HCS.out
        have hf : (Res.fil w.heap.size 32 Aa i ca ds A' n' l').ok wr := hI.at_ 0 rfl
        exact ⟨A', n', c', l', Aa, i, ca, ds, cs, rfl, fil_blobs hf, fil_digs hf (fun x hx => by
          rw [h4] at hx
          obtain ⟨c, _, rfl⟩ := List.mem_map.1 hx
          exact shaS_len c) (by rw [h4, List.length_map]; exact h2), HNC.out.1, HNC.out.2, (Nest.own hf).cap.1, (Nest.own hf).cap.2, h1, by omega, h3, h4, hkp, HLI.out⟩
      have HFIN := Lib.hid hfin
      clear hfin
      by_cases hin : i < n
      · have d1 : decide ((i : Int) < (n : Int)) = true := by simp; omega
        have d2 : decide ((i : Int) < 12) = false := by simp; omega
        have d3 : decide (i < 12) = false := by simp; omega
        clear hlt
        go_wp2_with fail
        go_ret2
        exact HFIN.out
      · have d1 : decide ((i : Int) < (n : Int)) = false := by simp; omega
        clear hlt
        go_wp2_with fail
        go_ret2
        exact HFIN.out
end Go.Proofs.YtkcmaembpfakdaaGreatDoor
set_option linter.unusedSimpArgs false
set_option linter.unusedVariables false
set_option maxRecDepth 100000
namespace Go.Adm
open Go Go.RowKit
def lookP (P : PrL) (d : List UInt8) : Option (List UInt8) := (P.find? fun p => decide (p.1 = d)).map Prod.snd
theorem lookP_pr (l : List Bl) (d : List UInt8) : lookP (l.map pr) d = (lookB l d).map (·.b) := by
  unfold lookP lookB
  induction l with
  | nil => rfl
  | cons x l ih =>
    rw [List.map_cons, List.find?_cons, List.find?_cons]
    by_cases h : x.d = d
    · rw [decide_eq_true (p := (pr x).1 = d) h, decide_eq_true (p := x.d = d) h]; rfl
    · rw [decide_eq_false (p := (pr x).1 = d) h, decide_eq_false (p := x.d = d) h]; exact ih
theorem lookP_none {P : PrL} {d : List UInt8} : lookP P d = none ↔ d ∉ P.map Prod.fst := by
  unfold lookP
  rw [Option.map_eq_none_iff, List.find?_eq_none, List.mem_map]
  constructor
  · rintro h ⟨p, hp, e⟩
    exact h p hp (decide_eq_true e)
  · intro h p hp e
    exact h ⟨p, hp, of_decide_eq_true e⟩
theorem lookP_some {P : PrL} {d y : List UInt8} (h : lookP P d = some y) : (d, y) ∈ P := by
  unfold lookP at h
  obtain ⟨p, hp, e⟩ := Option.map_eq_some_iff.1 h
  have h1 := List.mem_of_find?_eq_some hp
  have h2 : p.1 = d := by simpa using List.find?_some hp
  rw [← h2, ← e]
  exact h1
theorem lookP_app (A B : PrL) (d : List UInt8) : lookP (A ++ B) d = (lookP A d).or (lookP B d) := by
  unfold lookP
  rw [List.find?_append]
  cases A.find? _ <;> rfl
theorem lookP_cons (p : List UInt8 × List UInt8) (B : PrL) (d : List UInt8) : lookP (p :: B) d = if p.1 = d then some p.2 else lookP B d := by
  unfold lookP
  rw [List.find?_cons]
  by_cases h : p.1 = d
  · rw [if_pos h, decide_eq_true h]; rfl
  · rw [if_neg h, decide_eq_false h]
theorem lookP_putP (P : PrL) (d b e : List UInt8) : lookP (putP P d b) e = if e = d then some ((lookP P d).getD b) else lookP P e := by
  unfold putP
  split
  · rename_i h
    by_cases he : e = d
    · subst he
      rw [if_pos rfl]
      cases hl : lookP P e with
      | none => exact absurd h (lookP_none.1 hl)
      | some y => rfl
    · rw [if_neg he]
  · rename_i h
    rw [lookP_app, lookP_cons]
    have hn := lookP_none.2 h
    by_cases he : e = d
    · subst he
      have h1 : lookP (P.take (placeD (P.map Prod.fst) e)) e = none := lookP_none.2 (fun hm => h (by rw [List.map_take] at hm; exact List.mem_of_mem_take hm))
      rw [if_pos rfl, if_pos rfl, h1, hn]; rfl
    · rw [if_neg he, if_neg (fun h' => he h'.symm), ← lookP_app, List.take_append_drop]
def mrgP (Pa Pb : PrL) : PrL := Pb.foldl (fun P p => putP P p.1 p.2) Pa
theorem mrgP_snoc (Pa Pb : PrL) (p : List UInt8 × List UInt8) : mrgP Pa (Pb ++ [p]) = putP (mrgP Pa Pb) p.1 p.2 := by
  unfold mrgP; rw [List.foldl_append]; rfl
theorem mrgP_cons (Pa Pb : PrL) (p : List UInt8 × List UInt8) : mrgP Pa (p :: Pb) = mrgP (putP Pa p.1 p.2) Pb := rfl
theorem mrgP_asc : ∀ {Pb Pa : PrL}, Asc (Pa.map Prod.fst) → Asc ((mrgP Pa Pb).map Prod.fst)
  | [], _, h => h
  | p :: Pb, Pa, h => by
    rw [mrgP_cons]
    exact mrgP_asc (by rw [putP_fst]; exact addD_asc h)
theorem putP_len (P : PrL) (d b : List UInt8) : (putP P d b).length ≤ P.length + 1 := by
  unfold putP
  split
  · omega
  · have := placeD_le (P.map Prod.fst) d
    rw [List.length_map] at this
    rw [List.length_append, List.length_cons, List.length_take, List.length_drop]; omega
theorem mrgP_len : ∀ {Pb Pa : PrL}, (mrgP Pa Pb).length ≤ Pa.length + Pb.length
  | [], Pa => Nat.le_refl _
  | p :: Pb, Pa => by
    rw [mrgP_cons, List.length_cons]
    have h1 := @mrgP_len Pb (putP Pa p.1 p.2)
    have h2 := putP_len Pa p.1 p.2
    omega
theorem lookP_far : ∀ {Pb Pa : PrL} {d : List UInt8}, d ∉ Pb.map Prod.fst → lookP (mrgP Pa Pb) d = lookP Pa d
  | [], _, _, _ => rfl
  | p :: Pb, Pa, d, h => by
    rw [List.map_cons, List.mem_cons] at h
    rw [mrgP_cons, lookP_far (fun hm => h (Or.inr hm)), lookP_putP, if_neg (fun e => h (Or.inl e))]
theorem asc_nodup : ∀ {xs : List (List UInt8)}, Asc xs → xs.Nodup := fun {xs} h => by
  refine List.Pairwise.imp ?_ h
  intro a b hab e
  subst e
  have := lessD_irrefl a
  rw [this] at hab
  cases hab
theorem lookP_mrg : ∀ {Pb Pa : PrL} {d : List UInt8}, (Pb.map Prod.fst).Nodup → lookP (mrgP Pa Pb) d = (lookP Pa d).or (lookP Pb d)
  | [], Pa, d, _ => by
    show lookP Pa d = (lookP Pa d).or none
    cases lookP Pa d <;> rfl
  | p :: Pb, Pa, d, h => by
    rw [List.map_cons, List.nodup_cons] at h
    rw [mrgP_cons, lookP_mrg h.2, lookP_putP, lookP_cons]
    by_cases e : d = p.1
    · subst e
      rw [if_pos rfl, if_pos rfl]
      cases lookP Pa p.1 <;> rfl
    · rw [if_neg e, if_neg (fun e' => e e'.symm)]
def misP (Pa Pb : PrL) : Bool := Pb.any fun p => match lookP Pa p.1 with | none => false | some y => decide (y ≠ p.2)
theorem misP_false {Pa Pb : PrL} (h : misP Pa Pb = false) {p : List UInt8 × List UInt8} (hp : p ∈ Pb) {y : List UInt8} (hy : lookP Pa p.1 = some y) : y = p.2 := by
  unfold misP at h
  have h1 := List.any_eq_false.1 h p hp
  rw [hy] at h1
  simpa using h1
theorem misP_of {Pa Pb : PrL} (h : ∀ p ∈ Pb, ∀ y, lookP Pa p.1 = some y → y = p.2) : misP Pa Pb = false := by
  unfold misP
  refine List.any_eq_false.2 fun p hp => ?_
  cases hl : lookP Pa p.1 with
  | none => simp
  | some y => simp [h p hp y hl]
theorem misP_at {Pa Pb : PrL} {p : List UInt8 × List UInt8} (hp : p ∈ Pb) {y : List UInt8} (hy : lookP Pa p.1 = some y) (hne : y ≠ p.2) : misP Pa Pb = true := by
  unfold misP
  refine List.any_eq_true.2 ⟨p, hp, ?_⟩
  rw [hy]; simp [hne]
/-- the merged store, the error -/
def merge3 (la lb : List Bl) : PrL × Int :=
  if (validB la && validB lb) = true then (if misP (la.map pr) (lb.map pr) = true then ([], 9) else if 256 < (mrgP (la.map pr) (lb.map pr)).length then ([], 3) else (mrgP (la.map pr) (lb.map pr), 0)) else ([], 1)
theorem merge3_bad {la lb : List Bl} (h : (validB la && validB lb) = false) : merge3 la lb = ([], 1) := by
  unfold merge3; rw [if_neg (by rw [h]; decide)]
theorem merge3_mis {la lb : List Bl} (h1 : validB la = true) (h2 : validB lb = true) (h : misP (la.map pr) (lb.map pr) = true) : merge3 la lb = ([], 9) := by
  unfold merge3; rw [if_pos (by rw [h1, h2]; rfl), if_pos h]
theorem merge3_many {la lb : List Bl} (h1 : validB la = true) (h2 : validB lb = true) (h : misP (la.map pr) (lb.map pr) = false) (h3 : 256 < (mrgP (la.map pr) (lb.map pr)).length) : merge3 la lb = ([], 3) := by
  unfold merge3; rw [if_pos (by rw [h1, h2]; rfl), if_neg (by rw [h]; decide), if_pos h3]
theorem merge3_ok {la lb : List Bl} (h1 : validB la = true) (h2 : validB lb = true) (h : misP (la.map pr) (lb.map pr) = false) (h3 : ¬ 256 < (mrgP (la.map pr) (lb.map pr)).length) : merge3 la lb = (mrgP (la.map pr) (lb.map pr), 0) := by
  unfold merge3; rw [if_pos (by rw [h1, h2]; rfl), if_neg (by rw [h]; decide), if_neg h3]
/-- a valid store ascends -/
theorem valid_asc {l : List Bl} (h : validB l = true) : Asc ((l.map pr).map Prod.fst) := by
  rw [map_pr_fst]
  have hs := validB_sorted h
  refine List.pairwise_iff_getElem.2 fun i j hi hj hij => ?_
  rw [List.length_map] at hi hj
  simpa using hs i j hij hj
theorem asc_sorted {l : List Bl} (h : Asc ((l.map pr).map Prod.fst)) : SortedB l := by
  rw [map_pr_fst] at h
  intro i j hij hj
  have := (List.pairwise_iff_getElem.1 h) i j (by rw [List.length_map]; omega) (by rw [List.length_map]; exact hj) hij
  simpa using this
/-- the blob that is found stands at its place -/
theorem place_at {l : List Bl} {d : List UInt8} {x : Bl} (hs : SortedB l) (h : lookB l d = some x) : l[placeB l d]? = some x := by
  have hm := List.mem_of_find?_eq_some h
  have hd : x.d = d := by simpa using List.find?_some h
  obtain ⟨k, hk, e⟩ := List.getElem_of_mem hm
  have hp : placeB l d = k := by
    refine placeB_eq (Nat.le_of_lt hk) (fun p hp hpk => ?_) (fun hk' => ?_)
    · rw [← hd, ← e]; exact hs p k hpk hk
    · rw [e, hd]; exact lessD_irrefl d
  rw [hp, List.getElem?_eq_getElem hk, e]
theorem asc_ext : ∀ {P Q : PrL}, Asc (P.map Prod.fst) → Asc (Q.map Prod.fst) → (∀ d, lookP P d = lookP Q d) → P = Q
  | [], [], _, _, _ => rfl
  | [], q :: Q, _, _, h => by
    have := h q.1
    rw [lookP_cons, if_pos rfl] at this
    cases this
  | p :: P, [], _, _, h => by
    have := h p.1
    rw [lookP_cons, if_pos rfl] at this
    cases this
  | p :: P, q :: Q, hP, hQ, h => by
    rw [List.map_cons] at hP hQ
    have hP' := List.pairwise_cons.1 hP
    have hQ' := List.pairwise_cons.1 hQ
    have he : p.1 = q.1 := by
      by_cases e : p.1 = q.1
      · exact e
      · exfalso
        have h1 := h p.1
        rw [lookP_cons, if_pos rfl, lookP_cons, if_neg (fun e' => e e'.symm)] at h1
        have h2 := h q.1
        rw [lookP_cons, if_neg e, lookP_cons, if_pos rfl] at h2
        have m1 : p.1 ∈ Q.map Prod.fst := List.mem_map_of_mem (f := Prod.fst) (lookP_some h1.symm)
        have m2 : q.1 ∈ P.map Prod.fst := List.mem_map_of_mem (f := Prod.fst) (lookP_some h2)
        have l1 := hQ'.1 _ m1
        have l2 := hP'.1 _ m2
        have := lessD_trans l1 l2
        rw [lessD_irrefl] at this
        cases this
    have he2 : p.2 = q.2 := by
      have h1 := h p.1
      rw [lookP_cons, if_pos rfl, lookP_cons, if_pos he.symm] at h1
      exact Option.some.inj h1
    have hpq : p = q := Prod.ext he he2
    subst hpq
    congr 1
    refine asc_ext hP'.2 hQ'.2 fun d => ?_
    by_cases e : p.1 = d
    · subst e
      have n1 : p.1 ∉ P.map Prod.fst := fun hm => by have := hP'.1 _ hm; rw [lessD_irrefl] at this; cases this
      have n2 : p.1 ∉ Q.map Prod.fst := fun hm => by have := hQ'.1 _ hm; rw [lessD_irrefl] at this; cases this
      rw [lookP_none.2 n1, lookP_none.2 n2]
    · have h1 := h d
      rwa [lookP_cons, if_neg e, lookP_cons, if_neg e] at h1
theorem look_uni {P : PrL} (hP : Asc (P.map Prod.fst)) {p : List UInt8 × List UInt8} (hp : p ∈ P) {z : List UInt8} (hz : (p.1, z) ∈ P) : z = p.2 := by
  obtain ⟨i, hi, ei⟩ := List.getElem_of_mem hp
  obtain ⟨j, hj, ej⟩ := List.getElem_of_mem hz
  have key : ∀ a b (ha : a < P.length) (hb : b < P.length), a < b → P[a].1 ≠ P[b].1 := fun a b ha hb hab e => by
    have := (List.pairwise_iff_getElem.1 hP) a b (by rw [List.length_map]; exact ha) (by rw [List.length_map]; exact hb) hab
    simp only [List.getElem_map] at this
    rw [e, lessD_irrefl] at this
    cases this
  have hij : i = j := by
    rcases Nat.lt_trichotomy i j with h | h | h
    · exact absurd (by rw [ei, ej]) (key i j hi hj h)
    · exact h
    · exact absurd (by rw [ei, ej]) (key j i hj hi h)
  subst hij
  rw [ei] at ej
  exact congrArg Prod.snd ej.symm
theorem mis_comm {P Q : PrL} (hP : Asc (P.map Prod.fst)) (hQ : Asc (Q.map Prod.fst)) (h : misP P Q = false) : misP Q P = false := by
  refine misP_of fun p hp y hy => ?_
  have h1 := lookP_some hy
  have h2 : lookP P p.1 = some p.2 := by
    cases hl : lookP P p.1 with
    | none => exact absurd (List.mem_map_of_mem (f := Prod.fst) hp) (lookP_none.1 hl)
    | some z =>
      have h3 := lookP_some hl
      have := look_uni hP hp h3
      rw [this]
  exact (misP_false h h1 h2).symm
theorem mrg_comm {P Q : PrL} (hP : Asc (P.map Prod.fst)) (hQ : Asc (Q.map Prod.fst)) (h : misP P Q = false) : mrgP P Q = mrgP Q P := by
  refine asc_ext (mrgP_asc hP) (mrgP_asc hQ) fun d => ?_
  rw [lookP_mrg (asc_nodup hQ), lookP_mrg (asc_nodup hP)]
  cases h1 : lookP P d with
  | none => cases lookP Q d <;> rfl
  | some y =>
    cases h2 : lookP Q d with
    | none => rfl
    | some z =>
      have := misP_false h (lookP_some h2) h1
      subst this; rfl
theorem mrg_idem {P Q : PrL} (hP : Asc (P.map Prod.fst)) (hQ : Asc (Q.map Prod.fst)) : mrgP (mrgP P Q) P = mrgP P Q := by
  refine asc_ext (mrgP_asc (mrgP_asc hP)) (mrgP_asc hP) fun d => ?_
  rw [lookP_mrg (asc_nodup hP), lookP_mrg (asc_nodup hQ)]
  cases lookP P d <;> cases lookP Q d <;> rfl
theorem mis_mrg {P Q : PrL} (hP : Asc (P.map Prod.fst)) (hQ : Asc (Q.map Prod.fst)) : misP (mrgP P Q) P = false := by
  refine misP_of fun p hp y hy => ?_
  rw [lookP_mrg (asc_nodup hQ)] at hy
  cases hl : lookP P p.1 with
  | none => exact absurd (List.mem_map_of_mem (f := Prod.fst) hp) (lookP_none.1 hl)
  | some z =>
    rw [hl] at hy
    have e1 : z = y := Option.some.inj hy
    have := look_uni hP hp (lookP_some hl)
    rw [← e1, this]
end Go.Adm
