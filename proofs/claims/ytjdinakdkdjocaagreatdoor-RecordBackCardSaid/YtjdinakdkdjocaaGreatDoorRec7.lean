/- The encoded form of a record: the program. -/
import Derived.Test.YtjdinakdkdjocaaGreatDoorRec6
import Derived.Test.YtjdinakdkdjocaaGreatDoorLinB
import Derived.Test.YtjdinakdkdjocaaGreatDoorNumP
import Derived.Test.YtjdinakdkdjocaaGreatDoorDocA
import Derived.Test.YtjdinakdkdjocaaGreatDoorLineV
set_option linter.unusedSimpArgs false
set_option linter.unusedVariables false
set_option maxRecDepth 100000
namespace Go.AdR
open Go Go.RowKit Go.Adm
/-- a row of words, with room behind it -/
def RowS (w : World) (B : Nat) (v : Value) (ss : List ByteArray) : Prop := ∃ A c, v = .slice A ss.length c ∧ ss.length ≤ c ∧ c ≤ maxLen ∧ Strs w B A ss.length ss
theorem RowS.st {B0 n c : Nat} {A : Option Addr} {ss : List ByteArray} {F : Nat → Prop} (hF : ∀ ad, A = some ad → ad.block < B0 ∨ F ad.block) : St B0 F (fun w => RowS w w.heap.size (.slice A n c) ss) := fun w w' hs hb h => by
  obtain ⟨A', c', e, h1, h2, h3⟩ := h
  injection e with e1 e2 e3
  subst e1 e2 e3
  exact ⟨A, c, rfl, h1, h2, ⟨(Rd.st hF) w w' hs hb h3.rd, h3.small⟩⟩
theorem RowS.of_at {w : World} {B : Nat} {v : Value} {ss : List ByteArray} (h : RowAt w B v ss) : RowS w B v ss := by
  obtain ⟨ad, rfl, h1, h2⟩ := h
  exact ⟨some ad, ss.length, rfl, Nat.le_refl _, Nat.le_trans h1 (by decide), h2⟩
theorem RowS.grown {w w' : World} {v : Value} {ss : List ByteArray} (hg : w.grownBy w' none) (h : RowS w w.heap.size v ss) : RowS w' w'.heap.size v ss := by
  obtain ⟨A, c, e, h1, h2, h3⟩ := h
  exact ⟨A, c, e, h1, h2, h3.grownN hg⟩
theorem all2_two {R : Value → List ByteArray → Prop} {a b : Value} {x y : List ByteArray} : (R a x ∧ R b y) ↔ All2 R [a, b] [x, y] := by
  constructor
  · rintro ⟨h1, h2⟩
    exact .cons h1 (.cons h2 .nil)
  · intro h
    cases h with
    | cons h1 h =>
      cases h with
      | cons h2 _ => exact ⟨h1, h2⟩
theorem nest_two {V : World} {base : Nat} {t : TypeId} {A1 A2 : Option Addr} {n1 c1 n2 c2 : Nat} {s1 s2 : List ByteArray} (hb : base ≤ V.heap.size) (r1 : RowS V V.heap.size (.slice A1 n1 c1) s1) (r2 : RowS V V.heap.size (.slice A2 n2 c2) s2)
    (f1 : ∀ ad, A1 = some ad → base ≤ ad.block ∧ ad.block < V.heap.size) (f2 : ∀ ad, A2 = some ad → base ≤ ad.block ∧ ad.block < V.heap.size) :
    Nest (V.alloc (.cells #[.slice A1 n1 c1, .slice A2 n2 c2] t)) base t 1 (some ⟨V.heap.size, 0, none⟩) 2 2 [.slice A1 n1 c1, .slice A2 n2 c2] base (fun b => (∃ ad, A1 = some ad ∧ b = ad.block) ∨ (∃ ad, A2 = some ad ∧ b = ad.block)) (fun W => All2 (RowS W W.heap.size) [.slice A1 n1 c1, .slice A2 n2 c2] [s1, s2]) := by
  have ho : Go.Adm.Own (V.alloc (.cells #[.slice A1 n1 c1, .slice A2 n2 c2] t)) base t 1 (some ⟨V.heap.size, 0, none⟩) 2 2 [.slice A1 n1 c1, .slice A2 n2 c2] := Go.Adm.Own.lit (size := 1) V #[.slice A1 n1 c1, .slice A2 n2 c2] 2 hb (by decide) rfl
  have hst := (RowS.st (B0 := base) (n := n1) (c := c1) (A := A1) (ss := s1) (F := fun b => ∃ ad, A1 = some ad ∧ b = ad.block) (fun ad e => .inr ⟨ad, e, rfl⟩)).and (RowS.st (B0 := base) (n := n2) (c := c2) (A := A2) (ss := s2) (F := fun b => ∃ ad, A2 = some ad ∧ b = ad.block) (fun ad e => .inr ⟨ad, e, rfl⟩))
  refine (Nest.of ho (In := fun W => RowS W W.heap.size (.slice A1 n1 c1) s1 ∧ RowS W W.heap.size (.slice A2 n2 c2) s2) ⟨r1.grown (grown_alloc _ _), r2.grown (grown_alloc _ _)⟩ hst ?_).as fun W => all2_two
  intro b hb
  rcases hb with ⟨ad, e, rfl⟩ | ⟨ad, e, rfl⟩
  · have := f1 ad e
    exact ⟨this.1, by simp; omega, by intro h; simp [Value.ownBlock] at h; omega⟩
  · have := f2 ad e
    exact ⟨this.1, by simp; omega, by intro h; simp [Value.ownBlock] at h; omega⟩
theorem Lines_ofS {w : World} {B n : Nat} {A : Option Addr} {vs : List Value} {ls : List (List ByteArray)} (h : Rd w B 1 A n vs) (ha : All2 (RowS w B) vs ls) (hn : n ≤ 140737488355328) : Lines w B A n ls := by
  have hl := h.len
  have hl2 := ha.len
  refine ⟨by omega, hn, vs, h, fun k hk => ?_⟩
  obtain ⟨v, hv, A', c, rfl, h1, h2, h3⟩ := ha.at_ hk
  exact ⟨A', c, hv, h1, h2, h3⟩
/-- a row that the call made -/
def RowF (base : Nat) (ss : List ByteArray) (W : World) (v : Value) : Prop := ∃ A c, v = .slice A ss.length c ∧ RowS W W.heap.size v ss ∧ ∀ ad, A = some ad → base ≤ ad.block ∧ ad.block < W.heap.size
theorem RowF.grown {base : Nat} {ss : List ByteArray} {w w' : World} {v : Value} (hg : w.grownBy w' none) (h : RowF base ss w v) : RowF base ss w' v := by
  obtain ⟨A, c, rfl, ⟨A', c', e, h1, h2, h3⟩, h4⟩ := h
  exact ⟨A, c, rfl, ⟨A', c', e, h1, h2, h3.grownN hg⟩, fun ad e => ⟨(h4 ad e).1, Nat.lt_of_lt_of_le (h4 ad e).2 hg.size⟩⟩
end Go.AdR
namespace Go.Adm
open Go Go.RowKit Go.AdR
def VF.rowF (base : Nat) (ss : List ByteArray) : VF := .gen (RowF base ss) fun _ _ _ hg h => h.grown hg
def VF.lit1 (base : Nat) (e : TypeId) (xs : List Value) : VF := .gen (fun W v => base ≤ W.heap.size ∧ ∃ ad, v = .slice (some ad) 1 1 ∧ Own W base e 1 (some ad) 1 1 xs) fun _ _ _ hg ⟨hb, ad, h1, h2⟩ => ⟨Nat.le_trans hb hg.size, ad, h1, Own.step hg h2 (by simp)⟩
end Go.Adm
namespace Go.Proofs.YtjdinakdkdjocaaGreatDoor
open Go Go.RowKit Go.Adm Go.AdR
theorem el_strR : ElemOf Tryz.prog 27 9 (.string ByteArray.empty) 1 16 := ElemOf.mk' Tryz.underlying27 (by kernel_rfl) rfl (by decide) (by decide)
def envLn (x : Var) : List ByteArray := [(⟨#[101, 110, 118]⟩ : ByteArray), x.n, x.v]
/-- the document of a record -/
def recLs (x : Rec) : List (List ByteArray) := [[(⟨#[114, 101, 99, 111, 114, 100]⟩ : ByteArray), x.run, x.scope, x.step, ⟨(Lib.itoa x.t).toArray⟩], (⟨#[99, 111, 109, 109, 97, 110, 100]⟩ : ByteArray) :: x.cmd] ++ x.env.map envLn ++ entLs ⟨#[109, 97, 116, 101, 114, 105, 97, 108]⟩ x.mat ++ entLs ⟨#[112, 114, 111, 100, 117, 99, 116]⟩ x.prod
def RecPost (x : Rec) (w : World) (e : Ending) (w' : World) : Prop := ∃ a b, e = .returned (.tuple #[a, b]) ∧ Below w.heap.size w w' ∧ (recB x = true → EncV 5 w.heap.size (recLs x) w' a b) ∧ (recB x = false → a = .slice none 0 0 ∧ b = .int .i64 1)
theorem rowAt_one {w : World} {B : Nat} {vs : List Value} {ls : List (List ByteArray)} (h : All2 (RowAt w B) vs ls) : ∀ u ∈ vs, u.oneCell' = true := by
  induction h with
  | nil => intro u hu; cases hu
  | cons h1 _ ih =>
    intro u hu
    rcases List.mem_cons.1 hu with e | e
    · obtain ⟨ad, h2, _⟩ := h1
      rw [e, h2]; rfl
    · exact ih u e
theorem st_zero {F : Nat → Prop} {In : World → Prop} {B0 : Nat} (h : St 0 F In) : St B0 F In := fun w w' hs hb hi => h w w' hs (fun b hb' hlt => hb b (hb'.elim (fun h => absurd h (Nat.not_lt_zero _)) .inr) hlt) hi
theorem apartE {W w : World} {n c B en mn pn gx : Nat} {t1 t2 : TypeId} {A0 eA mA pA : Option Addr} {vs cs : List Value} {F : Nat → Prop} {In : World → Prop} {le lm lp : List (List Value)} (h : Nest W (w.heap.size + 1) t1 1 A0 n c vs (w.heap.size + 1) F In) (hg : gx = W.heap.size) (hw : w.heap.size < W.heap.size) (hB : B ≤ W.heap.size) :
    Apart (some gx) [.nest (w.heap.size + 1) t1 1 A0 n c vs (w.heap.size + 1) F In, .cells w.heap.size t2 cs, .low (.els B 2 eA en le), .low (.els B 33 mA mn lm), .low (.els B 33 pA pn lp), .kept w w.heap.size] := by
  refine ⟨Nest.apart_new h (by omega) hg, ?_, fun g e => ?_, fun g e => ?_, fun g e => ?_, fun g e => ?_, trivial⟩
  · simp [Res.apart]; omega
  all_goals (injection e with e; subst e; first | (show B ≤ gx; omega) | omega)
theorem cell_allR {w : World} {g : Nat} {t : TypeId} {cs : List Value} (h : Cells w g t cs) : ∀ j u, cs[j]? = some u → w.cell? ((⟨g, 0, none⟩ : Addr).add j) = some u := by
  intro j u hu
  rw [show (⟨g, 0, none⟩ : Addr).add j = ⟨g, j, none⟩ from by simp [Addr.add]; omega]
  exact cell_of h hu
theorem rowF_app {W : World} {base m c : Nat} {A : Option Addr} {l : List ByteArray} (hm : l.length = m) (hs : ∀ s ∈ l, s.size ≤ 140737488355328) (h : Go.Adm.Own W base 9 1 A (1 + m) c ([.string (⟨#[99, 111, 109, 109, 97, 110, 100]⟩ : ByteArray)] ++ l.map sv)) : RowF base ((⟨#[99, 111, 109, 109, 97, 110, 100]⟩ : ByteArray) :: l) W (.slice A (1 + m) c) := by
  have hl : ((⟨#[99, 111, 109, 109, 97, 110, 100]⟩ : ByteArray) :: l : List ByteArray).length = 1 + m := by rw [List.length_cons, hm]; omega
  refine ⟨A, c, by rw [hl], ⟨A, c, by rw [hl], by rw [hl]; exact (Go.Adm.Own.cap h).1, (Go.Adm.Own.cap h).2, ⟨by rw [hl]; exact Go.Adm.Own.rd h, ?_⟩⟩, fun ad e => ?_⟩
  · intro s hs'
    rcases List.mem_cons.1 hs' with h1 | h1
    · rw [h1]; decide
    · exact hs s h1
  · subst e
    exact Go.Adm.Own.lt h rfl
set_option maxHeartbeats 12800000 in
theorem recEncode_any (w : World) (B : Nat) (x : Rec) (sc se sm sp : Sl) (h : RecIn w B x sc se sm sp) (ho : RecOk x) (hB : B ≤ w.heap.size) (h0 : -9223372036854775808 ≤ x.t) (h1 : x.t ≤ 9223372036854775807) (m : Int) (hm : w.cell? ⟨0, 0, none⟩ = some (.int .i64 m)) (ht : Lib.TabIs Tryz.prog w "internal/strconv.uint64pow10" .u64 Lib.pow10Tab) :
    Calls Tryz.prog 12 #[.agg (recC x sc se sm sp).toArray] w (RecPost x w) := by
  have hgm : 0 < w.heap.size := World.block_lt_of_cell? w _ hm
  have hR : All w [.low (Go.AdR.Low.recd B x sc se sm sp), .kept w w.heap.size] := ⟨⟨h, hB⟩, ⟨Below.refl _ _, Nat.le_refl _⟩, trivial⟩
  have HT : Hid (∀ W, Below w.heap.size w W → Lib.TabIs Tryz.prog W "internal/strconv.uint64pow10" .u64 Lib.pow10Tab) := Lib.hid (fun W hb => tab_keep ht hb)
  have H0 := Lib.hid h0
  have H1 := Lib.hid h1
  have HO := Lib.hid ho
  have HNC : Hid (x.cmd.length = sc.n) := Lib.hid h.cmd.len
  have HNC2 : Hid (sc.n ≤ 1000000) := Lib.hid (by rw [← h.cmd.len]; exact ho.ncmd)
  have HSC : Hid (∀ s ∈ x.cmd, s.size ≤ 140737488355328) := Lib.hid h.cmd.small
  have HV := Lib.hid (fun (W : World) (hb : Below w.heap.size w W) (hr : RecIn W B x sc se sm sp) => recValid_any W B x sc se sm sp hr ho (Nat.le_trans hB hb.size) m ((hb.cell hgm).trans hm))
  have HS : Hid (∀ s ∈ [(⟨#[114, 101, 99, 111, 114, 100]⟩ : ByteArray), x.run, x.scope, x.step, ⟨(Lib.itoa x.t).toArray⟩], s.size ≤ 140737488355328) := Lib.hid (by
    intro s hs
    simp only [List.mem_cons, List.mem_nil_iff, or_false] at hs
    rcases hs with rfl | rfl | rfl | rfl | rfl
    · decide
    · exact ho.run
    · exact Nat.le_trans ho.scope (by decide)
    · exact ho.step
    · show (Lib.itoa x.t).toArray.size ≤ _
      rw [List.size_toArray]
      have := Lib.itoa_length_le x.t h0 h1
      omega)
  have HCL : Hid ((recC x sc se sm sp).length = 8) := Lib.hid rfl
  have HBB := Lib.hid hB
  clear h ho hB h0 h1 hm ht
  go_enter Tryz.func12, Tryz.ntmps12
  go_upto_region 1 with (fail)
  refine wp_gen (hR.new (l := recC x sc se sm sp) _ 31 rfl rfl) ?_
  intro W hW
  have HVW := Lib.hid (HV.out W (hW.at_ 2 rfl : _ ∧ _).1 (hW.at_ 1 rfl : _ ∧ _).1)
  clear hR HV
  cases hv : recB x with
  | false =>
    rw [hv] at HVW
    have HB := Lib.hid hv
    clear hv
    go_wp2_with (first | (refine wl_load_any rfl 31 (.tmp 1) rfl ⟨w.heap.size, 0, none⟩ rfl (recC x sc se sm sp) _ (cell_allR (hW.at_ 0 rfl)) Tryz.underlying31 rfl (by rw [HCL.out]; kernel_rfl) ?_) | (go_at_call 25; refine HVW.out.mono ?_; rintro e w' ⟨rfl, hb'⟩; have hW2 := hW.call hb'))
    go_ret2
    exact ⟨_, _, rfl, (hW2.at_ 2 rfl : _ ∧ _).1, fun h => by rw [HB.out] at h; (cases h), fun _ => ⟨rfl, rfl⟩⟩
  | true =>
    rw [hv] at HVW
    have HB := Lib.hid hv
    clear hv
    go_upto_region 3 with (first | (refine wl_load_any rfl 31 (.tmp 1) rfl ⟨w.heap.size, 0, none⟩ rfl (recC x sc se sm sp) _ (cell_allR (hW.at_ 0 rfl)) Tryz.underlying31 rfl (by rw [HCL.out]; kernel_rfl) ?_) | (go_at_call 25; refine HVW.out.mono ?_; rintro e w' ⟨rfl, hb'⟩; have hW2 := hW.call hb'))
    clear hW hb' HVW
    obtain ⟨sn, hsn⟩ : ∃ s : ByteArray, s = ⟨(Lib.itoa x.t).toArray⟩ := ⟨_, rfl⟩
    rw [← hsn] at HS
    have HSN := Lib.hid hsn
    clear hsn
    refine wp_region_hops 14 [10, 11, 12, 13, 14, 15, 16, 17, 18, 19, 20, 21, 22, 23] _
      [.eq (.pointer (some ⟨w.heap.size, 0, none⟩)), .eq (.string x.run), .eq (.pointer (some ⟨w.heap.size, 1, none⟩)), .eq (.string x.scope), .eq (.pointer (some ⟨w.heap.size, 2, none⟩)), .eq (.string x.step), .eq (.pointer (some ⟨w.heap.size, 3, none⟩)), .eq (.int .i64 x.t), .eq (.string sn), .rowF (w.heap.size + 1) [(⟨#[114, 101, 99, 111, 114, 100]⟩ : ByteArray), x.run, x.scope, x.step, sn], .lit1 (w.heap.size + 1) 9 [.string (⟨#[99, 111, 109, 109, 97, 110, 100]⟩ : ByteArray)], .eq (.pointer (some ⟨w.heap.size, 4, none⟩)), .eq (.slice sc.A sc.n sc.c), .rowF (w.heap.size + 1) ((⟨#[99, 111, 109, 109, 97, 110, 100]⟩ : ByteArray) :: x.cmd)]
      (by kernel_rfl) (by kernel_rfl) hW2 rfl ?hops ?fin
    case hops =>
      refine ⟨?_, ?_, ?_, ?_, ?_, ?_, ?_, ?_, ?_, ?_, ?_, ?_, ?_, ?_, trivial⟩
      · intro a' W hW hb hd K hK
        have b1 := hb 1 rfl
        go_simp
        exact hK _ _ (World.grownBy.refl _ _) rfl
      · intro a' W hW hb hd K hK
        have b10 : a'.tmps[10]?.getD undef = _ := hd ⟨0, .data⟩ (by simp) rfl
        have cc := cell_of (hW.at_ 0 rfl) (i := 0) rfl
        go_simp
        exact hK _ _ (World.grownBy.refl _ _) rfl
      · intro a' W hW hb hd K hK
        have b1 := hb 1 rfl
        go_simp
        exact hK _ _ (World.grownBy.refl _ _) rfl
      · intro a' W hW hb hd K hK
        have b12 : a'.tmps[12]?.getD undef = _ := hd ⟨2, .data⟩ (by simp) rfl
        have cc := cell_of (hW.at_ 0 rfl) (i := 1) rfl
        go_simp
        exact hK _ _ (World.grownBy.refl _ _) rfl
      · intro a' W hW hb hd K hK
        have b1 := hb 1 rfl
        go_simp
        exact hK _ _ (World.grownBy.refl _ _) rfl
      · intro a' W hW hb hd K hK
        have b14 : a'.tmps[14]?.getD undef = _ := hd ⟨4, .data⟩ (by simp) rfl
        have cc := cell_of (hW.at_ 0 rfl) (i := 2) rfl
        go_simp
        exact hK _ _ (World.grownBy.refl _ _) rfl
      · intro a' W hW hb hd K hK
        have b1 := hb 1 rfl
        go_simp
        exact hK _ _ (World.grownBy.refl _ _) rfl
      · intro a' W hW hb hd K hK
        have b16 : a'.tmps[16]?.getD undef = _ := hd ⟨6, .data⟩ (by simp) rfl
        have cc := cell_of (hW.at_ 0 rfl) (i := 3) rfl
        go_simp
        exact hK _ _ (World.grownBy.refl _ _) rfl
      · intro a' W hW hb hd K hK
        have b17 : a'.tmps[17]?.getD undef = _ := hd ⟨7, .data⟩ (by simp) rfl
        go_simp
        refine (Number_any x.t H0.out H1.out W (HT.out W (hW.at_ 2 rfl : _ ∧ _).1)).mono ?_
        rintro e w' ⟨rfl, hb'⟩
        exact hK _ _ (grown_of_below hb') (congrArg Value.string HSN.out.symm)
      · intro a' W hW hb hd K hK
        have b11 : a'.tmps[11]?.getD undef = _ := hd ⟨1, .data⟩ (by simp) rfl
        have b13 : a'.tmps[13]?.getD undef = _ := hd ⟨3, .data⟩ (by simp) rfl
        have b15 : a'.tmps[15]?.getD undef = _ := hd ⟨5, .data⟩ (by simp) rfl
        have b18 : a'.tmps[18]?.getD undef = _ := hd ⟨8, .data⟩ (by simp) rfl
        have hl := Cells.lt (hW.at_ 0 rfl)
        go_simp
        exact hK _ _ (grown_alloc _ _) ⟨_, _, rfl, ⟨_, _, rfl, Nat.le_refl _, (by show 5 ≤ maxLen; decide), ⟨(Rd.lit W #[.string (⟨#[114, 101, 99, 111, 114, 100]⟩ : ByteArray), .string x.run, .string x.scope, .string x.step, .string sn] _ 5 rfl).mono (by simp), HS.out⟩⟩, fun ad e => by injection e with e; subst e; exact ⟨by show w.heap.size + 1 ≤ W.heap.size; omega, by simp⟩⟩
      · intro a' W hW hb hd K hK
        have hl := Cells.lt (hW.at_ 0 rfl)
        go_simp
        exact hK _ _ (grown_alloc _ _) ⟨by simp; omega, _, rfl, Go.Adm.Own.lit W _ 1 (by omega) (by decide) rfl⟩
      · intro a' W hW hb hd K hK
        have b1 := hb 1 rfl
        go_simp
        exact hK _ _ (World.grownBy.refl _ _) rfl
      · intro a' W hW hb hd K hK
        have b21 : a'.tmps[21]?.getD undef = _ := hd ⟨11, .data⟩ (by simp) rfl
        have cc := cell_of (hW.at_ 0 rfl) (i := 4) rfl
        go_simp
        exact hK _ _ (World.grownBy.refl _ _) rfl
      · intro a' W hW hb hd K hK
        have b22 : a'.tmps[22]?.getD undef = _ := hd ⟨12, .data⟩ (by simp) rfl
        obtain ⟨hbs, ad, b20, hown⟩ : w.heap.size + 1 ≤ W.heap.size ∧ ∃ ad, a'.tmps[20]?.getD undef = .slice (some ad) 1 1 ∧ Go.Adm.Own W (w.heap.size + 1) 9 1 (some ad) 1 1 [.string (⟨#[99, 111, 109, 109, 97, 110, 100]⟩ : ByteArray)] := hd ⟨10, .data⟩ (by simp) rfl
        have hin := (hW.at_ 1 rfl : _ ∧ B ≤ W.heap.size)
        refine wp_app_full el_strR (.tmp 20) (.tmp 22) rfl (w.heap.size + 1) ad 1 [.string (⟨#[99, 111, 109, 109, 97, 110, 100]⟩ : ByteArray)] (show a'.eval (.tmp 20) = _ from by simp only [Act.eval, Array.getD_eq_getD_getElem?]; exact b20) hown sc.A sc.n sc.c (x.cmd.map sv) (show a'.eval (.tmp 22) = _ from by simp only [Act.eval, Array.getD_eq_getD_getElem?]; exact b22) (hin.1.cmd.rd.mono hin.2) (by have := HNC2.out; omega) hbs ?_
        intro A4 c4 w4 ho4 hg4
        exact hK _ _ hg4 (rowF_app HNC.out HSC.out ho4)
    case fin =>
      intro vs V hV hv
      have e9 : RowF (w.heap.size + 1) [(⟨#[114, 101, 99, 111, 114, 100]⟩ : ByteArray), x.run, x.scope, x.step, sn] V (vs 9) := hv 9 (by decide)
      have e13 : RowF (w.heap.size + 1) ((⟨#[99, 111, 109, 109, 97, 110, 100]⟩ : ByteArray) :: x.cmd) V (vs 13) := hv 13 (by decide)
      clear hv hW2
      obtain ⟨A9, c9, h9, r9, f9⟩ := e9
      obtain ⟨A13, c13, h13, r13, f13⟩ := e13
      rw [h9] at r9
      rw [h13] at r13
      have hl9 : ([(⟨#[114, 101, 99, 111, 114, 100]⟩ : ByteArray), x.run, x.scope, x.step, sn] : List ByteArray).length = 5 := rfl
      obtain ⟨q, hq⟩ : ∃ q, q = ((⟨#[99, 111, 109, 109, 97, 110, 100]⟩ : ByteArray) :: x.cmd : List ByteArray).length := ⟨_, rfl⟩
      rw [hl9] at h9 r9
      rw [← hq] at h13 r13
      have HQ := Lib.hid hq
      clear hq
      simp only [putAll, Nat.zero_add, Nat.reduceAdd, List.drop_succ_cons, List.drop_zero, h9, h13, Act.put, List.setIfInBounds_toArray, List.set_cons_succ, List.set_cons_zero]
      clear h9 h13
      have hsV : w.heap.size + 1 ≤ V.heap.size := Cells.lt (hV.at_ 0 rfl)
      have hN := nest_two (V := V) (base := w.heap.size + 1) (t := 27) (A1 := A9) (n1 := 5) (c1 := c9) (A2 := A13) (n2 := q) (c2 := c13) (s1 := [(⟨#[114, 101, 99, 111, 114, 100]⟩ : ByteArray), x.run, x.scope, x.step, sn]) (s2 := (⟨#[99, 111, 109, 109, 97, 110, 100]⟩ : ByteArray) :: x.cmd) hsV r9 r13 f9 f13
      have hV1 := (hV.alloc (.cells #[.slice A9 5 c9, .slice A13 q c13] 27)).cons (r := .nest (w.heap.size + 1) 27 1 (some ⟨V.heap.size, 0, none⟩) 2 2 [.slice A9 5 c9, .slice A13 q c13] (w.heap.size + 1) (fun b => (∃ ad, A9 = some ad ∧ b = ad.block) ∨ (∃ ad, A13 = some ad ∧ b = ad.block)) (fun W => All2 (RowS W W.heap.size) [.slice A9 5 c9, .slice A13 q c13] [[(⟨#[114, 101, 99, 111, 114, 100]⟩ : ByteArray), x.run, x.scope, x.step, sn], (⟨#[99, 111, 109, 109, 97, 110, 100]⟩ : ByteArray) :: x.cmd])) hN
      clear hN hV r9 r13 f9 f13
      go_upto_region 4 with (fail)
      refine wp_gen hV1 ?_
      intro U hU
      clear hV1
      obtain ⟨g0, hg0⟩ : ∃ g, g = V.heap.size := ⟨_, rfl⟩
      rw [← hg0] at hU hsV ⊢
      clear hg0
      have hrec := (hU.at_ 2 rfl : RecIn U B x sc se sm sp ∧ B ≤ U.heap.size)
      have hU2 : All U [.nest (w.heap.size + 1) 27 1 (some ⟨g0, 0, none⟩) 2 2 [.slice A9 5 c9, .slice A13 q c13] (w.heap.size + 1) (fun b => (∃ ad, A9 = some ad ∧ b = ad.block) ∨ (∃ ad, A13 = some ad ∧ b = ad.block)) (fun W => All2 (RowS W W.heap.size) [.slice A9 5 c9, .slice A13 q c13] ([[(⟨#[114, 101, 99, 111, 114, 100]⟩ : ByteArray), x.run, x.scope, x.step, sn], (⟨#[99, 111, 109, 109, 97, 110, 100]⟩ : ByteArray) :: x.cmd] ++ (x.env.take 0).map envLn)), .cells w.heap.size 31 [.string x.run, .string x.scope, .string x.step, .int .i64 x.t, .slice sc.A sc.n sc.c, .slice se.A se.n se.c, .slice sm.A sm.n sm.c, .slice sp.A sp.n sp.c], .low (.els B 2 se.A se.n (x.env.map varC)), .low (.els B 33 sm.A sm.n (x.mat.map entC)), .low (.els B 33 sp.A sp.n (x.prod.map entC)), .kept w w.heap.size] := ⟨hU.1, hU.2.1, ⟨hrec.1.env, hrec.2⟩, ⟨hrec.1.mat, hrec.2⟩, ⟨hrec.1.prod, hrec.2⟩, hU.2.2.2⟩
      have HNE : Hid (x.env.length = se.n) := Lib.hid (by have := hrec.1.env.len; simpa using this)
      have HNM : Hid (x.mat.length = sm.n) := Lib.hid (by have := hrec.1.mat.len; simpa using this)
      have HNP : Hid (x.prod.length = sp.n) := Lib.hid (by have := hrec.1.prod.len; simpa using this)
      have hne6 : se.n ≤ 1000000 := by rw [← HNE.out]; exact HO.out.nenv
      clear hU hrec HT HSC HS HCL
      generalize se.A = eA at *
      generalize se.n = en at *
      generalize se.c = ec at *
      generalize sm.A = mA at *
      generalize sm.n = mn at *
      generalize sm.c = mc at *
      generalize sp.A = pA at *
      generalize sp.n = pn at *
      generalize sp.c = pc at *
      have c5 := cell_of (hU2.at_ 1 rfl) (i := 5) rfl
      have hzr := zero_var
      go_wp2_with fail
      clear c5
      go_loopw [4, 28] (fun v i wr => ∃ (k : Nat) (A' : Option Addr) (c' : Nat) (vs : List Value) (F : Nat → Prop), k ≤ en ∧ i = .int .i64 k ∧ v = .slice A' (2 + k) c' ∧ All wr [.nest (w.heap.size + 1) 27 1 A' (2 + k) c' vs (w.heap.size + 1) F (fun W => All2 (RowS W W.heap.size) vs ([[(⟨#[114, 101, 99, 111, 114, 100]⟩ : ByteArray), x.run, x.scope, x.step, sn], (⟨#[99, 111, 109, 109, 97, 110, 100]⟩ : ByteArray) :: x.cmd] ++ (x.env.take k).map envLn)), .cells w.heap.size 31 [.string x.run, .string x.scope, .string x.step, .int .i64 x.t, .slice sc.A sc.n sc.c, .slice eA en ec, .slice mA mn mc, .slice pA pn pc], .low (.els B 2 eA en (x.env.map varC)), .low (.els B 33 mA mn (x.mat.map entC)), .low (.els B 33 pA pn (x.prod.map entC)), .kept w w.heap.size]) (fun _ i _ => en - (intOf i).toNat)
      case atStart => exact ⟨0, _, _, _, _, by omega, rfl, rfl, hU2⟩
      case round =>
        clear hU2
        obtain ⟨k, A', c', vs, F, hk, rfl, rfl, hI⟩ := hrel
        by_cases hlt : k < en
        · have hkl : k < x.env.length := by rw [HNE.out]; exact hlt
          obtain ⟨ad, hA', hadB, hc⟩ := Els.at_ (hI.at_ 2 rfl : Els wr B 2 eA en (x.env.map varC) ∧ B ≤ wr.heap.size).1 (k := k) (by rw [List.length_map]; exact hkl)
          subst hA'
          rw [List.getElem_map] at hc
          have HC := Lib.hid hc
          have hy := Lib.hid (HO.out.env _ (List.getElem_mem hkl))
          have HT : Hid ((x.env.take (k + 1)).map envLn = (x.env.take k).map envLn ++ [envLn x.env[k]]) := Lib.hid (by rw [List.take_succ_eq_append_getElem hkl, List.map_append]; rfl)
          clear hc
          generalize x.env[k] = y at *
          have d1 : decide ((k : Int) < (en : Int)) = true := by simp; omega
          have hsz : w.heap.size ≤ wr.heap.size := hI.size_kept 5 rfl
          have hcl := Cells.lt (hI.at_ 1 rfl)
          obtain ⟨gx, hgx⟩ : ∃ gx, gx = wr.heap.size := ⟨_, rfl⟩
          have hBw := (hI.at_ 2 rfl : _ ∧ B ≤ wr.heap.size).2
          have hap := apartE (t2 := 31) (cs := [.string x.run, .string x.scope, .string x.step, .int .i64 x.t, .slice sc.A sc.n sc.c, .slice (some ad) en ec, .slice mA mn mc, .slice pA pn pc]) (eA := some ad) (mA := mA) (pA := pA) (en := en) (mn := mn) (pn := pn) (le := x.env.map varC) (lm := x.mat.map entC) (lp := x.prod.map entC) (hI.at_ 0 rfl : Nest wr (w.heap.size + 1) 27 1 A' (2 + k) c' vs (w.heap.size + 1) F (fun W => All2 (RowS W W.heap.size) vs ([[(⟨#[114, 101, 99, 111, 114, 100]⟩ : ByteArray), x.run, x.scope, x.step, sn], (⟨#[99, 111, 109, 109, 97, 110, 100]⟩ : ByteArray) :: x.cmd] ++ (x.env.take k).map envLn))) hgx hcl hBw
          go_upto_region 7 with (first
            | (refine wl_load_any rfl 49 (.tmp 30) rfl (ad.add (k * 2)) rfl (varC y) _ HC.out Tryz.underlying49 rfl (by kernel_rfl) ?_)
            | (refine wl_store_at (hI.new (l := varZ) _ 49 hgx rfl) 0 rfl 49 (.tmp 6) (.tmp 31) rfl gx _ _ (varC y) rfl (by rw [hgx]; rfl) rfl rfl (by kernel_rfl) (varC_one y) hap ?_; intro W2 hW2 hs2; simp only [List.set_cons_zero] at hW2))
          simp only [← hgx]
          have hgx2 : w.heap.size + 1 ≤ gx := by omega
          have hsW : W2.heap.size = gx + 1 := by rw [hs2, hgx]; simp
          clear hs2
          have q0 : W2.cell? ⟨gx, 0, none⟩ = some (.string y.n) := cell_of (hW2.at_ 0 rfl) (i := 0) rfl
          have q1 : W2.cell? ⟨gx, 1, none⟩ = some (.string y.v) := cell_of (hW2.at_ 0 rfl) (i := 1) rfl
          have hown := Lib.hid (fun g (e : (Value.slice A' (2 + k) c').ownBlock = some g) => (show g < gx from by have := ((hI.at_ 0 rfl : Nest wr (w.heap.size + 1) 27 1 A' (2 + k) c' vs (w.heap.size + 1) F (fun W => All2 (RowS W W.heap.size) vs ([[(⟨#[114, 101, 99, 111, 114, 100]⟩ : ByteArray), x.run, x.scope, x.step, sn], (⟨#[99, 111, 109, 109, 97, 110, 100]⟩ : ByteArray) :: x.cmd] ++ (x.env.take k).map envLn))).own.lt e).2; omega))
          have hB0 := HBB.out
          clear hap hgx hI hBw hsz hcl
          obtain ⟨W3, hW3⟩ : ∃ W3, W3 = (W2.alloc (.cells #[.string (⟨#[101, 110, 118]⟩ : ByteArray), .string y.n, .string y.v] 9)).alloc (.cells #[.slice (some ⟨gx + 1, 0, none⟩) 3 3] 27) := ⟨_, rfl⟩
          have hs3 : W3.heap.size = gx + 3 := by rw [hW3]; simp [hsW]
          have hRd : Rd W3 W3.heap.size 1 (some ⟨gx + 1 + 1, 0, none⟩) 1 [.slice (some ⟨gx + 1, 0, none⟩) 3 3] := by
            have h := Rd.lit (size := 1) (W2.alloc (.cells #[.string (⟨#[101, 110, 118]⟩ : ByteArray), .string y.n, .string y.v] 9)) #[.slice (some ⟨gx + 1, 0, none⟩) 3 3] 27 1 rfl
            rw [show (W2.alloc (.cells #[.string (⟨#[101, 110, 118]⟩ : ByteArray), .string y.n, .string y.v] 9)).heap.size = gx + 1 + 1 from by simp [hsW]] at h
            rw [hW3]
            exact h.mono (by simp [hsW])
          have hrow : RowS W3 W3.heap.size (.slice (some ⟨gx + 1, 0, none⟩) 3 3) (envLn y) := by
            refine ⟨_, _, rfl, Nat.le_refl _, (by show 3 ≤ maxLen; decide), ?_⟩
            have h := (Rd.lit (size := 1) W2 #[.string (⟨#[101, 110, 118]⟩ : ByteArray), .string y.n, .string y.v] 9 3 rfl).mono (B' := (W2.alloc (.cells #[.string (⟨#[101, 110, 118]⟩ : ByteArray), .string y.n, .string y.v] 9)).heap.size) (by simp)
            rw [hsW] at h
            rw [hW3]
            refine Strs.grownN (grown_alloc _ _) ⟨h, ?_⟩
            intro s hs
            simp only [envLn, List.mem_cons, List.mem_nil_iff, or_false] at hs
            rcases hs with rfl | rfl | rfl
            · decide
            · exact hy.out.1
            · exact hy.out.2
          have hA3 : All W3 [.cells gx 49 (varC y), .nest (w.heap.size + 1) 27 1 A' (2 + k) c' vs (w.heap.size + 1) F (fun W => All2 (RowS W W.heap.size) vs ([[(⟨#[114, 101, 99, 111, 114, 100]⟩ : ByteArray), x.run, x.scope, x.step, sn], (⟨#[99, 111, 109, 109, 97, 110, 100]⟩ : ByteArray) :: x.cmd] ++ (x.env.take k).map envLn)), .cells w.heap.size 31 [.string x.run, .string x.scope, .string x.step, .int .i64 x.t, .slice sc.A sc.n sc.c, .slice (some ad) en ec, .slice mA mn mc, .slice pA pn pc], .low (.els B 2 (some ad) en (x.env.map varC)), .low (.els B 33 mA mn (x.mat.map entC)), .low (.els B 33 pA pn (x.prod.map entC)), .kept w w.heap.size] := by
            rw [hW3]
            exact (hW2.alloc _).alloc _
          clear hW2
          go_wp2_with (rw [← hW3]; clear hW3 q0 q1 hsW; refine wl_app_nest el_line hA3 1 rfl (.tmp 32) (.tmp 38) rfl (w.heap.size + 1) A' (2 + k) c' vs (w.heap.size + 1) F _ rfl rfl W3.heap.size _ 1 _ [.slice (some ⟨gx + 1, 0, none⟩) 3 3] rfl hRd (by intro u hu; simp only [List.mem_singleton] at hu; subst hu; rfl) (by omega) (by omega) (Nat.le_refl _) (fun b => b = gx + 1) (fun W => RowS W W.heap.size (.slice (some ⟨gx + 1, 0, none⟩) 3 3) (envLn y)) hrow (RowS.st (fun ad' e => .inr (by injection e with e; subst e; rfl))) (fun b hb => by subst hb; exact ⟨by omega, by omega, fun e => by have := hown.out _ e; omega⟩) (by intro g hg he; have := hown.out _ he; simp [Apart, Res.apart, Low.els] <;> omega) ?_; intro A7 c7 w7 hI7 hs7)
          go_wp2
          refine ⟨⟨k + 1, A7, c7, vs ++ [.slice (some ⟨gx + 1, 0, none⟩) 3 3], (fun b => F b ∨ b = gx + 1), by omega, by go_num, rfl, ?_⟩, by simp [intOf]; omega⟩
          refine ⟨Nest.as (hI7.at_ 1 rfl) (fun W' => ?_), hI7.2.2⟩
          rw [HT.out, ← List.append_assoc]
          exact All2.snoc.symm
        · obtain rfl : k = en := by omega
          have d1 : decide ((k : Int) < (k : Int)) = false := by simp
          rw [List.take_of_length_le (by rw [HNE.out]; exact Nat.le_refl _)] at hI
          have c6 := cell_of (hI.at_ 1 rfl) (i := 6) rfl
          have hB0 := HBB.out
          have hsz : w.heap.size + 1 ≤ wr.heap.size := Cells.lt (hI.at_ 1 rfl)
          have HLM := Lib.hid (Lines_any ⟨#[109, 97, 116, 101, 114, 105, 97, 108]⟩ (by decide) wr B mA mn mc x.mat (hI.at_ 3 rfl : _ ∧ _).1 HO.out.mat HNM.out (by rw [← HNM.out]; exact HO.out.nmat) (by omega))
          have hown := Lib.hid (fun g (e : (Value.slice A' (2 + k) c').ownBlock = some g) => (((hI.at_ 0 rfl : Nest wr (w.heap.size + 1) 27 1 A' (2 + k) c' vs (w.heap.size + 1) F (fun W => All2 (RowS W W.heap.size) vs ([[(⟨#[114, 101, 99, 111, 114, 100]⟩ : ByteArray), x.run, x.scope, x.step, sn], (⟨#[99, 111, 109, 109, 97, 110, 100]⟩ : ByteArray) :: x.cmd] ++ x.env.map envLn))).own.lt e).2))
          have hmn : mn ≤ 1000000 := by rw [← HNM.out]; exact HO.out.nmat
          have hpn : pn ≤ 1000000 := by rw [← HNP.out]; exact HO.out.nprod
          go_upto_region 10 with (first
            | (go_at_call 36; refine HLM.out.mono ?_; rintro e w2 ⟨Am, cm, vm, Fm, rfl, hb2, hN2⟩; have hI2 := hI.call hb2; have hs2 := hb2.size)
            | (refine wl_app_nest el_line hI2 0 rfl (.tmp 41) (.tmp 44) rfl (w.heap.size + 1) A' (2 + k) c' vs (w.heap.size + 1) F _ rfl rfl w2.heap.size Am mn cm vm rfl hN2.own.rd (rowAt_one hN2.inn) (by omega) (by omega) (Nat.le_refl _) Fm _ hN2.inn (st_zero hN2.st) (fun b hb => ⟨by have := (hN2.fr b hb).1; omega, (hN2.fr b hb).2, fun e => by have h1 := (hN2.fr b hb).1; have h2 := hown.out _ e; omega⟩) (by intro g hg he; have := hown.out _ he; simp [Apart, Res.apart, Low.els] <;> omega) ?_; intro A3 c3 w3 hI3 hs3))
          clear hI hI2 hN2 hb2 hown HLM c6
          have c7 := cell_of (hI3.at_ 1 rfl) (i := 7) rfl
          have hsz3 : w.heap.size + 1 ≤ w3.heap.size := Cells.lt (hI3.at_ 1 rfl)
          have HLP := Lib.hid (Lines_any ⟨#[112, 114, 111, 100, 117, 99, 116]⟩ (by decide) w3 B pA pn pc x.prod (hI3.at_ 4 rfl : _ ∧ _).1 HO.out.prod HNP.out (by rw [← HNP.out]; exact HO.out.nprod) (by omega))
          have hown3 := Lib.hid (fun g (e : (Value.slice A3 (2 + k + mn) c3).ownBlock = some g) => (((hI3.at_ 0 rfl : Nest w3 (w.heap.size + 1) 27 1 A3 (2 + k + mn) c3 (vs ++ vm) (w.heap.size + 1) (fun b => F b ∨ Fm b) (fun w => All2 (RowS w w.heap.size) vs ([[(⟨#[114, 101, 99, 111, 114, 100]⟩ : ByteArray), x.run, x.scope, x.step, sn], (⟨#[99, 111, 109, 109, 97, 110, 100]⟩ : ByteArray) :: x.cmd] ++ x.env.map envLn) ∧ All2 (RowAt w w.heap.size) vm (entLs ⟨#[109, 97, 116, 101, 114, 105, 97, 108]⟩ x.mat))).own.lt e).2))
          have HD : Hid (recLs x = (([[(⟨#[114, 101, 99, 111, 114, 100]⟩ : ByteArray), x.run, x.scope, x.step, sn], (⟨#[99, 111, 109, 109, 97, 110, 100]⟩ : ByteArray) :: x.cmd] ++ x.env.map envLn) ++ entLs ⟨#[109, 97, 116, 101, 114, 105, 97, 108]⟩ x.mat) ++ entLs ⟨#[112, 114, 111, 100, 117, 99, 116]⟩ x.prod) := Lib.hid (by rw [recLs, HSN.out])
          go_wp2_with (first
            | (go_at_call 36; refine HLP.out.mono ?_; rintro e w4 ⟨Ap, cp, vp, Fp, rfl, hb4, hN4⟩; have hI4 := hI3.call hb4; have hs4 := hb4.size)
            | (refine wl_app_nest el_line hI4 0 rfl (.tmp 46) (.tmp 49) rfl (w.heap.size + 1) A3 (2 + k + mn) c3 (vs ++ vm) (w.heap.size + 1) _ _ rfl rfl w4.heap.size Ap pn cp vp rfl hN4.own.rd (rowAt_one hN4.inn) (by omega) (by omega) (Nat.le_refl _) Fp _ hN4.inn (st_zero hN4.st) (fun b hb => ⟨by have := (hN4.fr b hb).1; omega, (hN4.fr b hb).2, fun e => by have h1 := (hN4.fr b hb).1; have h2 := hown3.out _ e; omega⟩) (by intro g hg he; have := hown3.out _ he; simp [Apart, Res.apart, Low.els] <;> omega) ?_; intro A5 c5 w5 hI5 hs5)
            | (go_at_call 37; have hN5 := (hI5.at_ 0 rfl : Nest w5 (w.heap.size + 1) 27 1 A5 (2 + k + mn + pn) c5 ((vs ++ vm) ++ vp) (w.heap.size + 1) _ (fun w => (All2 (RowS w w.heap.size) vs ([[(⟨#[114, 101, 99, 111, 114, 100]⟩ : ByteArray), x.run, x.scope, x.step, sn], (⟨#[99, 111, 109, 109, 97, 110, 100]⟩ : ByteArray) :: x.cmd] ++ x.env.map envLn) ∧ All2 (RowAt w w.heap.size) vm (entLs ⟨#[109, 97, 116, 101, 114, 105, 97, 108]⟩ x.mat)) ∧ All2 (RowAt w w.heap.size) vp (entLs ⟨#[112, 114, 111, 100, 117, 99, 116]⟩ x.prod))); refine (Encode_any w5 w5.heap.size A5 _ c5 (recLs x) (by rw [HD.out]; exact Lines_ofS hN5.own.rd ((hN5.inn.1.1.append (hN5.inn.1.2.imp fun _ _ h => RowS.of_at h)).append (hN5.inn.2.imp fun _ _ h => RowS.of_at h)) (by omega)) (Nat.le_refl _)).mono ?_; intro e w6 hE; obtain ⟨ex, ey, rfl, hb6, hev⟩ := EncV.post hE (show w.heap.size ≤ w5.heap.size from by omega); have hk6 := (hI5.call hb6).at_ 5 rfl))
          go_ret2
          exact ⟨_, _, rfl, (hk6 : _ ∧ _).1, fun _ => hev, fun h => by rw [HB.out] at h; cases h⟩
end Go.Proofs.YtjdinakdkdjocaaGreatDoor

