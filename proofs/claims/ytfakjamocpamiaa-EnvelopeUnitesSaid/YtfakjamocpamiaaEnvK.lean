/- awake: an envelope is signed by one key. -/
import Derived.Test.YtfakjamocpamiaaEnvH
import Derived.Test.YtfakjamocpamiaaEnvU
import Derived.Lib.SlBytesConst
set_option linter.unusedSimpArgs false
set_option linter.unusedVariables false
set_option maxRecDepth 100000
namespace Go.Adm
open Go Go.RowKit Go.Proofs.Ytfakjamocpamiaa
def seedB : List UInt8 := 9 :: List.replicate 15 0
def sNote : ByteArray := ⟨#[110, 111, 116, 101]⟩
theorem note_ok : nameB sNote = true := nameB_yes ⟨by decide, by decide, by decide⟩
theorem shG_signed (seed m : List UInt8) (kh kn : Nat) (hk : kh ≤ 6) (hn : kn < 2 ^ kh) : shG ⟨kh, rootS seed kh, kn, signS seed kn m, pathS seed kh kn⟩ = true := by
 unfold shG shapedB
 dsimp only
 rw [signS_len, pathS_len, (hOk_iff _).2 ⟨by omega, by omega⟩, Int.toNat_natCast]
 simp only [Bool.true_and, Bool.and_eq_true, decide_eq_true_eq, beq_iff_eq]
 refine ⟨by omega, by omega, ?_⟩
 simp
theorem verG_signed (seed m : List UInt8) (kh kn : Nat) (hk : kh ≤ 6) (hn : kn < 2 ^ kh) : verG m ⟨kh, rootS seed kh, kn, signS seed kn m, pathS seed kh kn⟩ = true := signed_verifies seed m kh kn hk hn
/-- a signature by a new key comes into its place, and verifies -/
theorem signE_new {R : EnvR} {seed : List UInt8} {kh kn : Nat} (hv : validR R = true) (hk : kh ≤ 6) (hn : kn < 2 ^ kh) (hh : hasG R.sigs (idS kh (rootS seed kh)) = false) (h8 : R.sigs.length ≠ 8) :
  signE R seed kh kn = (⟨R.kind, R.pay, putG R.sigs ⟨kh, rootS seed kh, kn, signS seed kn (msgS R.kind R.pay), pathS seed kh kn⟩⟩, siCells seed kh ((kn : Int) + 1), 0) := by
 unfold signE
 rw [if_neg (by rw [hv]; decide), signR_make seed (msgS R.kind R.pay) kh kn hk hn]
 dsimp only
 rw [if_neg (by decide), Int.toNat_natCast, if_neg (by rw [hh]; decide), if_neg h8]
theorem awk_sign : ∃ x : Sg, signE ⟨sNote, [120], []⟩ seedB 0 0 = (⟨sNote, [120], [x]⟩, siCells seedB 0 1, 0) ∧ validR ⟨sNote, [120], [x]⟩ = true ∧ (signersE ⟨sNote, [120], [x]⟩).length = 1 := by
 have h0 : validR ⟨sNote, [120], []⟩ = true := validR_iff.2 ⟨note_ok, by show 1 ≤ 32768; decide, by show 0 ≤ 8; decide, fun s hs => (by cases hs), List.Pairwise.nil⟩
 have h1 := signE_new (R := ⟨sNote, [120], []⟩) (seed := seedB) (kh := 0) (kn := 0) h0 (by decide) (by decide) rfl (by show 0 ≠ 8; decide)
 have hs := shG_signed seedB (msgS sNote [120]) 0 0 (by decide) (by decide)
 have hg := verG_signed seedB (msgS sNote [120]) 0 0 (by decide) (by decide)
 obtain ⟨x, hx⟩ : ∃ x : Sg, x = ⟨((0 : Nat) : Int), rootS seedB 0, ((0 : Nat) : Int), signS seedB ((0 : Nat) : Int) (msgS sNote [120]), pathS seedB 0 0⟩ := ⟨_, rfl⟩
 rw [← hx] at hs hg
 refine ⟨x, ?_, ?_⟩
 ·rw [hx]; exact h1
 clear h1 hx
 have hv : validR ⟨sNote, [120], [x]⟩ = true := validR_iff.2 ⟨note_ok, by show 1 ≤ 32768; decide, by show 1 ≤ 8; decide, fun s hs' => (by rw [List.mem_singleton.1 hs']; exact hs), List.pairwise_singleton _ _⟩
 refine ⟨hv, ?_⟩
 unfold signersE
 rw [if_pos hv]
 dsimp only
 rw [List.filter_cons_of_pos hg]
 rfl
theorem EnvAt.len {w : World} {B : Nat} {R : EnvR} {cs : List Value} (h : EnvAt w B R cs) : cs.length = 3 := by
 obtain ⟨Ap, np, cp, As, ns, cc, l, rfl, _⟩ := h
 rfl
theorem EnvAt.one {w : World} {B : Nat} {R : EnvR} {cs : List Value} (h : EnvAt w B R cs) : ∀ v ∈ cs, v.oneCell' = true := by
 obtain ⟨Ap, np, cp, As, ns, cc, l, rfl, _⟩ := h
 exact envC_one _ _ _ _ _ _ _
theorem wl_met_load {P : Program} {ops : Array Oper} {rest : List Oper} {op : Oper} {a : Act} {w : World} {Q : Exit → Act → World → Prop} (ty : TypeId) (x : Operand) (ho : op.op = .load ty x)
  (ad : Addr) (hx : a.eval x = .pointer (some ad)) (cs : List Value) (d : TypeDesc) (hc : ∀ j u, cs[j]? = some u → w.cell? (ad.add j) = some u)
  (hu : P.underlying ty = some d) (hd : d.isRow = true) (hi : (P.info? ty).map (·.size) = some cs.length) (hw : Region.wanted op (yielded ops a.tmps) = true) (h : wpList P ops Q rest (a.put op.dst (.agg cs.toArray)) w) : wpList P ops Q (op :: rest) a w :=
 wl_met hw (fun K hK => wp_load_any ty x ho ad hx cs d hc hu hd hi (hK _ _ h))
end Go.Adm
namespace Go.Proofs.Ytfakjamocpamiaa
open Go Go.RowKit Go.Adm
/-- Valid of an envelope in memory -/
theorem ValidE_at (w : World) (B : Nat) (R : EnvR) (cs : List Value) (hE : EnvAt w B R cs) (hk : R.kind.size ≤ 140737488355328) (hpl : R.pay.length ≤ 140737488355000) (hsl : R.sigs.length ≤ 1000000) (hB : B ≤ w.heap.size) :
  Calls Try.prog 11 #[.agg cs.toArray] w fun e w' => e = .returned (.bool (validR R)) ∧ Below w.heap.size w w' := by
 obtain ⟨Ap, np, cp, As, ns, cc, l, rfl, hpn, hp, hlm, hl, hcp1, hcp2, hcs1, hcs2⟩ := hE
 obtain ⟨kind, pay, sigs⟩ := R
 dsimp only at *
 subst hlm
 rw [List.length_map, hl.len] at hsl
 rw [hpn] at hpl
 have h := ValidE_any w B kind Ap np cp As ns cc l hl hk (by omega) (by omega) hB
 rwa [validK_R hpn] at h
set_option maxHeartbeats 3200000 in
theorem awakeE_any (w : World) :
  Calls Try.prog 16 #[] w fun e w' => e = .returned (.bool true) ∧ Below w.heap.size w w' := by
 have hR : All w [.kept w w.heap.size] := ⟨⟨Below.refl _ _, Nat.le_refl _⟩, trivial⟩
 obtain ⟨x, hsg, hvx, hsx⟩ := awk_sign
 have HSG := Lib.hid hsg
 have HVX := Lib.hid hvx
 have HSX := Lib.hid hsx
 clear hsg hvx hsx
 have hze := zero_env
 have hzs := zero_si
 go_enter Try.func16, Try.ntmps16
 have hcv := Lib.run_convert_bytes_const (P := Try.prog) w 22 5 #[.int .u8 120] 1 1 el_bE.ht Try.underlying5
 obtain ⟨W1, hW1⟩ : ∃ W1, W1 = w.alloc (.cells #[.int .u8 120] 5 ((#[.int .u8 120] : Array Value).size, (#[.int .u8 120] : Array Value).size + 1)) := ⟨_, rfl⟩
 have hA1 : All W1 [.kept w w.heap.size] := by rw [hW1]; exact hR.alloc _
 have hrd : Rd W1 W1.heap.size 1 (some ⟨w.heap.size, 0, none⟩) 1 (([120] : List UInt8).map bv) := by
  rw [hW1]
  refine ⟨rfl, fun _ => ⟨_, rfl, by simp, fun j u hu => ?_⟩⟩
  rw [add_lit, Nat.zero_add, World.cell?_alloc_mark]
  match j, hu with
  | 0, hu => exact hu
  | _ + 1, hu => cases hu
 have hE0 : EnvAt W1 W1.heap.size ⟨sNote, [120], []⟩ (envC sNote (some ⟨w.heap.size, 0, none⟩) 1 1 none 0 0) := ⟨_, 1, 1, none, 0, 0, [], rfl, rfl, hrd, rfl, Kss.nil, Nat.le_refl _, by decide, Nat.le_refl _, Nat.zero_le _⟩
 have hsi := SignE_any W1 W1.heap.size ⟨sNote, [120], []⟩ _ seedB 0 0 hE0 rfl (by decide) (by decide) (by decide) (Nat.le_refl _)
 rw [HSG.out] at hsi
 clear hrd hE0
 have hsi2 : Calls Try.prog 19 #[.agg ((envZ.set 0 (.string ⟨#[110, 111, 116, 101]⟩)).set 1 (.slice (some ⟨w.heap.size, 0, none⟩) 1 1)).toArray, .agg (siCells seedB 0 0).toArray] W1 (SignPostE (⟨sNote, [120], [x]⟩, siCells seedB 0 1, 0) W1) := hsi
 clear hsi
 rw [hW1] at hsi2
 go_upto_region 1 with (fail)
 go_wp2_with fail
 refine hsi2.mono ?_
 clear hsi2 hcv
 rintro e w2 ⟨cs2, rfl, hE2, hb2⟩
 rw [← hW1] at hb2
 have hlen := hE2.len
 have hone := hE2.one
 have hI2 : All w2 [.low (.env w2.heap.size ⟨sNote, [120], [x]⟩ cs2), .kept w w.heap.size] := ⟨⟨hE2, Nat.le_refl _⟩, hA1.call hb2⟩
 have HLEN := Lib.hid hlen
 have HONE := Lib.hid hone
 clear hE2 hlen hone hA1 hb2
 obtain ⟨g1, hg1⟩ : ∃ g1, g1 = w2.heap.size := ⟨_, rfl⟩
 rw [← hg1] at hI2
 have hgw : w.heap.size ≤ g1 := by rw [hg1]; exact (hI2.at_ 1 rfl : _ ∧ _).2
 have HG1 := Lib.hid hg1
 clear hg1 hW1
 go_upto_region 2 with (first
  | (rw [← HG1.out]; refine wl_store_at ((hI2.new (l := envZ) (g := g1) _ 25 HG1.out rfl).new (l := siz) (g := g1 + 1) _ 43 (by simp [HG1.out]) rfl) 1 rfl 25 (.tmp 1) (.tmp 11) rfl g1 _ _ cs2 rfl rfl rfl (by rw [HLEN.out]; rfl) (by rw [HLEN.out]; kernel_rfl) HONE.out (by simp [Apart, Res.apart, Low.env] <;> omega) ?_; intro W3 hW3 hs3; simp only [List.set_cons_zero, List.set_cons_succ] at hW3)
  | (refine wl_store_at hW3 0 rfl 43 (.tmp 2) (.tmp 12) rfl (g1 + 1) _ _ (siCells seedB 0 1) rfl rfl rfl rfl (by kernel_rfl) (si_one _ _ _) (by simp [Apart, Res.apart, Low.env] <;> omega) ?_; intro W4 hW4 hs4; simp only [List.set_cons_zero, List.set_cons_succ] at hW4))
 clear hs3 hs4 hW3 hI2
 have c17 := si_at17 rfl (hW4.at_ 0 rfl)
 have hsg := SignersE_any W4 g1 ⟨sNote, [120], [x]⟩ cs2 (hW4.at_ 2 rfl : EnvAt W4 g1 _ _ ∧ _).1 (by show sNote.size ≤ 140737488355328; decide) (by show 1 ≤ 140737488355000; decide) (by show 1 ≤ 1000000; decide) (hW4.at_ 2 rfl : _ ∧ g1 ≤ W4.heap.size).2
 go_wp2_with (first
  | (refine wl_met_load 25 (.tmp 1) rfl ⟨g1, 0, none⟩ rfl cs2 _ (Cells.sub (hW4.at_ 1 rfl) 0 (fun j u h => by rwa [Nat.zero_add])) Try.underlying25 rfl (by rw [HLEN.out]; kernel_rfl) rfl ?_)
  | (go_at_call 14; refine hsg.mono ?_; clear hsg; rintro e w5 ⟨A5, n5, c5, rfl, hD5, -, -, hb5⟩; have hn5 : n5 = 1 := (by rw [← hD5.len]; exact HSX.out); subst hn5; have hW5 := hW4.call hb5; clear hW4; have hva := ValidE_at w5 g1 ⟨sNote, [120], [x]⟩ cs2 (hW5.at_ 2 rfl : EnvAt w5 g1 _ _ ∧ _).1 (by show sNote.size ≤ 140737488355328; decide) (by show 1 ≤ 140737488355000; decide) (by show 1 ≤ 1000000; decide) (hW5.at_ 2 rfl : _ ∧ g1 ≤ w5.heap.size).2; rw [HVX.out] at hva)
  | (refine wl_met_load 25 (.tmp 1) rfl ⟨g1, 0, none⟩ rfl cs2 _ (Cells.sub (hW5.at_ 1 rfl) 0 (fun j u h => by rwa [Nat.zero_add])) Try.underlying25 rfl (by rw [HLEN.out]; kernel_rfl) rfl ?_)
  | (go_at_call 11; refine hva.mono ?_; clear hva; rintro e w6 ⟨rfl, hb6⟩; have hW6 := hW5.call hb6))
 go_ret
 exact ⟨rfl, (hW6.at_ 3 rfl : _ ∧ _).1⟩
end Go.Proofs.Ytfakjamocpamiaa
