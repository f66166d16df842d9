/- bytes.SplitSeq at a separator of one byte: the iterator and its contract. What the walk of document.Decode needs: rows of strings in a nest, what a range over an iterator keeps, leaving with marks. -/
import Derived.Test.YtkcmaembpfakdaaGreatDoorRngC
import Derived.Test.YtkcmaembpfakdaaGreatDoorDec1
set_option linter.unusedSimpArgs false
set_option linter.unusedVariables false
set_option maxRecDepth 100000
namespace Go.Adm
open Go Go.RowKit
/-- a part of the bytes: where it lies, its bytes, as they read in the world w0 -/
def Pc (w0 : World) (B : Nat) := { x : Option Addr × Nat × List UInt8 // Rd w0 B 1 x.1 x.2.1 (x.2.2.map bv) }
def mkPc {w0 : World} {B n : Nat} {A : Option Addr} {p : List UInt8} (h : Rd w0 B 1 A n (p.map bv)) : Pc w0 B := ⟨(A, n, p), h⟩
def pcV {w0 : World} {B : Nat} (x : Pc w0 B) : Array Value := #[.slice x.1.1 x.1.2.1 x.1.2.1]
def pcB {w0 : World} {B : Nat} (x : Pc w0 B) : List UInt8 := x.1.2.2
/-- what a round keeps of the iterator's memory -/
def KpS (gs : Nat) (rs : List Res) (W W' : World) : Prop := W'.heap[gs]? = W.heap[gs]? ∧ (All W rs → All W' rs)
def nAt (W : World) (g : Nat) : Nat := match W.cell? ⟨g, 0, none⟩ with
  | some (.slice _ n _) => n
  | _ => 0
end Go.Adm
namespace Go.Proofs.YtkcmaembpfakdaaGreatDoor
open Go Go.RowKit Go.Adm Go.Shelf
attribute [local go_sem] Oper.semAt_some

theorem splitSeq_any (w : World) (A A1 : Option Addr) (n c n1 c1 : Nat) :
    Calls Tryz.prog 90 #[.slice A n c, .slice A1 n1 c1, .int .i64 0] w fun e w' => e = .returned (.func (.func 109) #[] #[.pointer (some ⟨w.heap.size + 1, 0, none⟩), .pointer (some ⟨w.heap.size, 0, none⟩), .pointer (some ⟨w.heap.size + 1 + 1, 0, none⟩)]) ∧
      w' = ((w.alloc (.cells #[.slice A n c] 36)).alloc (.cells #[.slice A1 n1 c1] 36)).alloc (.cells #[.int .i64 0] 3) := by
  go_enter Tryz.func90, Tryz.ntmps90
  go_wp2_with fail
  go_ret
  exact ⟨by simp, rfl⟩
theorem SplitSeq_any (w : World) (A A1 : Option Addr) (n c n1 c1 : Nat) :
    Calls Tryz.prog 65 #[.slice A n c, .slice A1 n1 c1] w fun e w' => e = .returned (.func (.func 109) #[] #[.pointer (some ⟨w.heap.size + 1, 0, none⟩), .pointer (some ⟨w.heap.size, 0, none⟩), .pointer (some ⟨w.heap.size + 1 + 1, 0, none⟩)]) ∧
      w' = ((w.alloc (.cells #[.slice A n c] 36)).alloc (.cells #[.slice A1 n1 c1] 36)).alloc (.cells #[.int .i64 0] 3) := by
  go_enter Tryz.func65, Tryz.ntmps65
  go_wp2_with fail
  refine (splitSeq_any w A A1 n c n1 c1).mono ?_
  rintro e w' ⟨rfl, rfl⟩
  go_wp2_with fail
  go_ret
  exact ⟨rfl, rfl⟩

set_option maxHeartbeats 6400000 in
/-- the iterator hands over the parts of the bytes, one by one -/
theorem split_stops (n : Nat) (hn : 1 ≤ n) (gs gp gz g1 B c1 : Nat) (A : Option Addr) (m c : Nat) (l : List UInt8) (w0 w : World) (hl : Rd w0 B 1 A m (l.map bv)) (hmc : m ≤ c) (hcm : c ≤ maxLen) (hB : B ≤ w0.heap.size)
    (hgs : gs < w.heap.size) (h1 : gs ≠ gp) (h2 : gs ≠ gz) (h3 : gs ≠ g1) (h4 : w0.heap.size ≤ gs) (hs : Cells w gs 36 [.slice A m c])
    (hR : All w [.cells gp 36 [.slice (some ⟨g1, 0, none⟩) 1 c1], .cells gz 3 [.int .i64 0], .cells g1 5 [bv 32], .kept w0 w0.heap.size]) :
    SeqC Fence.wide n Tryz.prog 109 #[.pointer (some ⟨gp, 0, none⟩), .pointer (some ⟨gs, 0, none⟩), .pointer (some ⟨gz, 0, none⟩)] (pcV (w0 := w0) (B := B)) gs
      (KpS gs [.cells gp 36 [.slice (some ⟨g1, 0, none⟩) 1 c1], .cells gz 3 [.int .i64 0], .cells g1 5 [bv 32], .kept w0 w0.heap.size])
      (fun xs => xs.map pcB = splitB 32 l) (fun pre => ∃ t, pre.map pcB ++ t = splitB 32 l) w := by
  intro lb J Jx W hW hJ hJx hY h0
  have hRW := hR.call hW
  have hsW : Cells W gs 36 [.slice A m c] := hs.below hW hgs
  have HW : Hid (gs < W.heap.size) := Lib.hid (Nat.lt_of_lt_of_le hgs hW.size)
  clear hR hs hW
  refine callsIn_of_wp Tryz.func109 rfl trivial ?_ rfl
  simp only [Tryz.ntmps109, List.size_toArray, List.length_cons, List.length_nil, Nat.reduceAdd, Nat.reduceSub, Array.replicate_succ, Array.replicate_zero, List.push_toArray, List.append_toArray, List.nil_append, List.cons_append]
  have k1 : W.cell? ⟨gp, 0, none⟩ = some (.slice (some ⟨g1, 0, none⟩) 1 c1) := Cells.cell (hRW.at_ 0 rfl) (i := 0) (by simp)
  gi_wp2
  clear k1
  gi_loopw [7] (fun _ wr => ∃ (A' : Option Addr) (n' c' : Nat) (r : List UInt8) (pre : List (Pc w0 B)), Rd w0 B 1 A' n' (r.map bv) ∧ n' ≤ c' ∧ c' ≤ maxLen ∧ Hid (pre.map pcB ++ splitB 32 r = splitB 32 l) ∧ Cells wr gs 36 [.slice A' n' c'] ∧ J pre wr ∧ All wr [.cells gp 36 [.slice (some ⟨g1, 0, none⟩) 1 c1], .cells gz 3 [.int .i64 0], .cells g1 5 [bv 32], .kept w0 w0.heap.size]) (fun _ wr => nAt wr gs)
  case atStart => exact ⟨A, m, c, l, [], hl, hmc, hcm, Lib.hid rfl, hsW, h0, hRW⟩
  case round =>
    clear h0 hsW hRW hl hmc hcm
    obtain ⟨A', n', c', r, pre, hrd, hnc, hcm, HP, hS, hJp, hI⟩ := hrel
    have hcm' : c' ≤ 9223372036854775807 := hcm
    have HRD := Lib.hid hrd
    have HLR : Hid (r.length = n') := Lib.hid (by have := hrd.len; simpa using this)
    have hrw : Rd wr B 1 A' n' (r.map bv) := hrd.below (hI.at_ 3 rfl : Below w0.heap.size w0 wr ∧ _).1 hB
    have hNA : Hid (nAt wr gs = n') := Lib.hid (by unfold nAt; rw [Cells.cell hS (i := 0) (by simp)]; rfl)
    have k1 : wr.cell? ⟨gp, 0, none⟩ = some (.slice (some ⟨g1, 0, none⟩) 1 c1) := Cells.cell (hI.at_ 0 rfl) (i := 0) (by simp)
    have k2 : wr.cell? ⟨gs, 0, none⟩ = some (.slice A' n' c') := Cells.cell hS (i := 0) (by simp)
    have k3 : wr.cell? ⟨gz, 0, none⟩ = some (.int .i64 0) := Cells.cell (hI.at_ 1 rfl) (i := 0) (by simp)
    have hix := bytesIndex1_any wr B n' c' c1 A' ⟨g1, 0, none⟩ r 32 hrw (Cells.cell (hI.at_ 2 rfl) (i := 0) (by simp))
    clear hrd hrw
    by_cases hm : (32 : UInt8) ∈ r
    · obtain ⟨i, hi1, hi2, hi3, hi4⟩ := ix_some hm
      rw [hi1] at hix
      have HI4 := Lib.hid hi4
      have HI3 := Lib.hid hi3
      have hin : i < n' := by have := HLR.out; omega
      clear hm hi1 hi2 hi3 hi4
      obtain ⟨ad, rfl, -, -⟩ := HRD.out.at_ (by omega)
      have htk : Rd w0 B 1 (some ad) i ((r.take i).map bv) := by
        have := HRD.out.take (k := i) (by omega)
        rw [Nat.mul_one] at this
        rwa [List.map_take]
      have HP2 : Hid ((pre ++ [mkPc htk]).map pcB ++ splitB 32 (r.drop (i + 1)) = splitB 32 l) := Lib.hid (by
        have e1 : splitB 32 r = r.take i :: splitB 32 (r.drop (i + 1)) := by
          have := splitB_app (c := 32) (r.drop (i + 1)) HI3.out
          rwa [← HI4.out] at this
        rw [← HP.out, e1, List.map_append, List.append_assoc]
        rfl)
      obtain ⟨fn, tmps, assign, body, hy, hR⟩ := hY pre (mkPc htk) wr hJp ⟨_, HP2.out⟩
      have hy' : (Instr.yield lb #[.slice (some ad) i i]).run Tryz.prog wr = .ok (.round lb fn tmps assign body) wr := hy
      have i0 : (0 : Int) ≤ (i : Int) := by omega
      have i1 : (i : Int) ≤ (n' : Int) := by omega
      have i2 : (i : Int) ≤ (c' : Int) := by omega
      have i3 : ((i : Int)).toNat = i := by omega
      have w1 : IntKind.i64.wrap ((i : Int) + 1) = (i : Int) + 1 := by rw [IntWalk.i64_in _ (by omega)]
      have i4 : (0 : Int) ≤ (i : Int) + 1 := by omega
      have i5 : (i : Int) + 1 ≤ (n' : Int) := by omega
      have i6 : ((i : Int) + 1).toNat = i + 1 := by omega
      have i7 : (i : Int) + 1 ≤ (c' : Int) := by omega
      have dneg : decide ((i : Int) < 0) = false := by simp
      gi_wp2_with (first
        | (refine ⟨trivial, ?_⟩; gi_at_call 89; refine (callsIn_wide.2 hix).mono ?_; clear hix; rintro e w' ⟨rfl, rfl⟩))
      refine hR.mono ?_
      clear hR hy hy' k1 k2 k3
      have HAP : Hid (Apart (some gs) [.cells gp 36 [.slice (some ⟨g1, 0, none⟩) 1 c1], .cells gz 3 [.int .i64 0], .cells g1 5 [bv 32], .kept w0 w0.heap.size]) := Lib.hid ⟨fun e => h1 (by injection e with e; exact e.symm), fun e => h2 (by injection e with e; exact e.symm), fun e => h3 (by injection e with e; exact e.symm), fun q e => by { injection e with e; subst e; exact h4 }, trivial⟩
      rintro e W' (⟨rfl, hJ', hk⟩ | ⟨rfl, hJx'⟩)
      · have hI' := hk.2 hI
        have hS' : Cells W' gs 36 [.slice (some ad) n' c'] := hk.1.trans hS
        have k1' : W'.cell? ⟨gp, 0, none⟩ = some (.slice (some ⟨g1, 0, none⟩) 1 c1) := Cells.cell (hI'.at_ 0 rfl) (i := 0) (by simp)
        have k2' : W'.cell? ⟨gs, 0, none⟩ = some (.slice (some ad) n' c') := Cells.cell hS' (i := 0) (by simp)
        have f2 : W'.frozen? ⟨gs, 0, none⟩ = false := Cells.frozen hS' 0
        clear hI hS hJp hk HI4 HI3 HP
        by_cases hci : c' = i + 1
        · have hni : n' = i + 1 := by omega
          have hrd2 : Rd w0 B 1 (some ad) 0 ((r.drop (i + 1)).map bv) := by
            have h0 : (r.drop (i + 1)) = [] := List.drop_of_length_le (by have := HLR.out; omega)
            rw [h0]
            exact ⟨by simp, fun h => absurd h (by omega)⟩
          subst hci
          obtain rfl : n' = i + 1 := hni
          have HRD2 := Lib.hid hrd2
          clear hrd2
          gi_wp2
          have hS3 : Cells (W'.setCell ⟨gs, 0, none⟩ (.slice (some ad) 0 0)) gs 36 [.slice (some ad) 0 0] := hS'.store 0 _
          have hJ3 := hJ _ _ _ (some gs) hJ' (grown_setCell W' ⟨gs, 0, none⟩ (.slice (some ad) 0 0)) (fun q e => Or.inl (by injection e with e; exact e.symm))
          have hI3 := hI'.setCell ⟨gs, 0, none⟩ (.slice (some ad) 0 0) HAP.out
          clear hS' hJ' hI' f2 k2'
          go_roundw
          case rel => exact ⟨_, _, _, r.drop (i + 1), pre ++ [(mkPc htk)], HRD2.out, by omega, by simp only [maxLen]; omega, HP2, hS3, hJ3, hI3⟩
          case measure =>
            rw [hNA.out]
            unfold nAt
            rw [Cells.cell hS3 (i := 0) (by simp)]
            show 0 < _
            omega
        · have hci' : ¬ (c' = i + 1) := hci
          have hrd2 : Rd w0 B 1 (some ⟨ad.block, ad.off + (i + 1), none⟩) (n' - (i + 1)) ((r.drop (i + 1)).map bv) := by
            have hcut := HRD.out.cut (k := i + 1) (cap := c') (by omega) hnc
            rw [if_neg hci', Nat.mul_one] at hcut
            have e : ad.add (i + 1) = ⟨ad.block, ad.off + (i + 1), none⟩ := rfl
            rw [← e, List.map_drop]; exact hcut
          have HRD2 := Lib.hid hrd2
          clear hrd2
          gi_wp2
          have hS3 : Cells (W'.setCell ⟨gs, 0, none⟩ (.slice (some ⟨ad.block, ad.off + (i + 1), none⟩) (n' - (i + 1)) (c' - (i + 1)))) gs 36 [.slice (some ⟨ad.block, ad.off + (i + 1), none⟩) (n' - (i + 1)) (c' - (i + 1))] := hS'.store 0 _
          have hJ3 := hJ _ _ _ (some gs) hJ' (grown_setCell W' ⟨gs, 0, none⟩ (.slice (some ⟨ad.block, ad.off + (i + 1), none⟩) (n' - (i + 1)) (c' - (i + 1)))) (fun q e => Or.inl (by injection e with e; exact e.symm))
          have hI3 := hI'.setCell ⟨gs, 0, none⟩ (.slice (some ⟨ad.block, ad.off + (i + 1), none⟩) (n' - (i + 1)) (c' - (i + 1))) HAP.out
          clear hS' hJ' hI' f2 k2'
          go_roundw
          case rel => exact ⟨_, _, _, r.drop (i + 1), pre ++ [(mkPc htk)], HRD2.out, by omega, by simp only [maxLen]; omega, HP2, hS3, hJ3, hI3⟩
          case measure =>
            rw [hNA.out]
            unfold nAt
            rw [Cells.cell hS3 (i := 0) (by simp)]
            show (n' - (i + 1)) < _
            omega
      · gi_wp2
        refine bodyPost_ret (results_none rfl _ _ _) rfl ?_
        exact ⟨⟨_, rfl⟩, .inr ⟨_, ⟨_, HP2.out⟩, hJx'⟩⟩
    · rw [ix_none hm] at hix
      have HP2 : Hid ((pre ++ [mkPc HRD.out]).map pcB = splitB 32 l) := Lib.hid (by
        rw [← HP.out, splitB_none hm, List.map_append]
        rfl)
      obtain ⟨fn, tmps, assign, body, hy, hR⟩ := hY pre (mkPc HRD.out) wr hJp ⟨[], by rw [List.append_nil]; exact HP2.out⟩
      have hy' : (Instr.yield lb #[.slice A' n' n']).run Tryz.prog wr = .ok (.round lb fn tmps assign body) wr := hy
      have n2 : (n' : Int) ≤ (c' : Int) := by omega
      clear hm
      gi_wp2_with (first
        | (refine ⟨trivial, ?_⟩; gi_at_call 89; refine (callsIn_wide.2 hix).mono ?_; clear hix; rintro e w' ⟨rfl, rfl⟩))
      refine hR.mono ?_
      clear hR hy hy' k1 k2 k3
      rintro e W' (⟨rfl, hJ', hk⟩ | ⟨rfl, hJx'⟩)
      · gi_wp2
        go_end0
        exact ⟨⟨_, rfl⟩, .inl ⟨_, HP2.out, hJ'⟩⟩
      · gi_wp2
        go_end0
        exact ⟨⟨_, rfl⟩, .inr ⟨_, ⟨[], by rw [List.append_nil]; exact HP2.out⟩, hJx'⟩⟩
end Go.Proofs.YtkcmaembpfakdaaGreatDoor
set_option linter.unusedSimpArgs false
set_option linter.unusedVariables false
set_option maxRecDepth 100000
namespace Go.Adm
open Go Go.RowKit
/-- a row of strings -/
def RowS (w : World) (B : Nat) (v : Value) (ss : List ByteArray) : Prop := ∃ A c, v = .slice A ss.length c ∧ ss.length ≤ c ∧ c ≤ maxLen ∧ Strs w B A ss.length ss
theorem RowS.st {B0 n c : Nat} {A : Option Addr} {ss : List ByteArray} {F : Nat → Prop} (hF : ∀ ad, A = some ad → ad.block < B0 ∨ F ad.block) : St B0 F (fun w => RowS w w.heap.size (.slice A n c) ss) := fun w w' hs hb h => by
  obtain ⟨A', c', e, h1, h2, h3⟩ := h
  injection e with e1 e2 e3
  subst e1 e2 e3
  exact ⟨_, _, rfl, h1, h2, ⟨(Rd.st hF) w w' hs hb h3.rd, h3.small⟩⟩
theorem RowS.lines {w : World} {B n : Nat} {A : Option Addr} {vs : List Value} {ls : List (List ByteArray)} (h : Rd w B 1 A n vs) (ha : All2 (RowS w B) vs ls) (hn : n ≤ 140737488355328) : Lines w B A n ls := by
  have hl := h.len
  have hl2 := ha.len
  refine ⟨by omega, hn, vs, h, fun k hk => ?_⟩
  obtain ⟨v, hv, A', c, rfl, h1, h2, h3⟩ := ha.at_ hk
  exact ⟨A', c, hv, h1, h2, h3⟩
theorem RowS.quiet {w w' : World} {v : Value} {ss : List ByteArray} (hg : w.grownBy w' none) (h : RowS w w.heap.size v ss) : RowS w' w'.heap.size v ss := by
  obtain ⟨A, c, e, h1, h2, h3⟩ := h
  exact ⟨A, c, e, h1, h2, (h3.keep fun p hp => World.cell?_of_block (w := w) (hg.block _ hp (by simp))).mono hg.size⟩
theorem allC_from {β : Type} {Bs B : Nat} {f : β → List Res} (hl : ∀ s, LowLe B (f s)) (hap : ∀ s, Apart (some Bs) (f s)) : HoldC Bs B (fun o => !o.isCells) (fun s W => All W (f s)) := fun s W W' row hs hg hr => by
  cases row with
  | none => exact hs.quiet hg
  | some D =>
    rcases hr D rfl with h | ⟨hB, o, ho, hc⟩
    · subst h; exact hs.step hg (hap s)
    · exact hs.dead hg hB ho (by simpa using hc) (hl s)
theorem KpS.trans {gs : Nat} {rs : List Res} {A B C : World} (h : KpS gs rs A B) (k : KpS gs rs B C) : KpS gs rs A C := ⟨k.1.trans h.1, fun q => k.2 (h.2 q)⟩
theorem KpS.step {gs : Nat} {rs : List Res} {W W' : World} {row : Option Nat} (hg : W.grownBy W' row) (hlt : gs < W.heap.size) (hne : row ≠ some gs) (hap : Apart row rs) : KpS gs rs W W' :=
  ⟨hg.block gs hlt (fun e => hne e.symm), fun h => h.step hg hap⟩
theorem KpS.quiet {gs : Nat} {rs : List Res} {W W' : World} (hg : W.grownBy W' none) (hlt : gs < W.heap.size) : KpS gs rs W W' := KpS.step hg hlt (by simp) (Apart.none _)
theorem splitB_sum (c : UInt8) : ∀ l : List UInt8, ((splitB c l).map List.length).sum + (splitB c l).length = l.length + 1
  | [] => rfl
  | x :: r => by
    have ih := splitB_sum c r
    unfold splitB
    split
    · simp only [List.map_cons, List.sum_cons, List.length_cons, List.length_nil]; omega
    · cases hs : splitB c r with
      | nil => exact absurd hs (splitB_ne c r)
      | cons p ps =>
        rw [hs] at ih
        simp only [List.map_cons, List.sum_cons, List.length_cons] at ih ⊢
        omega
theorem sum_mem : ∀ {l : List Nat} {x : Nat}, x ∈ l → x ≤ l.sum
  | a :: l, x, h => by
    rw [List.sum_cons]
    rcases List.mem_cons.1 h with h | h
    · omega
    · have := sum_mem h; omega
theorem splitB_small {c : UInt8} {l p : List UInt8} (h : p ∈ splitB c l) : p.length ≤ l.length := by
  have h1 := splitB_sum c l
  have h2 := sum_mem (List.mem_map.2 ⟨p, h, rfl⟩ : p.length ∈ (splitB c l).map List.length)
  have h3 : 0 < (splitB c l).length := List.length_pos_iff.2 (splitB_ne c l)
  omega
/-- what the parts tell of a round -/
theorem parts_round {w : World} {B : Nat} {l : List UInt8} {pre : List (Pc w B)} {x : Pc w B} (h : ∃ t, (pre ++ [x]).map pcB ++ t = splitB 32 l) : pre.length ≤ l.length ∧ (pcB x).length ≤ l.length := by
  obtain ⟨t, ht⟩ := h
  have h1 := splitB_sum 32 l
  have h2 := congrArg List.length ht
  simp only [List.length_append, List.length_map, List.length_cons, List.length_nil] at h2
  exact ⟨by omega, splitB_small (by rw [← ht]; simp)⟩
theorem wordsO_snoc_none {a : List (List UInt8)} {p : List UInt8} (h : unwordS p = none) : wordsO (a ++ [p]) = none := by
  have e : wordsO [p] = none := by rw [wordsO, h]
  rw [wordsO_app, e]
  cases wordsO a <;> rfl
theorem wordsO_snoc {a : List (List UInt8)} {ws : List ByteArray} {p u : List UInt8} (ha : wordsO a = some ws) (h : unwordS p = some u) : wordsO (a ++ [p]) = some (ws ++ [⟨u.toArray⟩]) := by
  have e : wordsO [p] = some [⟨u.toArray⟩] := by rw [wordsO, h]; rfl
  rw [wordsO_app, e, ha]
  rfl
theorem wordsO_none {a t : List (List UInt8)} (h : wordsO a = none) : wordsO (a ++ t) = none := by rw [wordsO_app, h]; rfl
theorem unwordS_len {l w : List UInt8} (h : unwordS l = some w) : w.length ≤ l.length := by
  have e := unwordS_enc h
  unfold wordS at e
  split at e
  · rename_i h0; rw [h0]; simp
  · rw [← e]; exact encW_ge w
/-- one element more in the row that a box holds -/
theorem out_more {W w3 : World} {bO size g6 n : Nat} {tid tsl : TypeId} {A A3 : Option Addr} {c c3 : Nat} {xs u : List Value} {rest : List Res} (h : All W (.own bO tid size A n c xs :: .cells g6 tsl [.slice A n c] :: rest)) (hr : ∀ g, bO ≤ g → (Value.slice A n c).ownBlock = some g → Apart (some g) rest) (h6 : g6 < bO)
    (hown3 : Own w3 bO tid size A3 (n + 1) c3 (xs ++ u)) (hg3 : W.grownBy w3 (Value.slice A n c).ownBlock) (hr6 : Apart (some g6) rest) :
    All w3 (.own bO tid size A3 (n + 1) c3 (xs ++ u) :: .cells g6 tsl [.slice A n c] :: rest) ∧ All (w3.setCell ⟨g6, 0, Option.none⟩ (.slice A3 (n + 1) c3)) (.own bO tid size A3 (n + 1) c3 (xs ++ u) :: .cells g6 tsl [.slice A3 (n + 1) c3] :: rest) ∧ KeepsOthers W (w3.setCell ⟨g6, 0, Option.none⟩ (.slice A3 (n + 1) c3)) := by
  have hown : Own W bO tid size A n c xs := h.1
  have h1 : All w3 (.cells g6 tsl [.slice A n c] :: rest) := by
    refine All.step hg3 h.2 ?_
    cases hq : (Value.slice A n c).ownBlock with
    | none => exact Apart.none _
    | some g => exact ⟨fun e => by injection e with e; have := (hown.lt hq).1; omega, hr g (hown.lt hq).1 hq⟩
  have h2 : All w3 (.own bO tid size A3 (n + 1) c3 (xs ++ u) :: .cells g6 tsl [.slice A n c] :: rest) := ⟨hown3, h1⟩
  refine ⟨h2, ?_, (KeepsOthers.of_grownBy hg3 fun j o' e ho => Own.isCells hown j o' e ho).trans (.setCell _ _ _)⟩
  have h3 := h2.store 1 rfl 0 (.slice A3 (n + 1) c3) ⟨fun g e => .inl (by injection e with e; omega), hr6⟩
  simpa using h3
/-- leaving with marks: no cell turns -/
theorem leaves_cells {F : Fence} {n : Nat} {P : Program} {fn : Func} {tmps : Array Value} {R : Ending → World → Prop} {B : Nat} : ∀ (Ds : List Nat) (W : World), (∀ D ∈ Ds, B ≤ D ∧ W.heap[D]? = some (.deferred (some []))) → Ds.Nodup → B ≤ W.heap.size →
    (∀ W', (∀ p, W'.cell? p = W.cell? p) → Below B W W' → W'.heap.size = W.heap.size → LeavesInM F n P fn tmps R [] .returning W') → LeavesInM F n P fn tmps R (Ds.map coll) .returning W
  | [], W, _, _, _, h => h W (fun _ => rfl) (Below.refl _ _) rfl
  | D :: Ds, W, hD, hn, hsz, h => by
    obtain ⟨hB, hK⟩ := hD D (by simp)
    refine ⟨by simp, .inl ⟨D, _, rfl, run_takeDeferred hK, ?_⟩⟩
    have hg := grownBy_putObj' W D (.deferred none)
    have hlt : D < W.heap.size := (Array.getElem?_eq_some_iff.1 hK).1
    refine leaves_cells Ds _ (fun D' hD' => ?_) (List.nodup_cons.1 hn).2 (by simpa using hsz) (fun W' hc hb hs => h W' (fun p => (hc p).trans ?_) (((Below.refl B W).grown hg hsz (fun k hk => by injection hk with hk; omega)).trans hb) (by rw [hs]; simp))
    · have hne : D ≠ D' := fun e => by subst e; exact (List.nodup_cons.1 hn).1 hD'
      obtain ⟨h1, h2⟩ := hD D' (by simp [hD'])
      exact ⟨h1, (World.putObj_heap_other (fun e => hne e.symm)).trans h2⟩
    · by_cases hp : p.block = D
      · have h1 : (W.putObj D (.deferred none)).heap[p.block]? = some (.deferred none) := by rw [hp]; exact World.putObj_heap_same hlt
        have h2 : W.heap[p.block]? = some (.deferred (some [])) := by rw [hp]; exact hK
        unfold World.cell?
        rw [h1, h2]
      · exact World.cell?_of_block (World.putObj_heap_other hp)
section
variable {P : Program} {w : World} {rs : List Res}
/-- append an element that points to blocks of its own onto a row of the call's own -/
theorem wl_app_nestG {ops : Array Oper} {rest : List Oper} {o : Oper} {a : Act} {Q : Exit → Act → World → Prop} {t e : TypeId} {z : Value} {size bytes : Nat} (E : ElemOf P t e z size bytes) (hR : All w rs) (i : Nat) (hgd : o.guard = none) (s x : Operand)
    (ho : o.op = .call { callee := .builtin .append, args := #[s, x], argTypes := #[t, t] })
    (base : Nat) (A0 : Option Addr) (n c0 : Nat) (xs : List Value) (B0 : Nat) (F : Nat → Prop) (In : World → Prop) (hi : rs[i]? = some (.nest base e size A0 n c0 xs B0 F In)) (hs : a.eval s = .slice A0 n c0)
    (B : Nat) (A : Option Addr) (m c : Nat) (news : List Value) (hx : a.eval x = .slice A m c) (hr : Rd w B size A m news) (h1 : ∀ u ∈ news, u.oneCell' = true)
    (hbytes : (n + m) * bytes ≤ 140737488355328) (hbase : base ≤ w.heap.size) (hB0 : B0 ≤ base)
    (F' : Nat → Prop) (In' : World → Prop) (hin : In' w) (hst : St B0 F' In') (hF' : ∀ b, F' b → base ≤ b ∧ b < w.heap.size ∧ (Value.slice A0 n c0).ownBlock ≠ some b)
    (hap : ∀ g, base ≤ g → (Value.slice A0 n c0).ownBlock = some g → Apart (some g) (rs.eraseIdx i))
    (h : ∀ A' c' w', All w' (rs.set i (.nest base e size A' (n + m) c' (xs ++ news) B0 (fun b => F b ∨ F' b) (fun w => In w ∧ In' w))) → w.heap.size ≤ w'.heap.size → w.grownBy w' (Value.slice A0 n c0).ownBlock → wpList P ops Q rest (a.put o.dst (.slice A' (n + m) c')) w') : wpList P ops Q (o :: rest) a w := by
  have hn : Nest w base e size A0 n c0 xs B0 F In := hR.at_ i hi
  refine wpList_plain hgd fun _ hK => wp_app6 w E s x ho base A0 n c0 xs hs hn.own B A m c news hx hr h1 hbytes hbase fun A' c' w' h2 h4 h6 => hK _ _ (h A' c' w' ?_ h4.size h4)
  refine All.upd h4 i _ hR ?_ ?_
  · refine Nest.of h2 ?_ (hn.st.and hst) ?_
    · refine (hn.st.and hst) w w' h4.size (fun b hb hlt => h4.block b hlt (fun e => ?_)) ⟨hn.inn, hin⟩
      rcases hb with hb | hb | hb
      · have := (hn.own.lt e.symm).1; omega
      · exact hn.ap b e.symm hb
      · exact (hF' b hb).2.2 e.symm
    · intro b hb
      have hq : base ≤ b ∧ b < w.heap.size ∧ (Value.slice A0 n c0).ownBlock ≠ some b := by
        rcases hb with hb | hb
        · exact ⟨(hn.fr b hb).1, (hn.fr b hb).2, fun e => hn.ap b e hb⟩
        · exact hF' b hb
      refine ⟨hq.1, Nat.lt_of_lt_of_le hq.2.1 h4.size, fun e => ?_⟩
      rcases h6 with h6 | h6
      · rw [h6] at e; exact hq.2.2 e
      · rw [h6] at e; injection e with e; omega
  · cases hq : (Value.slice A0 n c0).ownBlock with
    | none => exact Apart.none _
    | some g => exact hap g (hn.own.lt hq).1 hq
end
/-- what Decode leaves -/
def DecPost (b : List UInt8) (w : World) (e : Ending) (w' : World) : Prop := ∃ A n c, e = .returned (.tuple #[.slice A n c, .int .i64 (decR b).2]) ∧ Lines w' w'.heap.size A n (decR b).1 ∧ n ≤ c ∧ c ≤ maxLen ∧ Below w.heap.size w w'
theorem Lines.nil (w : World) (B : Nat) : Lines w B none 0 [] := ⟨rfl, by omega, [], Rd.nil, fun k hk => absurd hk (by simp)⟩
end Go.Adm
