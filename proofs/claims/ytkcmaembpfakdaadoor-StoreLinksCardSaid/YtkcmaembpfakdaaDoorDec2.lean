/- bytes.SplitSeq at a separator of one byte: the iterator and its contract. -/
import Derived.Test.YtkcmaembpfakdaaDoorRngC
import Derived.Test.YtkcmaembpfakdaaDoorDec1
set_option linter.unusedSimpArgs false
set_option linter.unusedVariables false
set_option maxRecDepth 100000
namespace Go.Adm
open Go Go.RowKit
/-- a part of the bytes: where it lies, its bytes, as they read in the world w0 -/
def Pc (w0 : World) (B : Nat) := { x : Option Addr × Nat × List UInt8 // Rd w0 B 1 x.1 x.2.1 (x.2.2.map bv) }
def mkPc {w0 : World} {B n : Nat} {A : Option Addr} {p : List UInt8} (h : Rd w0 B 1 A n (p.map bv)) : Pc w0 B := ⟨(A, n, p), h⟩
def pcV {w0 : World} {B : Nat} (x : Pc w0 B) : Array Value := #[.slice x.1.1 x.1.2.1 x.1.2.1]
def pcB {w0 : World} {B : Nat} (x : Pc w0 B) : List UInt8 := x.1.2.2
/-- what a round keeps of the iterator's memory -/
def KpS (gs : Nat) (rs : List Res) (W W' : World) : Prop := W'.heap[gs]? = W.heap[gs]? ∧ (All W rs → All W' rs)
def nAt (W : World) (g : Nat) : Nat := match W.cell? ⟨g, 0, none⟩ with
  | some (.slice _ n _) => n
  | _ => 0
end Go.Adm
namespace Go.Proofs.YtkcmaembpfakdaaDoor
open Go Go.RowKit Go.Adm Go.Shelf
attribute [local go_sem] Oper.semAt_some

theorem splitSeq_any (w : World) (A A1 : Option Addr) (n c n1 c1 : Nat) :
    Calls Tryd.prog 43 #[.slice A n c, .slice A1 n1 c1, .int .i64 0] w fun e w' => e = .returned (.func (.func 59) #[] #[.pointer (some ⟨w.heap.size + 1, 0, none⟩), .pointer (some ⟨w.heap.size, 0, none⟩), .pointer (some ⟨w.heap.size + 1 + 1, 0, none⟩)]) ∧
      w' = ((w.alloc (.cells #[.slice A n c] 22)).alloc (.cells #[.slice A1 n1 c1] 22)).alloc (.cells #[.int .i64 0] 3) := by
  go_enter Tryd.func43, Tryd.ntmps43
  go_wp2_with fail
  go_ret
  exact ⟨by simp, rfl⟩
theorem SplitSeq_any (w : World) (A A1 : Option Addr) (n c n1 c1 : Nat) :
    Calls Tryd.prog 27 #[.slice A n c, .slice A1 n1 c1] w fun e w' => e = .returned (.func (.func 59) #[] #[.pointer (some ⟨w.heap.size + 1, 0, none⟩), .pointer (some ⟨w.heap.size, 0, none⟩), .pointer (some ⟨w.heap.size + 1 + 1, 0, none⟩)]) ∧
      w' = ((w.alloc (.cells #[.slice A n c] 22)).alloc (.cells #[.slice A1 n1 c1] 22)).alloc (.cells #[.int .i64 0] 3) := by
  go_enter Tryd.func27, Tryd.ntmps27
  go_wp2_with fail
  refine (splitSeq_any w A A1 n c n1 c1).mono ?_
  rintro e w' ⟨rfl, rfl⟩
  go_wp2_with fail
  go_ret
  exact ⟨rfl, rfl⟩

set_option maxHeartbeats 6400000 in
/-- the iterator hands over the parts of the bytes, one by one -/
theorem split_stops (n : Nat) (hn : 1 ≤ n) (gs gp gz g1 B c1 : Nat) (A : Option Addr) (m c : Nat) (l : List UInt8) (w0 w : World) (hl : Rd w0 B 1 A m (l.map bv)) (hmc : m ≤ c) (hcm : c ≤ maxLen) (hB : B ≤ w0.heap.size)
    (hgs : gs < w.heap.size) (h1 : gs ≠ gp) (h2 : gs ≠ gz) (h3 : gs ≠ g1) (h4 : w0.heap.size ≤ gs) (hs : Cells w gs 22 [.slice A m c])
    (hR : All w [.cells gp 22 [.slice (some ⟨g1, 0, none⟩) 1 c1], .cells gz 3 [.int .i64 0], .cells g1 5 [bv 32], .kept w0 w0.heap.size]) :
    SeqC Fence.wide n Tryd.prog 59 #[.pointer (some ⟨gp, 0, none⟩), .pointer (some ⟨gs, 0, none⟩), .pointer (some ⟨gz, 0, none⟩)] (pcV (w0 := w0) (B := B)) gs
      (KpS gs [.cells gp 22 [.slice (some ⟨g1, 0, none⟩) 1 c1], .cells gz 3 [.int .i64 0], .cells g1 5 [bv 32], .kept w0 w0.heap.size])
      (fun xs => xs.map pcB = splitB 32 l) (fun pre => ∃ t, pre.map pcB ++ t = splitB 32 l) w := by
  intro lb J Jx W hW hJ hJx hY h0
  have hRW := hR.call hW
  have hsW : Cells W gs 22 [.slice A m c] := hs.below hW hgs
  have HW : Hid (gs < W.heap.size) := Lib.hid (Nat.lt_of_lt_of_le hgs hW.size)
  clear hR hs hW
  refine callsIn_of_wp Tryd.func59 rfl trivial ?_ rfl
  simp only [Tryd.ntmps59, List.size_toArray, List.length_cons, List.length_nil, Nat.reduceAdd, Nat.reduceSub, Array.replicate_succ, Array.replicate_zero, List.push_toArray, List.append_toArray, List.nil_append, List.cons_append]
  have k1 : W.cell? ⟨gp, 0, none⟩ = some (.slice (some ⟨g1, 0, none⟩) 1 c1) := Cells.cell (hRW.at_ 0 rfl) (i := 0) (by simp)
  gi_wp2
  clear k1
  gi_loopw [7] (fun _ wr => ∃ (A' : Option Addr) (n' c' : Nat) (r : List UInt8) (pre : List (Pc w0 B)), Rd w0 B 1 A' n' (r.map bv) ∧ n' ≤ c' ∧ c' ≤ maxLen ∧ Hid (pre.map pcB ++ splitB 32 r = splitB 32 l) ∧ Cells wr gs 22 [.slice A' n' c'] ∧ J pre wr ∧ All wr [.cells gp 22 [.slice (some ⟨g1, 0, none⟩) 1 c1], .cells gz 3 [.int .i64 0], .cells g1 5 [bv 32], .kept w0 w0.heap.size]) (fun _ wr => nAt wr gs)
  case atStart => exact ⟨A, m, c, l, [], hl, hmc, hcm, Lib.hid rfl, hsW, h0, hRW⟩
  case round =>
    clear h0 hsW hRW hl hmc hcm
    obtain ⟨A', n', c', r, pre, hrd, hnc, hcm, HP, hS, hJp, hI⟩ := hrel
    have hcm' : c' ≤ 9223372036854775807 := hcm
    have HRD := Lib.hid hrd
    have HLR : Hid (r.length = n') := Lib.hid (by have := hrd.len; simpa using this)
    have hrw : Rd wr B 1 A' n' (r.map bv) := hrd.below (hI.at_ 3 rfl : Below w0.heap.size w0 wr ∧ _).1 hB
    have hNA : Hid (nAt wr gs = n') := Lib.hid (by unfold nAt; rw [Cells.cell hS (i := 0) (by simp)]; rfl)
    have k1 : wr.cell? ⟨gp, 0, none⟩ = some (.slice (some ⟨g1, 0, none⟩) 1 c1) := Cells.cell (hI.at_ 0 rfl) (i := 0) (by simp)
    have k2 : wr.cell? ⟨gs, 0, none⟩ = some (.slice A' n' c') := Cells.cell hS (i := 0) (by simp)
    have k3 : wr.cell? ⟨gz, 0, none⟩ = some (.int .i64 0) := Cells.cell (hI.at_ 1 rfl) (i := 0) (by simp)
    have hix := bytesIndex1_any wr B n' c' c1 A' ⟨g1, 0, none⟩ r 32 hrw (Cells.cell (hI.at_ 2 rfl) (i := 0) (by simp))
    clear hrd hrw
    by_cases hm : (32 : UInt8) ∈ r
    · obtain ⟨i, hi1, hi2, hi3, hi4⟩ := ix_some hm
      rw [hi1] at hix
      have HI4 := Lib.hid hi4
      have HI3 := Lib.hid hi3
      have hin : i < n' := by have := HLR.out; omega
      clear hm hi1 hi2 hi3 hi4
      obtain ⟨ad, rfl, -, -⟩ := HRD.out.at_ (by omega)
      have htk : Rd w0 B 1 (some ad) i ((r.take i).map bv) := by
        have := HRD.out.take (k := i) (by omega)
        rw [Nat.mul_one] at this
        rwa [List.map_take]
      have HP2 : Hid ((pre ++ [mkPc htk]).map pcB ++ splitB 32 (r.drop (i + 1)) = splitB 32 l) := Lib.hid (by
        have e1 : splitB 32 r = r.take i :: splitB 32 (r.drop (i + 1)) := by
          have := splitB_app (c := 32) (r.drop (i + 1)) HI3.out
          rwa [← HI4.out] at this
        rw [← HP.out, e1, List.map_append, List.append_assoc]
        rfl)
      obtain ⟨fn, tmps, assign, body, hy, hR⟩ := hY pre (mkPc htk) wr hJp ⟨_, HP2.out⟩
      have hy' : (Instr.yield lb #[.slice (some ad) i i]).run Tryd.prog wr = .ok (.round lb fn tmps assign body) wr := hy
      have i0 : (0 : Int) ≤ (i : Int) := by omega
      have i1 : (i : Int) ≤ (n' : Int) := by omega
      have i2 : (i : Int) ≤ (c' : Int) := by omega
      have i3 : ((i : Int)).toNat = i := by omega
      have w1 : IntKind.i64.wrap ((i : Int) + 1) = (i : Int) + 1 := by rw [IntWalk.i64_in _ (by omega)]
      have i4 : (0 : Int) ≤ (i : Int) + 1 := by omega
      have i5 : (i : Int) + 1 ≤ (n' : Int) := by omega
      have i6 : ((i : Int) + 1).toNat = i + 1 := by omega
      have i7 : (i : Int) + 1 ≤ (c' : Int) := by omega
      have dneg : decide ((i : Int) < 0) = false := by simp
      gi_wp2_with (first
        | (refine ⟨trivial, ?_⟩; gi_at_call 42; refine (callsIn_wide.2 hix).mono ?_; clear hix; rintro e w' ⟨rfl, rfl⟩))
      refine hR.mono ?_
      clear hR hy hy' k1 k2 k3
      have HAP : Hid (Apart (some gs) [.cells gp 22 [.slice (some ⟨g1, 0, none⟩) 1 c1], .cells gz 3 [.int .i64 0], .cells g1 5 [bv 32], .kept w0 w0.heap.size]) := Lib.hid ⟨fun e => h1 (by injection e with e; exact e.symm), fun e => h2 (by injection e with e; exact e.symm), fun e => h3 (by injection e with e; exact e.symm), fun q e => by { injection e with e; subst e; exact h4 }, trivial⟩
      rintro e W' (⟨rfl, hJ', hk⟩ | ⟨rfl, hJx'⟩)
      · have hI' := hk.2 hI
        have hS' : Cells W' gs 22 [.slice (some ad) n' c'] := hk.1.trans hS
        have k1' : W'.cell? ⟨gp, 0, none⟩ = some (.slice (some ⟨g1, 0, none⟩) 1 c1) := Cells.cell (hI'.at_ 0 rfl) (i := 0) (by simp)
        have k2' : W'.cell? ⟨gs, 0, none⟩ = some (.slice (some ad) n' c') := Cells.cell hS' (i := 0) (by simp)
        have f2 : W'.frozen? ⟨gs, 0, none⟩ = false := Cells.frozen hS' 0
        clear hI hS hJp hk HI4 HI3 HP
        by_cases hci : c' = i + 1
        · have hni : n' = i + 1 := by omega
          have hrd2 : Rd w0 B 1 (some ad) 0 ((r.drop (i + 1)).map bv) := by
            have h0 : (r.drop (i + 1)) = [] := List.drop_of_length_le (by have := HLR.out; omega)
            rw [h0]
            exact ⟨by simp, fun h => absurd h (by omega)⟩
          subst hci
          obtain rfl : n' = i + 1 := hni
          have HRD2 := Lib.hid hrd2
          clear hrd2
          gi_wp2
          have hS3 : Cells (W'.setCell ⟨gs, 0, none⟩ (.slice (some ad) 0 0)) gs 22 [.slice (some ad) 0 0] := hS'.store 0 _
          have hJ3 := hJ _ _ _ (some gs) hJ' (grown_setCell W' ⟨gs, 0, none⟩ (.slice (some ad) 0 0)) (fun q e => Or.inl (by injection e with e; exact e.symm))
          have hI3 := hI'.setCell ⟨gs, 0, none⟩ (.slice (some ad) 0 0) HAP.out
          clear hS' hJ' hI' f2 k2'
          go_roundw
          case rel => exact ⟨_, _, _, r.drop (i + 1), pre ++ [(mkPc htk)], HRD2.out, by omega, by simp only [maxLen]; omega, HP2, hS3, hJ3, hI3⟩
          case measure =>
            rw [hNA.out]
            unfold nAt
            rw [Cells.cell hS3 (i := 0) (by simp)]
            show 0 < _
            omega
        · have hci' : ¬ (c' = i + 1) := hci
          have hrd2 : Rd w0 B 1 (some ⟨ad.block, ad.off + (i + 1), none⟩) (n' - (i + 1)) ((r.drop (i + 1)).map bv) := by
            have hcut := HRD.out.cut (k := i + 1) (cap := c') (by omega) hnc
            rw [if_neg hci', Nat.mul_one] at hcut
            have e : ad.add (i + 1) = ⟨ad.block, ad.off + (i + 1), none⟩ := rfl
            rw [← e, List.map_drop]; exact hcut
          have HRD2 := Lib.hid hrd2
          clear hrd2
          gi_wp2
          have hS3 : Cells (W'.setCell ⟨gs, 0, none⟩ (.slice (some ⟨ad.block, ad.off + (i + 1), none⟩) (n' - (i + 1)) (c' - (i + 1)))) gs 22 [.slice (some ⟨ad.block, ad.off + (i + 1), none⟩) (n' - (i + 1)) (c' - (i + 1))] := hS'.store 0 _
          have hJ3 := hJ _ _ _ (some gs) hJ' (grown_setCell W' ⟨gs, 0, none⟩ (.slice (some ⟨ad.block, ad.off + (i + 1), none⟩) (n' - (i + 1)) (c' - (i + 1)))) (fun q e => Or.inl (by injection e with e; exact e.symm))
          have hI3 := hI'.setCell ⟨gs, 0, none⟩ (.slice (some ⟨ad.block, ad.off + (i + 1), none⟩) (n' - (i + 1)) (c' - (i + 1))) HAP.out
          clear hS' hJ' hI' f2 k2'
          go_roundw
          case rel => exact ⟨_, _, _, r.drop (i + 1), pre ++ [(mkPc htk)], HRD2.out, by omega, by simp only [maxLen]; omega, HP2, hS3, hJ3, hI3⟩
          case measure =>
            rw [hNA.out]
            unfold nAt
            rw [Cells.cell hS3 (i := 0) (by simp)]
            show (n' - (i + 1)) < _
            omega
      · gi_wp2
        refine bodyPost_ret (results_none rfl _ _ _) rfl ?_
        exact ⟨⟨_, rfl⟩, .inr ⟨_, ⟨_, HP2.out⟩, hJx'⟩⟩
    · rw [ix_none hm] at hix
      have HP2 : Hid ((pre ++ [mkPc HRD.out]).map pcB = splitB 32 l) := Lib.hid (by
        rw [← HP.out, splitB_none hm, List.map_append]
        rfl)
      obtain ⟨fn, tmps, assign, body, hy, hR⟩ := hY pre (mkPc HRD.out) wr hJp ⟨[], by rw [List.append_nil]; exact HP2.out⟩
      have hy' : (Instr.yield lb #[.slice A' n' n']).run Tryd.prog wr = .ok (.round lb fn tmps assign body) wr := hy
      have n2 : (n' : Int) ≤ (c' : Int) := by omega
      clear hm
      gi_wp2_with (first
        | (refine ⟨trivial, ?_⟩; gi_at_call 42; refine (callsIn_wide.2 hix).mono ?_; clear hix; rintro e w' ⟨rfl, rfl⟩))
      refine hR.mono ?_
      clear hR hy hy' k1 k2 k3
      rintro e W' (⟨rfl, hJ', hk⟩ | ⟨rfl, hJx'⟩)
      · gi_wp2
        go_end0
        exact ⟨⟨_, rfl⟩, .inl ⟨_, HP2.out, hJ'⟩⟩
      · gi_wp2
        go_end0
        exact ⟨⟨_, rfl⟩, .inr ⟨_, ⟨[], by rw [List.append_nil]; exact HP2.out⟩, hJx'⟩⟩
end Go.Proofs.YtkcmaembpfakdaaDoor
