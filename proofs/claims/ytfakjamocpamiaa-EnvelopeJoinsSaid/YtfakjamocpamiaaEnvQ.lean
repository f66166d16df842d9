/- light. -/
import Derived.Test.YtfakjamocpamiaaEnvO
set_option linter.unusedSimpArgs false
set_option linter.unusedVariables false
set_option maxRecDepth 100000
namespace Go.Proofs.Ytfakjamocpamiaa
open Go Go.RowKit Go.Adm
set_option maxHeartbeats 3200000 in
theorem lightE_any (w : World) (B : Nat) (R : EnvR) (cs : List Value) (hE : EnvAt w B R cs) (hk : R.kind.size ≤ 140737488355328) (hpl : R.pay.length ≤ 140737488355328) (hsl : R.sigs.length ≤ 140737488355328) (hsz : ∀ s ∈ R.sigs, s.chain.length ≤ 140737488355328 ∧ s.path.length ≤ 140737488355328) (hB : B ≤ w.heap.size) :
  Calls Try.prog 9 #[.agg cs.toArray] w (LitPost R w) := by
 obtain ⟨Ap, np, cp, As, ns, cc, l, rfl, hpn, hp, hlm, hl, hcp1, hcp2, hcs1, hcs2⟩ := hE
 obtain ⟨kind, pay, sigs⟩ := R
 dsimp only at *
 subst hlm
 rw [List.length_map, hl.len] at hsl
 rw [hpn] at hpl
 have HN := Lib.hid hl.len
 have HPN := Lib.hid hpn
 have HSZ := Lib.hid hsz
 have hR : All w [.low (.kss B As ns l), .kept w w.heap.size] := ⟨⟨hl, hB⟩, ⟨Below.refl _ _, Nat.le_refl _⟩, trivial⟩
 clear hl hp hpn hsz
 unfold LitPost
 go_enter Try.func9, Try.ntmps9
 go_upto_region 1 with (fail)
 obtain ⟨g, hg⟩ : ∃ g, g = w.heap.size := ⟨_, rfl⟩
 refine wp_gen (hR.new (l := envC kind Ap np cp As ns cc) (g := g) _ 25 hg rfl) ?_
 intro W1 hW1
 simp only [← hg]
 clear hR hg
 obtain ⟨q0, q1, q2⟩ := env_cells kind Ap np cp As ns cc (hW1.at_ 0 rfl)
 by_cases c1 : 100000 < np
 ·have d1 : decide ((100000 : Int) < (np : Int)) = true := by simp; omega
  have d1' : decide (100000 < np) = true := by simp; omega
  clear c1
  go_wp2_with fail
  go_ret
  exact ⟨.inl rfl, (hW1.at_ 2 rfl : _ ∧ _).1⟩
 have d1 : decide ((100000 : Int) < (np : Int)) = false := by simp; omega
 have d1' : decide (100000 < np) = false := by simp; omega
 by_cases c2 : 300 < kind.size
 ·have d2 : decide ((300 : Int) < (kind.size : Int)) = true := by simp; omega
  have d2' : decide (300 < kind.size) = true := by simp; omega
  clear c1 c2
  go_wp2_with fail
  go_ret
  exact ⟨.inl rfl, (hW1.at_ 2 rfl : _ ∧ _).1⟩
 have d2 : decide ((300 : Int) < (kind.size : Int)) = false := by simp; omega
 have d2' : decide (300 < kind.size) = false := by simp; omega
 by_cases c3 : 12 < ns
 ·have d3 : decide ((12 : Int) < (ns : Int)) = true := by simp; omega
  have d3' : decide (12 < ns) = true := by simp; omega
  clear c1 c2 c3
  go_wp2_with fail
  go_ret
  exact ⟨.inl rfl, (hW1.at_ 2 rfl : _ ∧ _).1⟩
 have d3 : decide ((12 : Int) < (ns : Int)) = false := by simp; omega
 have d3' : decide (12 < ns) = false := by simp; omega
 have HB1 : Hid (np ≤ 100000 ∧ kind.size ≤ 300 ∧ ns ≤ 12) := Lib.hid ⟨by omega, by omega, by omega⟩
 clear c1 c2 c3
 go_wp2_with fail
 clear d1 d1' d2 d2' d3 d3' q0 q1 q2
 go_loopw [3] (fun i wr => ∃ k : Nat, k ≤ ns ∧ i = .int .i64 k ∧ Hid (∀ j (hj : j < l.length), j < k → l[j].chain.length ≤ 100 ∧ l[j].path.length ≤ 20) ∧ All wr [.cells g 25 (envC kind Ap np cp As ns cc), .low (.kss B As ns l), .kept w w.heap.size]) (fun i _ => ns - (intOf i).toNat)
 case atStart => exact ⟨0, by omega, rfl, Lib.hid (fun j hj h => absurd h (by omega)), hW1⟩
 case round =>
  clear hW1
  obtain ⟨k, hk2, rfl, HA, hI⟩ := hrel
  have q2 := (env_cells kind Ap np cp As ns cc (hI.at_ 0 rfl)).2.2
  by_cases hlt : k < ns
  ·have d4 : decide ((k : Int) < (ns : Int)) = true := by simp; omega
   have hkl : k < l.length := by rw [HN.out]; exact hlt
   have hbl := (hI.at_ 1 rfl : Kss wr B As ns l ∧ B ≤ wr.heap.size)
   obtain ⟨ad, rfl, hadB, hc⟩ := Els.elem hbl.1.els hkl
   have hr := (hbl.1.each _ (List.getElem_mem hkl)).r16
   have q3' : wr.cell? (((ad.add (k * 20)).add 17).add 1) = some (.slice l[k].Ac l[k].chain.length l[k].cc) := by rw [add_add]; exact hc _ _ (ks_sg hr 1 _ rfl)
   have q4' : wr.cell? (((ad.add (k * 20)).add 17).add 2) = some (.slice l[k].Ap l[k].path.length l[k].cp) := by rw [add_add]; exact hc _ _ (ks_sg hr 2 _ rfl)
   have q3 : wr.cell? { block := (ad.add (k * 20)).block, off := (ad.add (k * 20)).off + 17 + 1, spot := none } = some (.slice l[k].Ac l[k].chain.length l[k].cc) := q3'
   have q4 : wr.cell? { block := (ad.add (k * 20)).block, off := (ad.add (k * 20)).off + 17 + 2, spot := none } = some (.slice l[k].Ap l[k].path.length l[k].cp) := q4'
   clear q3' q4'
   have hss := HSZ.out l[k].s (List.mem_map_of_mem (List.getElem_mem hkl))
   have hsc : l[k].chain.length ≤ 140737488355328 := hss.1
   have hsp : l[k].path.length ≤ 140737488355328 := hss.2
   have HAN : Hid (l[k].chain.length ≤ 100 → l[k].path.length ≤ 20 → ∀ j (hj : j < l.length), j < k + 1 → l[j].chain.length ≤ 100 ∧ l[j].path.length ≤ 20) := Lib.hid (fun h1 h2 j hj hjk => by
    rcases Nat.lt_succ_iff_lt_or_eq.1 hjk with h | h
    ·exact HA.out j hj h
    ·subst h; exact ⟨h1, h2⟩)
   clear hc hbl hss hr
   generalize l[k] = x at *
   have wk0 : (0 : Int) ≤ (k : Int) := by omega
   have wk1 : (k : Int) < (ns : Int) := by omega
   have wk2 : ((k : Int)).toNat = k := by omega
   by_cases c5 : 100 < x.chain.length
   ·have d5 : decide ((100 : Int) < (x.chain.length : Int)) = true := by simp; omega
    have d5' : decide (100 < x.chain.length) = true := by simp; omega
    clear c5 HAN
    go_wp2_with fail
    go_ret
    exact ⟨.inl rfl, (hI.at_ 2 rfl : _ ∧ _).1⟩
   have d5 : decide ((100 : Int) < (x.chain.length : Int)) = false := by simp; omega
   have d5' : decide (100 < x.chain.length) = false := by simp; omega
   by_cases c6 : 20 < x.path.length
   ·have d6 : decide ((20 : Int) < (x.path.length : Int)) = true := by simp; omega
    have d6' : decide (20 < x.path.length) = true := by simp; omega
    clear c5 c6 HAN
    go_wp2_with fail
    go_ret
    exact ⟨.inl rfl, (hI.at_ 2 rfl : _ ∧ _).1⟩
   have d6 : decide ((20 : Int) < (x.path.length : Int)) = false := by simp; omega
   have d6' : decide (20 < x.path.length) = false := by simp; omega
   have HA2 := Lib.hid (HAN.out (by omega) (by omega))
   clear c5 c6 HAN
   go_wp2_with fail
   exact ⟨⟨k + 1, by omega, by go_num, HA2, hI⟩, by simp [intOf]; omega⟩
  ·obtain rfl : k = ns := by omega
   have d1 : decide ((k : Int) < (k : Int)) = false := by simp
   have HF : Hid (LightR ⟨kind, pay, l.map Ks.s⟩) := Lib.hid ⟨by show pay.length ≤ 100000; rw [HPN.out]; exact HB1.out.1, HB1.out.2.1, by show (l.map Ks.s).length ≤ 12; rw [List.length_map, HN.out]; exact HB1.out.2.2, fun s hs => by
    obtain ⟨x, hx, rfl⟩ := List.mem_map.1 hs
    obtain ⟨j, hj, rfl⟩ := List.getElem_of_mem hx
    exact HA.out j hj (by rw [← HN.out]; exact hj)⟩
   go_wp2_with fail
   go_ret
   exact ⟨.inr ⟨rfl, HF.out⟩, (hI.at_ 2 rfl : _ ∧ _).1⟩
end Go.Proofs.Ytfakjamocpamiaa
