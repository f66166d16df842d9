/- Reading records: what both laws use. -/
import Derived.Test.YtjdinakdkdjocaaGreatDoorRdX
set_option linter.unusedSimpArgs false
set_option linter.unusedVariables false
set_option maxRecDepth 100000
namespace Go.AdR
open Go Go.RowKit Go.Adm
theorem RecIn.mono {w : World} {B B' : Nat} {x : Rec} {sc se sm sp : Sl} (h : RecIn w B x sc se sm sp) (hB : B ≤ B') : RecIn w B' x sc se sm sp := ⟨h.cmd.mono hB, h.env.mono hB, h.mat.mono hB, h.prod.mono hB⟩
end Go.AdR
namespace Go.Proofs.YtjdinakdkdjocaaGreatDoor
open Go Go.RowKit Go.Adm Go.AdR
theorem RecPost.full {x : Rec} {w : World} {e : Ending} {w' : World} (h : RecPost x w e w') (hb : recB x = true) (hd : docE (recLs x) = 0) : ∃ A n c, e = .returned (.tuple #[.slice A n c, .int .i64 0]) ∧ Below w.heap.size w w' ∧ Go.Adm.Own w' w.heap.size 5 1 A n c ((encD (recLs x)).map bv) := by
  obtain ⟨a, b, rfl, hbl, h1, -⟩ := h
  obtain ⟨A, n, c, rfl, rfl, h3, -⟩ := h1 hb
  exact ⟨A, n, c, by rw [hd], hbl, h3 hd⟩
theorem recRes_small (b : List UInt8) : RecOk (recRes b).1 ∧ (recRes b).1.mat.length ≤ 400000 ∧ (recRes b).1.prod.length ≤ 400000 := by
  have hN : RecOk recN ∧ recN.mat.length ≤ 400000 ∧ recN.prod.length ≤ 400000 := ⟨⟨by decide, by decide, by decide, fun _ h => (by cases h), fun _ h => (by cases h), fun _ h => (by cases h), by decide, by decide, by decide, by decide⟩, by decide, by decide⟩
  by_cases h0 : (decR b).2 = 0
  · cases hp : recParse (decR b).1 with
    | none => rw [recRes_none h0 hp]; exact hN
    | some x =>
      rw [recRes_some h0 hp]
      split
      · refine ⟨(parsed_ok hp).1, ?_⟩
        have hc := decR_count b
        rw [← recParse_ls hp] at hc
        unfold recLs entLs at hc
        simp only [List.length_append, List.length_cons, List.length_nil, List.length_map] at hc
        exact ⟨by show x.mat.length ≤ _; omega, by show x.prod.length ≤ _; omega⟩
      · exact hN
  · rw [recRes_err h0]; exact hN
end Go.Proofs.YtjdinakdkdjocaaGreatDoor
