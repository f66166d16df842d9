/- Records are decoded: the reference. -/
import Derived.Test.YtjdinakdkdjocaaGreatDoorRdX
import Derived.Test.YtjdinakdkdjocaaGreatDoorRdB
import Derived.Test.YtjdinakdkdjocaaGreatDoorDecC
import Derived.Test.YtjdinakdkdjocaaGreatDoorRecJ
set_option linter.unusedSimpArgs false
set_option linter.unusedVariables false
set_option maxRecDepth 100000
namespace Go.AdR
open Go Go.RowKit Go.Adm
theorem recParse_head {run scope step nu : ByteArray} {cmd : List ByteArray} {rest : List (List ByteArray)} : recParse ([recW, run, scope, step, nu] :: (cmdW :: cmd) :: rest) = match parseS nu.data.toList with
    | some k => if tailOk rest = true then some (tailR run scope step k cmd rest) else none
    | none => none := by
  rw [recParse, if_pos (by decide)]
  rfl
theorem recParse_few {ls : List (List ByteArray)} (h : ls.length < 2) : recParse ls = none := by
  unfold recParse
  split
  · simp only [List.length_cons] at h; omega
  · rfl
theorem recParse_not5 {l0 : List ByteArray} {ls : List (List ByteArray)} (h : l0.length ≠ 5) : recParse (l0 :: ls) = none := by
  unfold recParse
  split
  · rename_i he
    injection he with h1 h2
    subst h1
    exact absurd rfl h
  · rfl
theorem recParse_word {t0 run scope step nu : ByteArray} {ls : List (List ByteArray)} (h : t0 ≠ recW) : recParse ([t0, run, scope, step, nu] :: ls) = none := by
  unfold recParse
  split
  · rename_i he
    injection he with h1 h2
    injection h1 with h1 _
    subst h1
    rw [if_neg (by simp [h])]
  · rfl
theorem recParse_cmd {l0 cmd : List ByteArray} {t1 : ByteArray} {ls : List (List ByteArray)} (h : t1 ≠ cmdW) : recParse (l0 :: (t1 :: cmd) :: ls) = none := by
  unfold recParse
  split
  · rename_i he
    injection he with _ h2
    injection h2 with h2 _
    injection h2 with h2 _
    subst h2
    rw [if_neg (by simp [h])]
  · rfl
/-- the variables of the first lines -/
def EnvTo (rest : List (List ByteArray)) (r : Nat) (o : List Var) : Prop := o = (rest.take r).filterMap varOf ∧ o.length = r ∧ ∀ j (hj : j < rest.length), j < r → (varOf rest[j]).isSome = true
theorem EnvTo.zero (rest : List (List ByteArray)) : EnvTo rest 0 [] := ⟨rfl, rfl, fun _ _ h => absurd h (by omega)⟩
theorem EnvTo.succ {rest : List (List ByteArray)} {k : Nat} {o : List Var} (h : EnvTo rest k o) (hk : k < rest.length) {e : Var} (he : varOf rest[k] = some e) : EnvTo rest (k + 1) (o ++ [e]) := by
  obtain ⟨h1, h2, h4⟩ := h
  refine ⟨?_, by simp [h2], fun i hi hik => ?_⟩
  · rw [List.take_succ_eq_append_getElem hk, List.filterMap_append, ← h1]
    simp [he]
  · rcases Nat.lt_or_eq_of_le (Nat.le_of_lt_succ hik) with h | h
    · exact h4 i hi h
    · subst h; rw [he]; rfl
theorem take_at {rest : List (List ByteArray)} {j : Nat} (hj : j < rest.length) (h : j < runS envW rest) : rest[j] ∈ rest.takeWhile (isTag envW) := by
  rw [← run_take]
  rw [List.mem_take_iff_getElem]
  exact ⟨j, by omega, rfl⟩
theorem tail_env {rest : List (List ByteArray)} {j : Nat} (hj : j < rest.length) (h : j < runS envW rest) (hv : varOf rest[j] = none) : tailOk rest = false := by
  unfold tailOk
  have : ((rest.takeWhile (isTag envW)).all fun l => (varOf l).isSome) = false := by
    rw [List.all_eq_false]
    exact ⟨_, take_at hj h, by rw [hv]; decide⟩
  rw [this]; rfl
theorem raw_isSome (tag : ByteArray) (ls : List (List ByteArray)) : (rawS tag ls).isSome = ls.all (fun l => (lineOf tag l).isSome) := by
  unfold rawS
  split
  · rename_i h; rw [h]; rfl
  · rename_i h; simp at h; simp [h]
theorem raw_val {tag : ByteArray} {ls : List (List ByteArray)} {a : List E} (h : rawS tag ls = some a) : ls.filterMap (lineOf tag) = a := by
  unfold rawS at h
  split at h
  · exact Option.some.inj h
  · cases h
theorem ref_tail {rest : List (List ByteArray)} {r nm np : Nat} (hr : r = runS envW rest) (hm : nm = runS matW (rest.drop r)) (hp : np = runS proW (rest.drop (r + nm))) {o : List Var} (ho : EnvTo rest r o) :
    (tailOk rest = ((rawS matW ((rest.drop r).take nm)).isSome && ((rawS proW ((rest.drop (r + nm)).take np)).isSome && decide (rest.length ≤ r + nm + np)))) ∧
    ∀ a p, rawS matW ((rest.drop r).take nm) = some a → rawS proW ((rest.drop (r + nm)).take np) = some p → ∀ run scope step k cmd, tailR run scope step k cmd rest = ⟨run, scope, step, k, cmd, o, a, p⟩ := by
  have e1 : rest.dropWhile (isTag envW) = rest.drop r := by rw [hr, run_drop]
  have e2 : (rest.dropWhile (isTag envW)).dropWhile (isTag matW) = rest.drop (r + nm) := by rw [e1, ← run_drop, ← hm, List.drop_drop]
  have e3 : ((rest.dropWhile (isTag envW)).dropWhile (isTag matW)).dropWhile (isTag proW) = rest.drop (r + nm + np) := by rw [e2, ← run_drop, ← hp, List.drop_drop]
  have t1 : rest.takeWhile (isTag envW) = rest.take r := by rw [hr, run_take]
  have t2 : (rest.dropWhile (isTag envW)).takeWhile (isTag matW) = (rest.drop r).take nm := by rw [e1, hm, run_take]
  have t3 : ((rest.dropWhile (isTag envW)).dropWhile (isTag matW)).takeWhile (isTag proW) = (rest.drop (r + nm)).take np := by rw [e2, hp, run_take]
  have hall : ((rest.takeWhile (isTag envW)).all fun l => (varOf l).isSome) = true := by
    rw [List.all_eq_true]
    intro x hx
    rw [t1, List.mem_take_iff_getElem] at hx
    obtain ⟨j, hj, rfl⟩ := hx
    exact ho.2.2 j (by omega) (by omega)
  have he : (((rest.dropWhile (isTag envW)).dropWhile (isTag matW)).dropWhile (isTag proW)).isEmpty = decide (rest.length ≤ r + nm + np) := by
    rw [e3]
    by_cases h : rest.length ≤ r + nm + np
    · rw [List.drop_eq_nil_of_le h, decide_eq_true h]; rfl
    · rw [decide_eq_false h]
      cases hd : rest.drop (r + nm + np) with
      | nil => rw [List.drop_eq_nil_iff] at hd; exact absurd hd h
      | cons _ _ => rfl
  refine ⟨?_, fun a p ha hp' run scope step k cmd => ?_⟩
  · unfold tailOk
    rw [hall, he, t2, t3, ← raw_isSome, ← raw_isSome]
    rfl
  · unfold tailR
    rw [t1, t2, t3, raw_val ha, raw_val hp', ← ho.1]
theorem ref_fin {X : Prop} {Y : Rec → Prop} {run scope step nu : ByteArray} {cmd : List ByteArray} {rest : List (List ByteArray)} {k : Nat} (hk : parseS nu.data.toList = some k) (hN : recParse ([recW, run, scope, step, nu] :: (cmdW :: cmd) :: rest) = none → X) (hS : ∀ x, recParse ([recW, run, scope, step, nu] :: (cmdW :: cmd) :: rest) = some x → Y x)
    {r : Nat} (hr : r = runS envW rest) {o : List Var} (ho : EnvTo rest r o) {nm np : Nat} (hm : nm = runS matW (rest.drop r)) (hp : np = runS proW (rest.drop (r + nm))) :
    (rawS matW ((rest.drop r).take nm) = none ∨ rawS proW ((rest.drop (r + nm)).take np) = none ∨ r + nm + np < rest.length → X) ∧
    ∀ a p, rawS matW ((rest.drop r).take nm) = some a → rawS proW ((rest.drop (r + nm)).take np) = some p → rest.length ≤ r + nm + np → Y ⟨run, scope, step, k, cmd, o, a, p⟩ := by
  obtain ⟨h1, h2⟩ := ref_tail hr hm hp ho
  rw [recParse_head, hk] at hN hS
  dsimp only at hN hS
  refine ⟨fun h => hN ?_, fun a p ha hp' hle => hS _ ?_⟩
  · rw [h1, if_neg]
    rcases h with h | h | h
    · rw [h]; simp
    · rw [h]; simp
    · rw [decide_eq_false (by omega)]; simp
  · rw [h1, ha, hp', decide_eq_true hle, h2 a p ha hp']
    rfl
theorem lines_sub {w : World} {B n c i k : Nat} {A : Option Addr} {ls : List (List ByteArray)} (h : Lines w B A n ls) (hik : i + k ≤ n) (hnc : n ≤ c) : Lines w B (if c = i then A else A.map (·.add i)) k ((ls.drop i).take k) := by
  have hl := h.len
  obtain ⟨vs, hr, hv⟩ := h.rows
  have hc := (hr.cut (k := i) (cap := c) (by omega) hnc).take (k := k) (by omega)
  refine ⟨by rw [List.length_take, List.length_drop]; omega, by have := h.le; omega, (vs.drop i).take k, by simpa using hc, fun j hj => ?_⟩
  rw [List.length_take, List.length_drop] at hj
  obtain ⟨A', c', h1, h2, h3, h4⟩ := hv (i + j) (by omega)
  have e : ((ls.drop i).take k)[j]'(by rw [List.length_take, List.length_drop]; omega) = ls[i + j] := by rw [List.getElem_take, List.getElem_drop]
  rw [e]
  refine ⟨A', c', ?_, h2, h3, h4⟩
  rw [List.getElem?_take_of_lt (by omega), List.getElem?_drop]
  exact h1
/-- a block whose cells do not hold a value is not where the value stands -/
theorem not_box {w : World} {g : Nat} {t : TypeId} {cs : List Value} {ad : Addr} {v : Value} (h : Cells w g t cs) (hv : w.cell? ad = some v) (hm : v ∉ cs) : ad.block ≠ g := by
  intro e
  apply hm
  unfold World.cell? at hv
  rw [e, show w.heap[g]? = _ from h] at hv
  dsimp only at hv
  split at hv
  · cases hv
  · rw [List.getElem?_toArray] at hv
    exact List.mem_of_getElem? hv
theorem cmd_not : Value.string cmdW ∉ recZ := by
  intro h
  simp only [recZ, List.mem_cons, List.mem_nil_iff, or_false] at h
  rcases h with h | h | h | h | h | h | h | h
  all_goals first
    | (injection h with h; exact absurd (congrArg ByteArray.size h) (by decide))
    | cases h
theorem fill_rec5 (a b c : ByteArray) (k : Int) (m : Sl) : Instr.fill (#[(0, 1), (1, 1), (2, 1), (3, 1), (4, 1), (5, 1), (6, 1), (7, 1)][·]?) recZ.toArray [(0, .string a), (1, .string b), (2, .string c), (3, .int .i64 k), (4, .slice m.A m.n m.c)] = some #[.string a, .string b, .string c, .int .i64 k, .slice m.A m.n m.c, .slice none 0 0, .slice none 0 0, .slice none 0 0] := by
  refine (fill_step (off := 0) (size := 1) (es := [.string a]) (pre := []) (old := [Value.string ByteArray.empty]) (post := [Value.string ByteArray.empty, Value.string ByteArray.empty, Value.int .i64 0, Value.slice none 0 0, Value.slice none 0 0, Value.slice none 0 0, Value.slice none 0 0]) rfl rfl rfl rfl rfl rfl).trans ?_
  refine (fill_step (off := 1) (size := 1) (es := [.string b]) (pre := [.string a]) (old := [Value.string ByteArray.empty]) (post := [Value.string ByteArray.empty, Value.int .i64 0, Value.slice none 0 0, Value.slice none 0 0, Value.slice none 0 0, Value.slice none 0 0]) rfl rfl rfl rfl rfl rfl).trans ?_
  refine (fill_step (off := 2) (size := 1) (es := [.string c]) (pre := [.string a, .string b]) (old := [Value.string ByteArray.empty]) (post := [Value.int .i64 0, Value.slice none 0 0, Value.slice none 0 0, Value.slice none 0 0, Value.slice none 0 0]) rfl rfl rfl rfl rfl rfl).trans ?_
  refine (fill_step (off := 3) (size := 1) (es := [.int .i64 k]) (pre := [.string a, .string b, .string c]) (old := [Value.int .i64 0]) (post := [Value.slice none 0 0, Value.slice none 0 0, Value.slice none 0 0, Value.slice none 0 0]) rfl rfl rfl rfl rfl rfl).trans ?_
  refine (fill_step (off := 4) (size := 1) (es := [.slice m.A m.n m.c]) (pre := [.string a, .string b, .string c, .int .i64 k]) (old := [Value.slice none 0 0]) (post := [Value.slice none 0 0, Value.slice none 0 0, Value.slice none 0 0]) rfl rfl rfl rfl rfl rfl).trans ?_
  rfl
def _root_.Go.Adm.VF.box (base : Nat) (t : TypeId) (cs : List Value) : VF := .gen (fun w v => ∃ g, v = .pointer (some ⟨g, 0, none⟩) ∧ base ≤ g ∧ Cells w g t cs) fun _ _ _ hg ⟨g, hv, hb, h⟩ =>
  ⟨g, hv, hb, Res.step (r := .cells g t cs) hg h (Res.apart_none _)⟩
theorem strs_st {A : Option Addr} {n : Nat} {ss : List ByteArray} {F : Nat → Prop} (hF : ∀ ad, A = some ad → F ad.block) : St 0 F (fun w => Strs w w.heap.size A n ss) := fun w w' hs hb h => ⟨(Rd.st (fun ad e => .inr (hF ad e))) w w' hs hb h.rd, h.small⟩
end Go.AdR
namespace Go.Proofs.YtjdinakdkdjocaaGreatDoor
open Go Go.RowKit Go.Adm Go.AdR
theorem recIn_low {W : World} {be bm bp : Nat} {x : Rec} {sc se sm sp : Sl} (oc : Strs W W.heap.size sc.A sc.n x.cmd) (oe : Go.Adm.Own W be 49 2 se.A se.n se.c (x.env.map varC).flatten) (om : Go.Adm.Own W bm 70 33 sm.A sm.n sm.c (x.mat.map entC).flatten) (op : Go.Adm.Own W bp 70 33 sp.A sp.n sp.c (x.prod.map entC).flatten)
    (hl : se.n = x.env.length ∧ sm.n = x.mat.length ∧ sp.n = x.prod.length) (ho : RecOk x) : RecIn W W.heap.size x sc se sm sp := by
  refine ⟨oc, Els.of oe ?_ (by rw [List.length_map, hl.1]), Els.of om ?_ (by rw [List.length_map, hl.2.1]), Els.of op ?_ (by rw [List.length_map, hl.2.2])⟩
  · intro y hy
    obtain ⟨v, _, rfl⟩ := List.mem_map.1 hy
    rfl
  · intro y hy
    obtain ⟨v, hv, rfl⟩ := List.mem_map.1 hy
    exact entC_len (ho.mat v hv)
  · intro y hy
    obtain ⟨v, hv, rfl⟩ := List.mem_map.1 hy
    exact entC_len (ho.prod v hv)
set_option maxHeartbeats 12800000 in
theorem rrDecode_any (w : World) (m : Int) (hm : w.cell? ⟨0, 0, none⟩ = some (.int .i64 m)) (B : Nat) (A : Option Addr) (n c : Nat) (b : List UInt8) (hb : Rd w B 1 A n (b.map bv)) (hnc : n ≤ c) (hcm : c ≤ maxLen) (hB : B ≤ w.heap.size) :
    Calls Tryz.prog 8 #[.slice A n c] w (RdPost b w) := by
  have hgm : 0 < w.heap.size := World.block_lt_of_cell? w _ hm
  have HM : Hid (∀ W, Below w.heap.size w W → W.cell? ⟨0, 0, none⟩ = some (.int .i64 m)) := Lib.hid (fun W hb => (hb.cell hgm).trans hm)
  have HGM := Lib.hid hgm
  have hR : All w [.low (.rd B 1 A n (b.map bv)), .kept w w.heap.size] := ⟨⟨hb, hB⟩, ⟨Below.refl _ _, Nat.le_refl _⟩, trivial⟩
  have hzr := zero_rec
  have HNC := Lib.hid hnc
  have HCM := Lib.hid hcm
  clear hb hnc hcm hB hm hgm
  go_enter Tryz.func8, Tryz.ntmps8
  go_upto_region 1 with (fail)
  refine wp_gen (hR.new (l := recZ) recZ.toArray 31 rfl rfl) ?_
  intro W1 hW1
  clear hR hzr
  have hk1 := (hW1.at_ 2 rfl : _ ∧ w.heap.size ≤ W1.heap.size)
  have hD := refDecode_any W1 m (HM.out W1 hk1.1) (Nat.lt_of_lt_of_le HGM.out hk1.2) B A n c b (hW1.at_ 1 rfl : _ ∧ _).1 HNC.out HCM.out (hW1.at_ 1 rfl : _ ∧ _).2
  go_upto_region 2 with (go_at_call 26; refine hD.mono ?_; clear hD; rintro e w2 ⟨A2, n2, c2, rfl, hL2, hnc2, hcm2, hb2⟩)
  have hs2 : w.heap.size < w2.heap.size := Nat.lt_of_lt_of_le (Cells.lt (hW1.at_ 0 rfl)) hb2.size
  have hI2 := hW1.call hb2
  have hI5 : All w2 [.cells w.heap.size 31 recZ, .kept w w.heap.size] := ⟨hI2.at_ 0 rfl, hI2.at_ 2 rfl, trivial⟩
  clear hW1 hb2 hI2 HNC HCM hk1
  by_cases q0 : (decR b).2 = 0
  · rw [q0]
    have HNE : Hid (∀ l ∈ (decR b).1, l ≠ []) := Lib.hid (fun l hl => (decR_good l hl).1)
    have HCNT := Lib.hid (decR_count b)
    have HN0 : Hid (∀ ls, (decR b).1 = ls → recParse ls = none → recRes b = (recN, 2)) := Lib.hid (fun ls e h => recRes_none q0 (by rw [e]; exact h))
    have HS0 : Hid (∀ ls x, (decR b).1 = ls → recParse ls = some x → (recRes b = if recB x = true then (x, 0) else (recN, 1)) ∧ RecOk x) := Lib.hid (fun ls x e h => ⟨recRes_some q0 (by rw [e]; exact h), (parsed_ok (b := b) (by rw [e]; exact h)).1⟩)
    clear q0
    obtain ⟨ls, hls⟩ : ∃ ls, ls = (decR b).1 := ⟨_, rfl⟩
    rw [← hls] at hL2 HNE HCNT HN0 HS0
    clear hls
    have hn2 := hL2.len
    by_cases k0 : ls.length < 2
    · have HR := Lib.hid (HN0.out ls rfl (recParse_few k0))
      have d1 : decide ((n2 : Int) < 2) = true := by simp; omega
      clear HN0 HS0 hL2 k0 hn2 hnc2 hcm2
      go_wp2_with (first
        | (refine wl_build rfl 31 [] rfl _ _ #[(0, 1), (1, 1), (2, 1), (3, 1), (4, 1), (5, 1), (6, 1), (7, 1)] recZ.toArray zero_rec Tryz.underlying31 (fun w => by kernel_rfl) ?_ ?_; rfl)
        | (refine wl_store_at hI5 0 rfl 31 (.tmp 2) (.tmp 52) rfl w.heap.size _ _ recZ rfl rfl rfl rfl (by kernel_rfl) (by decide +kernel) (by simp [Apart, Res.apart]) ?_; intro w9 hI9 hs9))
      refine bodyPost_ret (v := .tuple #[.agg recZ.toArray, .int .i64 2]) ?_ rfl ⟨slN, slN, slN, slN, by rw [HR.out]; rfl, by rw [HR.out]; exact recIn_nil _ _, (hI9.at_ 1 rfl : _ ∧ _).1⟩
      exact Go.AdP.results_row_tmp (p := 2) (q := 3) rfl _ _ w.heap.size 31 recZ.toArray (0, 0) _ rfl (hI9.at_ 0 rfl) Tryz.underlying31 rfl (by kernel_rfl)
    · obtain ⟨l0, l1, rest, rfl⟩ : ∃ l0 l1 rest, ls = l0 :: l1 :: rest := by
        match ls, k0 with
        | [], k0 => exact absurd (by simp) k0
        | [_], k0 => exact absurd (by simp) k0
        | l0 :: l1 :: rest, _ => exact ⟨l0, l1, rest, rfl⟩
      clear k0
      simp only [List.length_cons] at hn2
      have d1 : decide ((n2 : Int) < 2) = false := by simp; omega
      have wk1 : (0 : Int) < (n2 : Int) := by omega
      have wk2 : (1 : Int) < (n2 : Int) := by omega
      have wk1n : 0 < n2 := by omega
      have wk2n : 1 < n2 := by omega
      obtain ⟨ad2, A0, c0, rfl, had2, hc0, hl0, -, hS0⟩ := hL2.at_ (k := 0) (by simp)
      obtain ⟨ad2', A1, c1, e2, -, hc1, hl1, hcm1, hS1⟩ := hL2.at_ (k := 1) (by simp)
      injection e2 with e2
      subst e2
      simp only [List.getElem_cons_zero, List.getElem_cons_succ] at hc0 hc1 hl0 hl1 hS0 hS1
      rw [add_zero] at hc0
      replace hc1 : w2.cell? ⟨ad2.block, ad2.off + 1, none⟩ = some (.slice A1 l1.length c1) := hc1
      have HLL := Lib.hid hL2
      by_cases k1 : l0.length = 5
      · obtain ⟨t0, run, scope, step, nu, rfl⟩ : ∃ a b c d e, l0 = [a, b, c, d, e] := by
          match l0, k1 with
          | [a, b, c, d, e], _ => exact ⟨a, b, c, d, e, rfl⟩
        obtain ⟨t1, cmd, rfl⟩ : ∃ t cmd, l1 = t :: cmd := by
          cases l1 with
          | nil => exact absurd rfl (HNE.out [] (by simp))
          | cons t cmd => exact ⟨t, cmd, rfl⟩
        clear k1
        simp only [List.length_cons, List.length_nil, Nat.zero_add, Nat.reduceAdd] at hc0 hc1 hl0 hl1
        obtain ⟨ad0, rfl, had0, s00, -⟩ := hS0.at_ (k := 0) (by simp)
        obtain ⟨_, e1, -, s01, -⟩ := hS0.at_ (k := 1) (by simp)
        injection e1 with e1; subst e1
        obtain ⟨_, e1, -, s02, -⟩ := hS0.at_ (k := 2) (by simp)
        injection e1 with e1; subst e1
        obtain ⟨_, e1, -, s03, -⟩ := hS0.at_ (k := 3) (by simp)
        injection e1 with e1; subst e1
        obtain ⟨_, e1, -, s04, -⟩ := hS0.at_ (k := 4) (by simp)
        injection e1 with e1; subst e1
        obtain ⟨ad1, rfl, had1, s10, -⟩ := hS1.at_ (k := 0) (by simp)
        rw [add_zero] at s00 s10
        simp only [List.getElem_cons_zero, List.getElem_cons_succ] at s00 s01 s02 s03 s04 s10
        replace s01 : w2.cell? ⟨ad0.block, ad0.off + 1, none⟩ = some (.string run) := s01
        replace s02 : w2.cell? ⟨ad0.block, ad0.off + 2, none⟩ = some (.string scope) := s02
        replace s03 : w2.cell? ⟨ad0.block, ad0.off + 3, none⟩ = some (.string step) := s03
        replace s04 : w2.cell? ⟨ad0.block, ad0.off + 4, none⟩ = some (.string nu) := s04
        have HC : Hid (∀ W, Below w2.heap.size w2 W → W.cell? ad2 = some (.slice (some ad0) 5 c0) ∧ W.cell? ⟨ad2.block, ad2.off + 1, none⟩ = some (.slice (some ad1) (cmd.length + 1) c1) ∧ W.cell? ⟨ad0.block, ad0.off + 1, none⟩ = some (.string run) ∧ W.cell? ⟨ad0.block, ad0.off + 2, none⟩ = some (.string scope) ∧ W.cell? ⟨ad0.block, ad0.off + 3, none⟩ = some (.string step)) := Lib.hid (fun W hb => ⟨(hb.cell (by omega)).trans hc0, (hb.cell (by show ad2.block < _; omega)).trans hc1, (hb.cell (by show ad0.block < _; omega)).trans s01, (hb.cell (by show ad0.block < _; omega)).trans s02, (hb.cell (by show ad0.block < _; omega)).trans s03⟩)
        have hlc : cmd.length + 1 ≤ c1 := hl1
        have HST := Lib.hid (strs_tail hS1 hl1)
        have HPL := Lib.hid hlc
        have hne1 : t1 = cmdW → ad1.block ≠ w.heap.size := fun e => not_box (hI5.at_ 0 rfl) (e ▸ s10) cmd_not
        have HNE1 := Lib.hid hne1
        have wk3 : (0 : Int) < ((cmd.length + 1 : Nat) : Int) := by omega
        clear hS0 hS1 hl0 hl1 hL2 hne1 hlc
        by_cases k2 : t0 = recW
        · subst k2
          have x1 : (recW.toList == [114, 101, 99, 111, 114, 100]) = true := by rw [show recW.toList = [114, 101, 99, 111, 114, 100] from by rw [ByteArray.toList_eq]; rfl]; rfl
          by_cases k3 : t1 = cmdW
          · subst k3
            have x2 : (cmdW.toList == [99, 111, 109, 109, 97, 110, 100]) = true := by rw [show cmdW.toList = [99, 111, 109, 109, 97, 110, 100] from by rw [ByteArray.toList_eq]; rfl]; rfl
            cases k4 : parseS nu.data.toList with
            | none =>
              have HR := Lib.hid (HN0.out _ rfl (by rw [recParse_head, k4]))
              have hP := refParseN_any nu w2
              rw [k4] at hP
              clear HN0 HS0 k4
              go_upto_region 7 with (go_at_call 27; refine hP.mono ?_; rintro e w2 ⟨rfl, rfl⟩)
              go_wp2_with (first
                | (refine wl_build rfl 31 [] rfl _ _ #[(0, 1), (1, 1), (2, 1), (3, 1), (4, 1), (5, 1), (6, 1), (7, 1)] recZ.toArray zero_rec Tryz.underlying31 (fun w => by kernel_rfl) ?_ ?_; rfl)
                | (refine wl_store_at hI5 0 rfl 31 (.tmp 2) (.tmp 64) rfl w.heap.size _ _ recZ rfl rfl rfl rfl (by kernel_rfl) (by decide +kernel) (by simp [Apart, Res.apart]) ?_; intro w9 hI9 hs9))
              refine bodyPost_ret (v := .tuple #[.agg recZ.toArray, .int .i64 2]) ?_ rfl ⟨slN, slN, slN, slN, by rw [HR.out]; rfl, by rw [HR.out]; exact recIn_nil _ _, (hI9.at_ 1 rfl : _ ∧ _).1⟩
              exact Go.AdP.results_row_tmp (p := 2) (q := 3) rfl _ _ w.heap.size 31 recZ.toArray (0, 0) _ rfl (hI9.at_ 0 rfl) Tryz.underlying31 rfl (by kernel_rfl)
            | some kk =>
              have hP := refParseN_any nu w2
              rw [k4] at hP
              have HFIN : Hid (∀ (r : Nat) (hr : r = runS envW rest) (o : List Var) (ho : EnvTo rest r o) (nm np : Nat) (hm : nm = runS matW (rest.drop r)) (hp : np = runS proW (rest.drop (r + nm))), (rawS matW ((rest.drop r).take nm) = none ∨ rawS proW ((rest.drop (r + nm)).take np) = none ∨ r + nm + np < rest.length → recRes b = (recN, 2)) ∧ ∀ a p, rawS matW ((rest.drop r).take nm) = some a → rawS proW ((rest.drop (r + nm)).take np) = some p → rest.length ≤ r + nm + np → ((recRes b = if recB ⟨run, scope, step, kk, cmd, o, a, p⟩ = true then (⟨run, scope, step, kk, cmd, o, a, p⟩, 0) else (recN, 1)) ∧ RecOk ⟨run, scope, step, kk, cmd, o, a, p⟩)) := Lib.hid (fun r hr o ho nm np hm hp => ref_fin k4 (HN0.out _ rfl) (fun x hx => HS0.out _ x rfl hx) hr ho hm hp)
              have HBAD : Hid (∀ j (hj : j < rest.length), j < runS envW rest → varOf rest[j] = none → recRes b = (recN, 2)) := Lib.hid (fun j hj h1 h2 => HN0.out _ rfl (by rw [recParse_head, k4]; show (if _ then _ else _) = _; rw [tail_env hj h1 h2]; rfl))
              clear HN0 HS0 k4
              go_upto_region 7 with (go_at_call 27; refine hP.mono ?_; rintro e w2 ⟨rfl, rfl⟩)
              try simp only [Option.isSome_some, Option.getD_some]
              go_upto_region 9 with (fail)
              obtain ⟨A4, hA4⟩ : ∃ X, (if c1 = 1 then some ad1 else some ⟨ad1.block, ad1.off + 1, none⟩) = X := ⟨_, rfl⟩
              have HST4 : Hid (Strs w2 w2.heap.size A4 cmd.length cmd) := Lib.hid (by have h := HST.out; rw [← hA4]; exact h)
              have HB4 : Hid (∀ ad, A4 = some ad → ad.block = ad1.block) := Lib.hid (fun ad e => by rw [← hA4] at e; split at e <;> (injection e with e; rw [← e]))
              obtain ⟨gl, hgl⟩ : ∃ g, g = w2.heap.size := ⟨_, rfl⟩
              rw [← hgl] at hs2 HLL HC HST4 had1 had0 had2
              have hV0 : All w2 [.low (Go.AdR.Low.lines gl (some ad2) n2 ([recW, run, scope, step, nu] :: (cmdW :: cmd) :: rest)), .cells w.heap.size 31 recZ, .kept w w.heap.size, .kept w2 gl] := ⟨⟨HLL.out, by rw [hgl]; exact Nat.le_refl _⟩, hI5.at_ 0 rfl, hI5.at_ 1 rfl, ⟨hgl ▸ Below.refl _ _, by rw [hgl]; exact Nat.le_refl _⟩, trivial⟩
              obtain ⟨RC0, hRC0⟩ : ∃ x : List Value, x = [.string run, .string scope, .string step, .int .i64 kk, .slice A4 cmd.length (c1 - 1), .slice none 0 0, .slice none 0 0, .slice none 0 0] := ⟨_, rfl⟩
              have HRC := Lib.hid hRC0
              clear hRC0 hI5 hc0 hc1 s00 s01 s02 s03 s04 s10 HST hP HLL hgl
              refine wp_region_hops 22 [65, 66, 67, 68, 69, 70, 71, 72, 73, 74, 75, 76, 77, 78, 79, 80, 81, 82, 83, 84, 85, 8] [.low (Go.AdR.Low.lines gl (some ad2) n2 ([recW, run, scope, step, nu] :: (cmdW :: cmd) :: rest)), .cells w.heap.size 31 recZ, .kept w w.heap.size, .kept w2 gl]
                [.eq (.slice (some ad2) n2 c2), .eq (.pointer (some ad2)), .eq (.slice (some ad0) 5 c0), .eq (.pointer (some ⟨ad0.block, ad0.off + 1, none⟩)), .eq (.string run), .eq (.slice (some ad2) n2 c2), .eq (.pointer (some ad2)), .eq (.slice (some ad0) 5 c0), .eq (.pointer (some ⟨ad0.block, ad0.off + 2, none⟩)), .eq (.string scope), .eq (.slice (some ad2) n2 c2), .eq (.pointer (some ad2)), .eq (.slice (some ad0) 5 c0), .eq (.pointer (some ⟨ad0.block, ad0.off + 3, none⟩)), .eq (.string step), .eq (.int .i64 kk), .eq (.slice (some ad2) n2 c2), .eq (.pointer (some ⟨ad2.block, ad2.off + 1, none⟩)), .eq (.slice (some ad1) (cmd.length + 1) c1), .eq (.slice A4 cmd.length (c1 - 1)), .eq (.agg RC0.toArray), .box gl 31 recZ]
                (by kernel_rfl) (by kernel_rfl) hV0 rfl ?hops9 ?fin9
              case hops9 =>
                  refine ⟨?_, ?_, ?_, ?_, ?_, ?_, ?_, ?_, ?_, ?_, ?_, ?_, ?_, ?_, ?_, ?_, ?_, ?_, ?_, ?_, ?_, ?_, trivial⟩
                  · intro a' W hW hb hd K hK
                    have b4 := hb 4 rfl
                    go_simp
                    exact hK _ _ (World.grownBy.refl _ _) rfl
                  · intro a' W hW hb hd K hK
                    have b65 : a'.tmps[65]?.getD undef = _ := hd ⟨0, .data⟩ (by simp) rfl
                    go_simp
                    exact hK _ _ (World.grownBy.refl _ _) (by first | rfl | (rw [add_zero]; rfl) | (simp [add_zero]; rfl))
                  · intro a' W hW hb hd K hK
                    have b66 : a'.tmps[66]?.getD undef = _ := hd ⟨1, .data⟩ (by simp) rfl
                    have q1 := (HC.out W (hW.at_ 3 rfl : _ ∧ _).1).1
                    go_simp
                    exact hK _ _ (World.grownBy.refl _ _) rfl
                  · intro a' W hW hb hd K hK
                    have b67 : a'.tmps[67]?.getD undef = _ := hd ⟨2, .data⟩ (by simp) rfl
                    go_simp
                    exact hK _ _ (World.grownBy.refl _ _) rfl
                  · intro a' W hW hb hd K hK
                    have b68 : a'.tmps[68]?.getD undef = _ := hd ⟨3, .data⟩ (by simp) rfl
                    have q1 := (HC.out W (hW.at_ 3 rfl : _ ∧ _).1).2.2.1
                    go_simp
                    exact hK _ _ (World.grownBy.refl _ _) rfl
                  · intro a' W hW hb hd K hK
                    have b4 := hb 4 rfl
                    go_simp
                    exact hK _ _ (World.grownBy.refl _ _) rfl
                  · intro a' W hW hb hd K hK
                    have b70 : a'.tmps[70]?.getD undef = _ := hd ⟨5, .data⟩ (by simp) rfl
                    go_simp
                    exact hK _ _ (World.grownBy.refl _ _) (by first | rfl | (rw [add_zero]; rfl) | (simp [add_zero]; rfl))
                  · intro a' W hW hb hd K hK
                    have b71 : a'.tmps[71]?.getD undef = _ := hd ⟨6, .data⟩ (by simp) rfl
                    have q1 := (HC.out W (hW.at_ 3 rfl : _ ∧ _).1).1
                    go_simp
                    exact hK _ _ (World.grownBy.refl _ _) rfl
                  · intro a' W hW hb hd K hK
                    have b72 : a'.tmps[72]?.getD undef = _ := hd ⟨7, .data⟩ (by simp) rfl
                    go_simp
                    exact hK _ _ (World.grownBy.refl _ _) rfl
                  · intro a' W hW hb hd K hK
                    have b73 : a'.tmps[73]?.getD undef = _ := hd ⟨8, .data⟩ (by simp) rfl
                    have q1 := (HC.out W (hW.at_ 3 rfl : _ ∧ _).1).2.2.2.1
                    go_simp
                    exact hK _ _ (World.grownBy.refl _ _) rfl
                  · intro a' W hW hb hd K hK
                    have b4 := hb 4 rfl
                    go_simp
                    exact hK _ _ (World.grownBy.refl _ _) rfl
                  · intro a' W hW hb hd K hK
                    have b75 : a'.tmps[75]?.getD undef = _ := hd ⟨10, .data⟩ (by simp) rfl
                    go_simp
                    exact hK _ _ (World.grownBy.refl _ _) (by first | rfl | (rw [add_zero]; rfl) | (simp [add_zero]; rfl))
                  · intro a' W hW hb hd K hK
                    have b76 : a'.tmps[76]?.getD undef = _ := hd ⟨11, .data⟩ (by simp) rfl
                    have q1 := (HC.out W (hW.at_ 3 rfl : _ ∧ _).1).1
                    go_simp
                    exact hK _ _ (World.grownBy.refl _ _) rfl
                  · intro a' W hW hb hd K hK
                    have b77 : a'.tmps[77]?.getD undef = _ := hd ⟨12, .data⟩ (by simp) rfl
                    go_simp
                    exact hK _ _ (World.grownBy.refl _ _) rfl
                  · intro a' W hW hb hd K hK
                    have b78 : a'.tmps[78]?.getD undef = _ := hd ⟨13, .data⟩ (by simp) rfl
                    have q1 := (HC.out W (hW.at_ 3 rfl : _ ∧ _).1).2.2.2.2
                    go_simp
                    exact hK _ _ (World.grownBy.refl _ _) rfl
                  · intro a' W hW hb hd K hK
                    have b6 := hb 6 rfl
                    go_simp
                    exact hK _ _ (World.grownBy.refl _ _) rfl
                  · intro a' W hW hb hd K hK
                    have b4 := hb 4 rfl
                    go_simp
                    exact hK _ _ (World.grownBy.refl _ _) rfl
                  · intro a' W hW hb hd K hK
                    have b81 : a'.tmps[81]?.getD undef = _ := hd ⟨16, .data⟩ (by simp) rfl
                    go_simp
                    exact hK _ _ (World.grownBy.refl _ _) rfl
                  · intro a' W hW hb hd K hK
                    have b82 : a'.tmps[82]?.getD undef = _ := hd ⟨17, .data⟩ (by simp) rfl
                    have q1 := (HC.out W (hW.at_ 3 rfl : _ ∧ _).1).2.1
                    go_simp
                    exact hK _ _ (World.grownBy.refl _ _) rfl
                  · intro a' W hW hb hd K hK
                    have b83 : a'.tmps[83]?.getD undef = _ := hd ⟨18, .data⟩ (by simp) rfl
                    have wk9 : (1 : Int) ≤ (cmd.length : Int) + 1 := by omega
                    go_simp
                    exact hK _ _ (World.grownBy.refl _ _) rfl
                  · intro a' W hW hb hd K hK
                    have b69 : a'.tmps[69]?.getD undef = _ := hd ⟨4, .data⟩ (by simp) rfl
                    have b74 : a'.tmps[74]?.getD undef = _ := hd ⟨9, .data⟩ (by simp) rfl
                    have b79 : a'.tmps[79]?.getD undef = _ := hd ⟨14, .data⟩ (by simp) rfl
                    have b80 : a'.tmps[80]?.getD undef = _ := hd ⟨15, .data⟩ (by simp) rfl
                    have b84 : a'.tmps[84]?.getD undef = _ := hd ⟨19, .data⟩ (by simp) rfl
                    refine wp_build_at 31 [(0, .tmp 69), (1, .tmp 74), (2, .tmp 79), (3, .tmp 80), (4, .tmp 84)] rfl _ _ #[(0, 1), (1, 1), (2, 1), (3, 1), (4, 1), (5, 1), (6, 1), (7, 1)] RC0.toArray zero_rec Tryz.underlying31 (fun w => by kernel_rfl) ?_ ?_
                    · simp only [List.map_cons, List.map_nil, Act.eval, Array.getD_eq_getD_getElem?, b69, b74, b79, b80, b84]
                      rw [HRC.out]
                      exact fill_rec5 run scope step kk ⟨A4, cmd.length, c1 - 1⟩
                    exact hK _ _ (World.grownBy.refl _ _) rfl
                  · intro a' W hW hb hd K hK
                    have hz := zero_rec W
                    go_simp
                    exact hK _ _ (grown_alloc _ _) ⟨_, rfl, (hW.at_ 3 rfl : _ ∧ gl ≤ W.heap.size).2, Cells.new _ _ _⟩
              case fin9 =>
                intro vs V hV hv
                have e20 : vs 20 = _ := hv 20 (by decide)
                obtain ⟨gx, e21, hgx, hCx⟩ := (hv 21 (by decide) : VF.ok (VF.box gl 31 recZ) (vs 21) V)
                clear hv hV0
                simp only [putAll, Nat.zero_add, Nat.reduceAdd, List.drop_succ_cons, List.drop_zero, e20, e21, Act.put, List.setIfInBounds_toArray, List.set_cons_succ, List.set_cons_zero]
                clear e20 e21
                have hV1 : All V (.cells gx 31 recZ :: [.low (Go.AdR.Low.lines gl (some ad2) n2 ([recW, run, scope, step, nu] :: (cmdW :: cmd) :: rest)), .cells w.heap.size 31 recZ, .kept w w.heap.size, .kept w2 gl]) := ⟨hCx, hV⟩
                have HRL : Hid (RC0.length = 8) := Lib.hid (by rw [HRC.out]; rfl)
                clear hV hCx
                refine wl_store_at hV1 0 rfl 31 (.tmp 8) (.tmp 85) rfl gx _ _ RC0 rfl rfl rfl (by rw [HRL.out]; rfl) (by rw [HRL.out]; kernel_rfl) (by rw [HRC.out]; intro v hv; simp only [List.mem_cons, List.mem_nil_iff, or_false] at hv; rcases hv with rfl | rfl | rfl | rfl | rfl | rfl | rfl | rfl <;> rfl) ⟨fun g e => (by injection e with e; subst e; exact hgx), fun e => (by injection e with e; omega), fun g e => (by injection e with e; omega), fun g e => (by injection e with e; omega), trivial⟩ ?_
                intro W3 hW3 hs3
                simp only [List.set_cons_zero] at hW3
                have hI3 : All W3 [.own gl 49 2 none 0 0 (([] : List Var).map varC).flatten, .cells gx 31 [.string run, .string scope, .string step, .int .i64 kk, .slice A4 cmd.length (c1 - 1), .slice none 0 0, .slice none 0 0, .slice none 0 0], .low (Go.AdR.Low.lines gl (some ad2) n2 ([recW, run, scope, step, nu] :: (cmdW :: cmd) :: rest)), .cells w.heap.size 31 recZ, .kept w w.heap.size, .kept w2 gl] := ⟨Go.Adm.Own.nil _ _ _ _, by have h := hW3.at_ 0 rfl; rw [HRC.out] at h; exact h, hW3.2⟩
                clear hW3 hs3 hV1 HRC HRL
                have hcl9 := HCNT.out
                simp only [List.length_cons] at hcl9
                have hgl3 := (hI3.at_ 5 rfl : _ ∧ gl ≤ W3.heap.size).2
                have hRun := Run_any envW W3 gl (some ad2) n2 c2 ([recW, run, scope, step, nu] :: (cmdW :: cmd) :: rest) (hI3.at_ 2 rfl : _ ∧ _).1 HNE.out 2 (by omega) (by omega)
                have hdr : ([recW, run, scope, step, nu] :: (cmdW :: cmd) :: rest).drop 2 = rest := rfl
                rw [hdr] at hRun
                clear hdr
                obtain ⟨r1, hr1⟩ : ∃ r, r = runS envW rest := ⟨_, rfl⟩
                rw [← hr1] at hRun HBAD
                have hr1l : r1 ≤ rest.length := by rw [hr1]; exact run_le _ _
                have HR1 := Lib.hid hr1
                clear hr1
                go_upto_region 12 with (go_at_call 28; refine hRun.mono ?_; clear hRun; rintro e w4 ⟨rfl, rfl⟩)
                go_loopw [9, 10] (fun vi vn wr => ∃ (k i nn : Nat) (A' : Option Addr) (c' : Nat) (o : List Var), vi = .int .i64 i ∧ vn = .int .i64 nn ∧ i = 2 + k ∧ k + nn = r1 ∧ Hid (EnvTo rest k o) ∧ All wr [.own gl 49 2 A' k c' (o.map varC).flatten, .cells gx 31 [.string run, .string scope, .string step, .int .i64 kk, .slice A4 cmd.length (c1 - 1), .slice A' k c', .slice none 0 0, .slice none 0 0], .low (Go.AdR.Low.lines gl (some ad2) n2 ([recW, run, scope, step, nu] :: (cmdW :: cmd) :: rest)), .cells w.heap.size 31 recZ, .kept w w.heap.size, .kept w2 gl]) (fun _ vn _ => (intOf vn).toNat)
                case atStart => exact ⟨0, 2, r1, none, 0, [], rfl, rfl, rfl, by omega, Lib.hid (EnvTo.zero _), hI3⟩
                case round =>
                  clear hI3 hgl3
                  obtain ⟨k, i, nn, A', c', o, rfl, rfl, hik, hnn, HO, hI⟩ := hrel
                  have hLw := (hI.at_ 2 rfl : Lines wr gl (some ad2) n2 ([recW, run, scope, step, nu] :: (cmdW :: cmd) :: rest) ∧ _).1
                  have hkr : k ≤ rest.length := by omega
                  by_cases hp : 0 < nn
                  · have d1 : decide (0 < nn) = true := by simpa using hp
                    have d2 : decide ((0 : Int) < (nn : Int)) = true := by simp; omega
                    have hkl : k < rest.length := by omega
                    have hkl' : i < ([recW, run, scope, step, nu] :: (cmdW :: cmd) :: rest).length := by simp only [List.length_cons]; omega
                    have wk5 : (0 : Int) ≤ (i : Int) := by omega
                    have wk6 : (i : Int) < (n2 : Int) := by omega
                    have wk7 : ((i : Int)).toNat = i := by omega
                    obtain ⟨ad2', A6, c6, e6, -, hc6, h62, h63, hS6⟩ := hLw.at_ hkl'
                    injection e6 with e6
                    subst e6
                    have erow : ([recW, run, scope, step, nu] :: (cmdW :: cmd) :: rest)[i] = rest[k] := by subst hik; simp [Nat.add_comm 2 k]
                    rw [erow] at hc6 h62 hS6
                    have HBK : Hid (varOf rest[k] = none → recRes b = (recN, 2)) := Lib.hid (fun h => HBAD.out k hkl (by omega) h)
                    have HSC : Hid (∀ e, varOf rest[k] = some e → EnvTo rest (k + 1) (o ++ [e])) := Lib.hid (fun e h => HO.out.succ hkl h)
                    clear erow hkl' hLw hkr
                    generalize rest[k] = row at *
                    by_cases hr3 : row.length = 3
                    · obtain ⟨tt, vn, vv, rfl⟩ : ∃ a b c, row = [a, b, c] := by
                        match row, hr3 with
                        | [a, b, c], _ => exact ⟨a, b, c, rfl⟩
                      obtain ⟨rad, rfl, hrad, -, -⟩ := hS6.at_ (k := 0) (by simp)
                      obtain ⟨_, e1, -, s61, -⟩ := hS6.at_ (k := 1) (by simp)
                      injection e1 with e1; subst e1
                      obtain ⟨_, e1, -, s62, -⟩ := hS6.at_ (k := 2) (by simp)
                      injection e1 with e1; subst e1
                      simp only [List.getElem_cons_zero, List.getElem_cons_succ, List.length_cons, List.length_nil, Nat.zero_add, Nat.reduceAdd] at s61 s62 hc6
                      have HR6 : Hid (∀ W, Below gl w2 W → W.cell? (ad2.add i) = some (.slice (some rad) 3 c6) ∧ W.cell? ⟨rad.block, rad.off + 1, none⟩ = some (.string vn) ∧ W.cell? ⟨rad.block, rad.off + 2, none⟩ = some (.string vv)) := Lib.hid (fun W hb => by
                        have hbr := (hI.at_ 5 rfl : Below gl w2 wr ∧ _).1
                        refine ⟨?_, ?_, ?_⟩
                        · exact (hb.cell (by rw [add_block]; omega)).trans ((hbr.cell (by rw [add_block]; omega)).symm.trans hc6)
                        · exact (hb.cell (by show rad.block < gl; omega)).trans ((hbr.cell (by show rad.block < gl; omega)).symm.trans s61)
                        · exact (hb.cell (by show rad.block < gl; omega)).trans ((hbr.cell (by show rad.block < gl; omega)).symm.trans s62))
                      have HNX := Lib.hid (HSC.out ⟨vn, vv⟩ rfl)
                      have wk8 : IntKind.i64.wrap ((i : Int) + 1) = ((i + 1 : Nat) : Int) := by rw [IntWalk.i64_in _ (by omega)]; omega
                      have wk9 : IntKind.i64.wrap ((nn : Int) - 1) = ((nn - 1 : Nat) : Int) := by rw [IntWalk.i64_in _ (by omega)]; omega
                      have hsx : gl ≤ wr.heap.size := (hI.at_ 5 rfl : _ ∧ gl ≤ wr.heap.size).2
                      have HIK := Lib.hid hik
                      have HNN := Lib.hid hnn
                      have hkr1 : k < r1 := by omega
                      clear HBK HSC hS6 hr3 s61 s62 h62 h63 hik hnn
                      go_upto_region 16 with (fail)
                      clear hc6
                      refine wp_region_hops 16 [100, 101, 102, 103, 104, 105, 106, 107, 108, 109, 110, 111, 112, 113, 114, 115] [.own gl 49 2 A' k c' (o.map varC).flatten, .cells gx 31 [.string run, .string scope, .string step, .int .i64 kk, .slice A4 cmd.length (c1 - 1), .slice A' k c', .slice none 0 0, .slice none 0 0], .low (Go.AdR.Low.lines gl (some ad2) n2 ([recW, run, scope, step, nu] :: (cmdW :: cmd) :: rest)), .cells w.heap.size 31 recZ, .kept w w.heap.size, .kept w2 gl]
                        [.eq (.pointer (some ⟨gx, 5, none⟩)), .eq (.slice A' k c'), .eq (.slice (some ad2) n2 c2), .eq (.int .i64 i), .eq (.pointer (some (ad2.add i))), .eq (.slice (some rad) 3 c6), .eq (.pointer (some ⟨rad.block, rad.off + 1, none⟩)), .eq (.string vn), .eq (.slice (some ad2) n2 c2), .eq (.int .i64 i), .eq (.pointer (some (ad2.add i))), .eq (.slice (some rad) 3 c6), .eq (.pointer (some ⟨rad.block, rad.off + 2, none⟩)), .eq (.string vv), .eq (.agg (varC ⟨vn, vv⟩).toArray), .rd 2 1 (varC ⟨vn, vv⟩)]
                        (by kernel_rfl) (by kernel_rfl) hI rfl ?hops16 ?fin16
                      case hops16 =>
                        refine ⟨?_, ?_, ?_, ?_, ?_, ?_, ?_, ?_, ?_, ?_, ?_, ?_, ?_, ?_, ?_, ?_, trivial⟩
                        · intro a' W hW hb hd K hK
                          have b8 := hb 8 rfl
                          go_simp
                          exact hK _ _ (World.grownBy.refl _ _) rfl
                        · intro a' W hW hb hd K hK
                          have b100 : a'.tmps[100]?.getD undef = _ := hd ⟨0, .data⟩ (by simp) rfl
                          have q1 : W.cell? ⟨gx, 5, none⟩ = some (.slice A' k c') := cell_of (hW.at_ 1 rfl) (i := 5) rfl
                          go_simp
                          exact hK _ _ (World.grownBy.refl _ _) rfl
                        · intro a' W hW hb hd K hK
                          have b4 := hb 4 rfl
                          go_simp
                          exact hK _ _ (World.grownBy.refl _ _) rfl
                        · intro a' W hW hb hd K hK
                          have b9 := hb 9 rfl
                          go_simp
                          exact hK _ _ (World.grownBy.refl _ _) rfl
                        · intro a' W hW hb hd K hK
                          have b102 : a'.tmps[102]?.getD undef = _ := hd ⟨2, .data⟩ (by simp) rfl
                          have b103 : a'.tmps[103]?.getD undef = _ := hd ⟨3, .data⟩ (by simp) rfl
                          go_simp
                          exact hK _ _ (World.grownBy.refl _ _) rfl
                        · intro a' W hW hb hd K hK
                          have b104 : a'.tmps[104]?.getD undef = _ := hd ⟨4, .data⟩ (by simp) rfl
                          have q1 := (HR6.out W (hW.at_ 5 rfl : _ ∧ _).1).1
                          go_simp
                          exact hK _ _ (World.grownBy.refl _ _) rfl
                        · intro a' W hW hb hd K hK
                          have b105 : a'.tmps[105]?.getD undef = _ := hd ⟨5, .data⟩ (by simp) rfl
                          go_simp
                          exact hK _ _ (World.grownBy.refl _ _) rfl
                        · intro a' W hW hb hd K hK
                          have b106 : a'.tmps[106]?.getD undef = _ := hd ⟨6, .data⟩ (by simp) rfl
                          have q1 := (HR6.out W (hW.at_ 5 rfl : _ ∧ _).1).2.1
                          go_simp
                          exact hK _ _ (World.grownBy.refl _ _) rfl
                        · intro a' W hW hb hd K hK
                          have b4 := hb 4 rfl
                          go_simp
                          exact hK _ _ (World.grownBy.refl _ _) rfl
                        · intro a' W hW hb hd K hK
                          have b9 := hb 9 rfl
                          go_simp
                          exact hK _ _ (World.grownBy.refl _ _) rfl
                        · intro a' W hW hb hd K hK
                          have b108 : a'.tmps[108]?.getD undef = _ := hd ⟨8, .data⟩ (by simp) rfl
                          have b109 : a'.tmps[109]?.getD undef = _ := hd ⟨9, .data⟩ (by simp) rfl
                          go_simp
                          exact hK _ _ (World.grownBy.refl _ _) rfl
                        · intro a' W hW hb hd K hK
                          have b110 : a'.tmps[110]?.getD undef = _ := hd ⟨10, .data⟩ (by simp) rfl
                          have q1 := (HR6.out W (hW.at_ 5 rfl : _ ∧ _).1).1
                          go_simp
                          exact hK _ _ (World.grownBy.refl _ _) rfl
                        · intro a' W hW hb hd K hK
                          have b111 : a'.tmps[111]?.getD undef = _ := hd ⟨11, .data⟩ (by simp) rfl
                          go_simp
                          exact hK _ _ (World.grownBy.refl _ _) rfl
                        · intro a' W hW hb hd K hK
                          have b112 : a'.tmps[112]?.getD undef = _ := hd ⟨12, .data⟩ (by simp) rfl
                          have q1 := (HR6.out W (hW.at_ 5 rfl : _ ∧ _).1).2.2
                          go_simp
                          exact hK _ _ (World.grownBy.refl _ _) rfl
                        · intro a' W hW hb hd K hK
                          have b107 : a'.tmps[107]?.getD undef = _ := hd ⟨7, .data⟩ (by simp) rfl
                          have b113 : a'.tmps[113]?.getD undef = _ := hd ⟨13, .data⟩ (by simp) rfl
                          refine wp_build_at 49 [(0, .tmp 107), (1, .tmp 113)] rfl _ _ #[(0, 1), (1, 1)] (varC ⟨vn, vv⟩).toArray zero_var Tryz.underlying49 (fun w => by kernel_rfl) ?_ ?_
                          · simp only [List.map_cons, List.map_nil, Act.eval, Array.getD_eq_getD_getElem?, b107, b113]
                            exact fill_var vn vv
                          exact hK _ _ (World.grownBy.refl _ _) rfl
                        · intro a' W hW hb hd K hK
                          have b114 : a'.tmps[114]?.getD undef = _ := hd ⟨14, .data⟩ (by simp) rfl
                          refine wp_lit1 el_var2 (.tmp 114) rfl (varC ⟨vn, vv⟩) (show a'.eval (.tmp 114) = _ from by simp only [Act.eval, Array.getD_eq_getD_getElem?]; exact b114) rfl (by decide) ?_
                          exact hK _ _ (grown_alloc _ _) ⟨_, _, rfl, by have := Rd.lit W (varC ⟨vn, vv⟩).toArray 49 1 (size := 2) rfl; simpa using this⟩
                      case fin16 =>
                        intro vs V hV hv
                        have e1 : vs 1 = _ := hv 1 (by decide)
                        obtain ⟨A9, c9, e15, hRd⟩ := (hv 15 (by decide) : VF.ok (.rd 2 1 (varC ⟨vn, vv⟩)) (vs 15) V)
                        clear hv hI
                        simp only [putAll, Nat.zero_add, Nat.reduceAdd, List.drop_succ_cons, List.drop_zero, e1, e15, Act.put, List.setIfInBounds_toArray, List.set_cons_succ, List.set_cons_zero]
                        clear e1 e15
                        have hsV : gl ≤ V.heap.size := (hV.at_ 5 rfl : _ ∧ gl ≤ V.heap.size).2
                        have hapv : ∀ g, gl ≤ g → (Value.slice A' k c').ownBlock = some g → Apart (some g) ([.own gl 49 2 A' k c' (o.map varC).flatten, .cells gx 31 [.string run, .string scope, .string step, .int .i64 kk, .slice A4 cmd.length (c1 - 1), .slice A' k c', .slice none 0 0, .slice none 0 0], .low (Go.AdR.Low.lines gl (some ad2) n2 ([recW, run, scope, step, nu] :: (cmdW :: cmd) :: rest)), .cells w.heap.size 31 recZ, .kept w w.heap.size, .kept w2 gl].eraseIdx 0) := by
                          intro g hg ho
                          exact ⟨fun e => own_ne_cells (hV.at_ 0 rfl) (hV.at_ 1 rfl) (by decide) (by rw [ho, ← e]), fun g' e => (by injection e with e; subst e; exact hg), fun e => (by injection e with e; omega), fun g' e => (by injection e with e; omega), fun g' e => (by injection e with e; omega), trivial⟩
                        go_upto_region 17 with (at_builtin; refine wl_app_at el_var2 hV 0 rfl (.tmp 101) (.tmp 115) rfl gl A' k c' _ rfl rfl V.heap.size A9 1 c9 (varC ⟨vn, vv⟩) rfl hRd (by intro u hu; simp only [varC, List.mem_cons, List.mem_nil_iff, or_false] at hu; rcases hu with rfl | rfl <;> rfl) (by omega) hsV hapv ?_; intro A8 c8 w8 hI8 hs8; have f8 := Cells.frozen (show Cells w8 gx 31 _ from hI8.at_ 1 rfl) 5; have q8 : w8.cell? ⟨gx, 5, none⟩ = some (.slice A' k c') := cell_of (show Cells w8 gx 31 _ from hI8.at_ 1 rfl) (i := 5) rfl)
                        have hS := All.store hI8 1 rfl 5 (.slice A8 (k + 1) c8) ⟨fun g e => .inr (by injection e with e; subst e; exact own_ne_cells (hI8.at_ 0 rfl) (hI8.at_ 1 rfl) (by decide)), fun g e => (by injection e with e; subst e; exact hgx), fun e => (by injection e with e; omega), fun g e => (by injection e with e; omega), fun g e => (by injection e with e; omega), trivial⟩
                        simp only [List.set_cons_succ, List.set_cons_zero] at hS
                        clear hI8 f8 q8 hV hapv hs8
                        go_wp2_with fail
                        refine ⟨⟨k + 1, i + 1, nn - 1, A8, c8, o ++ [⟨vn, vv⟩], by go_num, by go_num, by have := HIK.out; omega, by have := HNN.out; omega, HNX, ?_⟩, by simp [intOf]; omega⟩
                        have hee : ((o ++ [(⟨vn, vv⟩ : Var)]).map varC).flatten = (o.map varC).flatten ++ varC ⟨vn, vv⟩ := by simp
                        rw [hee]
                        exact hS
                    · have d3 : ((row.length : Int) != 3) = true := by simp; omega
                      have HR := Lib.hid (HBK.out (by
                        match row, hr3 with
                        | [], _ => rfl
                        | [_], _ => rfl
                        | [_, _], _ => rfl
                        | [_, _, _], h => exact absurd rfl h
                        | _ :: _ :: _ :: _ :: _, _ => rfl))
                      have hI5 : All wr [.cells w.heap.size 31 recZ, .kept w w.heap.size] := ⟨hI.at_ 3 rfl, hI.at_ 4 rfl, trivial⟩
                      clear hI HBK HSC hS6 hr3 h62 h63 hik hnn
                      go_wp2_with (first
                        | (refine wl_build rfl 31 [] rfl _ _ #[(0, 1), (1, 1), (2, 1), (3, 1), (4, 1), (5, 1), (6, 1), (7, 1)] recZ.toArray zero_rec Tryz.underlying31 (fun w => by kernel_rfl) ?_ ?_; rfl)
                        | (refine wl_store_at hI5 0 rfl 31 (.tmp 2) (.tmp 99) rfl w.heap.size _ _ recZ rfl rfl rfl rfl (by kernel_rfl) (by decide +kernel) (by simp [Apart, Res.apart]) ?_; intro w9 hI9 hs9))
                      refine bodyPost_ret (v := .tuple #[.agg recZ.toArray, .int .i64 2]) ?_ rfl ⟨slN, slN, slN, slN, by rw [HR.out]; rfl, by rw [HR.out]; exact recIn_nil _ _, (hI9.at_ 1 rfl : _ ∧ _).1⟩
                      exact Go.AdP.results_row_tmp (p := 2) (q := 3) rfl _ _ w.heap.size 31 recZ.toArray (0, 0) _ rfl (hI9.at_ 0 rfl) Tryz.underlying31 rfl (by kernel_rfl)
                  · have hkr1 : k = r1 := by omega
                    subst hkr1
                    have d1 : decide (0 < nn) = false := by simp; omega
                    have d2 : decide ((0 : Int) < (nn : Int)) = false := by simp; omega
                    obtain ⟨nm, hnm⟩ : ∃ x, x = runS matW (rest.drop k) := ⟨_, rfl⟩
                    obtain ⟨np, hnp⟩ : ∃ x, x = runS proW (rest.drop (k + nm)) := ⟨_, rfl⟩
                    have hnml : k + nm ≤ rest.length := by have := run_le matW (rest.drop k); rw [List.length_drop] at this; omega
                    have hnpl : k + nm + np ≤ rest.length := by have := run_le proW (rest.drop (k + nm)); rw [List.length_drop] at this; omega
                    have hdi : ([recW, run, scope, step, nu] :: (cmdW :: cmd) :: rest).drop i = rest.drop k := by rw [hik, Nat.add_comm]; rfl
                    have hdj : ([recW, run, scope, step, nu] :: (cmdW :: cmd) :: rest).drop (i + nm) = rest.drop (k + nm) := by rw [hik, show 2 + k + nm = (k + nm) + 2 from by omega]; rfl
                    have hfin := HFIN.out k HR1.out o HO.out nm np hnm hnp
                    obtain ⟨rM, hrM⟩ : ∃ x, x = rawS matW ((rest.drop k).take nm) := ⟨_, rfl⟩
                    obtain ⟨rP, hrP⟩ : ∃ x, x = rawS proW ((rest.drop (k + nm)).take np) := ⟨_, rfl⟩
                    rw [← hrM, ← hrP] at hfin
                    have hLw := (hI.at_ 2 rfl : Lines wr gl (some ad2) n2 ([recW, run, scope, step, nu] :: (cmdW :: cmd) :: rest) ∧ gl ≤ wr.heap.size)
                    have hN1 := Run_any matW wr gl (some ad2) n2 c2 ([recW, run, scope, step, nu] :: (cmdW :: cmd) :: rest) hLw.1 HNE.out i (by omega) (by omega)
                    have hN2 := Run_any proW wr gl (some ad2) n2 c2 ([recW, run, scope, step, nu] :: (cmdW :: cmd) :: rest) hLw.1 HNE.out (i + nm) (by omega) (by omega)
                    rw [hdi, ← hnm] at hN1
                    rw [hdj, ← hnp, show ((i + nm : Nat) : Int) = (i : Int) + (nm : Int) from by omega] at hN2
                    obtain ⟨Am, hAm⟩ : ∃ X, (if c2 = i then some ad2 else some (ad2.add i)) = X := ⟨_, rfl⟩
                    obtain ⟨Ap, hAp⟩ : ∃ X, (if c2 = i + nm then some ad2 else some (ad2.add (i + nm))) = X := ⟨_, rfl⟩
                    obtain ⟨am, ham⟩ : ∃ x, x = rM.getD [] := ⟨_, rfl⟩
                    obtain ⟨ap, hap⟩ : ∃ x, x = rP.getD [] := ⟨_, rfl⟩
                    obtain ⟨g1, hg1⟩ : ∃ x, x = rM.isSome := ⟨_, rfl⟩
                    obtain ⟨g2, hg2⟩ : ∃ x, x = rP.isSome := ⟨_, rfl⟩
                    have HQ1 : Hid (∀ W, Lines W gl (some ad2) n2 ([recW, run, scope, step, nu] :: (cmdW :: cmd) :: rest) → gl ≤ W.heap.size → Calls Tryz.prog 29 #[.string matW, .slice Am nm (c2 - i)] W fun e w' => ∃ A c, e = .returned (.tuple #[.slice A am.length c, .bool g1]) ∧ Go.Adm.Own w' W.heap.size 70 33 A am.length c (am.map entC).flatten ∧ Below W.heap.size W w') := Lib.hid (fun W hl hs => by
                      have hs1 := lines_sub hl (i := i) (k := nm) (c := c2) (by omega) hnc2
                      rw [hdi] at hs1
                      have h := refRaw_any matW W gl Am nm (c2 - i) _ (by rw [← hAm]; exact hs1) hs (by omega)
                      rw [← hrM] at h
                      rw [ham, hg1]
                      exact h)
                    have HQ2 : Hid (∀ W, Lines W gl (some ad2) n2 ([recW, run, scope, step, nu] :: (cmdW :: cmd) :: rest) → gl ≤ W.heap.size → Calls Tryz.prog 29 #[.string proW, .slice Ap np (c2 - (i + nm))] W fun e w' => ∃ A c, e = .returned (.tuple #[.slice A ap.length c, .bool g2]) ∧ Go.Adm.Own w' W.heap.size 70 33 A ap.length c (ap.map entC).flatten ∧ Below W.heap.size W w') := Lib.hid (fun W hl hs => by
                      have hs1 := lines_sub hl (i := i + nm) (k := np) (c := c2) (by omega) hnc2
                      rw [hdj] at hs1
                      have h := refRaw_any proW W gl Ap np (c2 - (i + nm)) _ (by rw [← hAp]; exact hs1) hs (by omega)
                      rw [← hrP] at h
                      rw [hap, hg2]
                      exact h)
                    have HE1 : Hid (g1 = false → recRes b = (recN, 2)) := Lib.hid (fun h => hfin.1 (.inl (by rw [hg1] at h; cases hq : rM with | none => rfl | some _ => rw [hq] at h; cases h)))
                    have HE2 : Hid (g2 = false → recRes b = (recN, 2)) := Lib.hid (fun h => hfin.1 (.inr (.inl (by rw [hg2] at h; cases hq : rP with | none => rfl | some _ => rw [hq] at h; cases h))))
                    have HE3 : Hid (i + nm + np < n2 → recRes b = (recN, 2)) := Lib.hid (fun h => hfin.1 (.inr (.inr (by omega))))
                    have HE4 : Hid (g1 = true → g2 = true → ¬ i + nm + np < n2 → ((recRes b = if recB (⟨run, scope, step, kk, cmd, o, am, ap⟩ : Rec) = true then ((⟨run, scope, step, kk, cmd, o, am, ap⟩ : Rec), 0) else (recN, 1)) ∧ RecOk (⟨run, scope, step, kk, cmd, o, am, ap⟩ : Rec))) := Lib.hid (fun h1 h2 h3 => hfin.2 am ap (by rw [hg1] at h1; rw [ham]; cases hq : rM with | some _ => rfl | none => rw [hq] at h1; cases h1) (by rw [hg2] at h2; rw [hap]; cases hq : rP with | some _ => rfl | none => rw [hq] at h2; cases h2) (by omega))
                    have hol : o.length = k := HO.out.2.1
                    have HOL := Lib.hid hol
                    have wa1 : (0 : Int) ≤ (i : Int) := by omega
                    have wa2 : (i : Int) ≤ (i : Int) + (nm : Int) := by omega
                    have wa3 : (i : Int) + (nm : Int) ≤ (c2 : Int) := by omega
                    have wa4 : ((i : Int) + (nm : Int)).toNat = i + nm := by omega
                    have wa5 : (0 : Int) ≤ (i : Int) + (nm : Int) := by omega
                    have wa6 : (i : Int) + (nm : Int) ≤ (i : Int) + (nm : Int) + (np : Int) := by omega
                    have wa7 : (i : Int) + (nm : Int) + (np : Int) ≤ (c2 : Int) := by omega
                    have wa8 : ((i : Int) + (nm : Int) + (np : Int)).toNat = i + nm + np := by omega
                    have wb1 : IntKind.i64.wrap ((i : Int) + (nm : Int)) = (i : Int) + (nm : Int) := IntWalk.i64_in _ (by omega)
                    have wb2 : IntKind.i64.wrap ((i : Int) + (nm : Int) + (np : Int)) = (i : Int) + (nm : Int) + (np : Int) := IntWalk.i64_in _ (by omega)
                    have wc1 : i + nm - i = nm := by omega
                    have wc2 : i + nm + np - (i + nm) = np := by omega
                    clear hdi hdj hrM hrP hfin hnm hnp hik hnn hg1 hg2 ham hap hol hnml hnpl hLw hp
                    go_upto_region 18 with (fail)
                    go_upto_region 19 with (go_at_call 28; refine hN1.mono ?_; clear hN1; rintro e wr ⟨rfl, rfl⟩)
                    go_upto_region 20 with (go_at_call 28; refine hN2.mono ?_; clear hN2; rintro e wr ⟨rfl, rfl⟩)
                    have hq1 := HQ1.out wr (hI.at_ 2 rfl : _ ∧ gl ≤ wr.heap.size).1 (hI.at_ 2 rfl : _ ∧ gl ≤ wr.heap.size).2
                    go_upto_region 21 with (go_at_call 29; refine hq1.mono ?_; clear hq1; rintro e w5 ⟨A7, c7, rfl, hO7, hb5⟩)
                    have hI7 : All w5 (.own wr.heap.size 70 33 A7 am.length c7 (am.map entC).flatten :: [.own gl 49 2 A' k c' (o.map varC).flatten, .cells gx 31 [.string run, .string scope, .string step, .int .i64 kk, .slice A4 cmd.length (c1 - 1), .slice A' k c', .slice none 0 0, .slice none 0 0], .low (Go.AdR.Low.lines gl (some ad2) n2 ([recW, run, scope, step, nu] :: (cmdW :: cmd) :: rest)), .cells w.heap.size 31 recZ, .kept w w.heap.size, .kept w2 gl]) := ⟨hO7, hI.call hb5⟩
                    have hg4 : gl ≤ wr.heap.size := (hI.at_ 2 rfl : _ ∧ gl ≤ wr.heap.size).2
                    clear hO7 hb5 hI HQ1
                    generalize wr.heap.size = b4 at *
                    have hq2 := HQ2.out w5 (hI7.at_ 3 rfl : _ ∧ gl ≤ w5.heap.size).1 (hI7.at_ 3 rfl : _ ∧ gl ≤ w5.heap.size).2
                    go_upto_region 22 with (go_at_call 29; refine hq2.mono ?_; clear hq2; rintro e w6 ⟨A8, c8, rfl, hO8, hb6⟩)
                    have hI8 : All w6 (.own w5.heap.size 70 33 A8 ap.length c8 (ap.map entC).flatten :: .own b4 70 33 A7 am.length c7 (am.map entC).flatten :: [.own gl 49 2 A' k c' (o.map varC).flatten, .cells gx 31 [.string run, .string scope, .string step, .int .i64 kk, .slice A4 cmd.length (c1 - 1), .slice A' k c', .slice none 0 0, .slice none 0 0], .low (Go.AdR.Low.lines gl (some ad2) n2 ([recW, run, scope, step, nu] :: (cmdW :: cmd) :: rest)), .cells w.heap.size 31 recZ, .kept w w.heap.size, .kept w2 gl]) := ⟨hO8, hI7.call hb6⟩
                    have hg5 : gl ≤ w5.heap.size := (hI7.at_ 3 rfl : _ ∧ gl ≤ w5.heap.size).2
                    clear hO8 hb6 hI7 HQ2
                    generalize w5.heap.size = b5 at *
                    cases g1 with
                    | false =>
                      have HR := Lib.hid (HE1.out rfl)
                      have hI5 : All w6 [.cells w.heap.size 31 recZ, .kept w w.heap.size] := ⟨hI8.at_ 5 rfl, hI8.at_ 6 rfl, trivial⟩
                      clear hI8 HE1 HE2 HE3 HE4
                      go_wp2_with (first
                        | (refine wl_build rfl 31 [] rfl _ _ #[(0, 1), (1, 1), (2, 1), (3, 1), (4, 1), (5, 1), (6, 1), (7, 1)] recZ.toArray zero_rec Tryz.underlying31 (fun w => by kernel_rfl) ?_ ?_; rfl)
                        | (refine wl_store_at hI5 0 rfl 31 (.tmp 2) (.tmp 168) rfl w.heap.size _ _ recZ rfl rfl rfl rfl (by kernel_rfl) (by decide +kernel) (by simp [Apart, Res.apart]) ?_; intro w9 hI9 hs9))
                      refine bodyPost_ret (v := .tuple #[.agg recZ.toArray, .int .i64 2]) ?_ rfl ⟨slN, slN, slN, slN, by rw [HR.out]; rfl, by rw [HR.out]; exact recIn_nil _ _, (hI9.at_ 1 rfl : _ ∧ _).1⟩
                      exact Go.AdP.results_row_tmp (p := 2) (q := 3) rfl _ _ w.heap.size 31 recZ.toArray (0, 0) _ rfl (hI9.at_ 0 rfl) Tryz.underlying31 rfl (by kernel_rfl)
                    | true =>
                      cases g2 with
                      | false =>
                        have HR := Lib.hid (HE2.out rfl)
                        have hI5 : All w6 [.cells w.heap.size 31 recZ, .kept w w.heap.size] := ⟨hI8.at_ 5 rfl, hI8.at_ 6 rfl, trivial⟩
                        clear hI8 HE1 HE2 HE3 HE4
                        go_wp2_with (first
                          | (refine wl_build rfl 31 [] rfl _ _ #[(0, 1), (1, 1), (2, 1), (3, 1), (4, 1), (5, 1), (6, 1), (7, 1)] recZ.toArray zero_rec Tryz.underlying31 (fun w => by kernel_rfl) ?_ ?_; rfl)
                          | (refine wl_store_at hI5 0 rfl 31 (.tmp 2) (.tmp 168) rfl w.heap.size _ _ recZ rfl rfl rfl rfl (by kernel_rfl) (by decide +kernel) (by simp [Apart, Res.apart]) ?_; intro w9 hI9 hs9))
                        refine bodyPost_ret (v := .tuple #[.agg recZ.toArray, .int .i64 2]) ?_ rfl ⟨slN, slN, slN, slN, by rw [HR.out]; rfl, by rw [HR.out]; exact recIn_nil _ _, (hI9.at_ 1 rfl : _ ∧ _).1⟩
                        exact Go.AdP.results_row_tmp (p := 2) (q := 3) rfl _ _ w.heap.size 31 recZ.toArray (0, 0) _ rfl (hI9.at_ 0 rfl) Tryz.underlying31 rfl (by kernel_rfl)
                      | true =>
                        by_cases hlt : i + nm + np < n2
                        · have HR := Lib.hid (HE3.out hlt)
                          have d3 : decide ((i : Int) + (nm : Int) + (np : Int) < (n2 : Int)) = true := by simp; omega
                          have hI5 : All w6 [.cells w.heap.size 31 recZ, .kept w w.heap.size] := ⟨hI8.at_ 5 rfl, hI8.at_ 6 rfl, trivial⟩
                          clear hI8 HE1 HE2 HE3 HE4
                          go_wp2_with (first
                            | (refine wl_build rfl 31 [] rfl _ _ #[(0, 1), (1, 1), (2, 1), (3, 1), (4, 1), (5, 1), (6, 1), (7, 1)] recZ.toArray zero_rec Tryz.underlying31 (fun w => by kernel_rfl) ?_ ?_; rfl)
                            | (refine wl_store_at hI5 0 rfl 31 (.tmp 2) (.tmp 168) rfl w.heap.size _ _ recZ rfl rfl rfl rfl (by kernel_rfl) (by decide +kernel) (by simp [Apart, Res.apart]) ?_; intro w9 hI9 hs9))
                          refine bodyPost_ret (v := .tuple #[.agg recZ.toArray, .int .i64 2]) ?_ rfl ⟨slN, slN, slN, slN, by rw [HR.out]; rfl, by rw [HR.out]; exact recIn_nil _ _, (hI9.at_ 1 rfl : _ ∧ _).1⟩
                          exact Go.AdP.results_row_tmp (p := 2) (q := 3) rfl _ _ w.heap.size 31 recZ.toArray (0, 0) _ rfl (hI9.at_ 0 rfl) Tryz.underlying31 rfl (by kernel_rfl)
                        · have d3 : decide ((i : Int) + (nm : Int) + (np : Int) < (n2 : Int)) = false := by simp; omega
                          obtain ⟨hrr, hok⟩ := HE4.out rfl rfl hlt
                          have HX := Lib.hid hrr
                          have HOK := Lib.hid hok
                          clear HE1 HE2 HE3 HE4 hrr hok hlt
                          have q6 : w6.cell? ⟨gx, 6, none⟩ = some (.slice none 0 0) := cell_of (hI8.at_ 3 rfl) (i := 6) rfl
                          have q7 : w6.cell? ⟨gx, 7, none⟩ = some (.slice none 0 0) := cell_of (hI8.at_ 3 rfl) (i := 7) rfl
                          have f6 := Cells.frozen (show Cells w6 gx 31 _ from hI8.at_ 3 rfl) 6
                          have f7 := Cells.frozen (show Cells w6 gx 31 _ from hI8.at_ 3 rfl) 7
                          go_upto_region 25 with (fail)
                          have hS1 := All.store hI8 3 rfl 6 (.slice A7 am.length c7) ⟨fun g e => .inr (by injection e with e; subst e; exact own_ne_cells (hI8.at_ 0 rfl) (hI8.at_ 3 rfl) (by decide)), fun g e => .inr (by injection e with e; subst e; exact own_ne_cells (hI8.at_ 1 rfl) (hI8.at_ 3 rfl) (by decide)), fun g e => .inr (by injection e with e; subst e; exact own_ne_cells (hI8.at_ 2 rfl) (hI8.at_ 3 rfl) (by decide)), fun g e => (by injection e with e; subst e; exact hgx), fun e => (by injection e with e; omega), fun g e => (by injection e with e; omega), fun g e => (by injection e with e; omega), trivial⟩
                          simp only [List.set_cons_succ, List.set_cons_zero] at hS1
                          have hS2 := All.store hS1 3 rfl 7 (.slice A8 ap.length c8) ⟨fun g e => .inr (by injection e with e; subst e; exact own_ne_cells (hS1.at_ 0 rfl) (hS1.at_ 3 rfl) (by decide)), fun g e => .inr (by injection e with e; subst e; exact own_ne_cells (hS1.at_ 1 rfl) (hS1.at_ 3 rfl) (by decide)), fun g e => .inr (by injection e with e; subst e; exact own_ne_cells (hS1.at_ 2 rfl) (hS1.at_ 3 rfl) (by decide)), fun g e => (by injection e with e; subst e; exact hgx), fun e => (by injection e with e; omega), fun g e => (by injection e with e; omega), fun g e => (by injection e with e; omega), trivial⟩
                          simp only [List.set_cons_succ, List.set_cons_zero] at hS2
                          clear hS1 hI8 q6 q7 f6 f7
                          refine wp_gen hS2 ?_
                          intro W9 hW9
                          clear hS2
                          obtain ⟨sc, hsc⟩ : ∃ s : Sl, s = ⟨A4, cmd.length, c1 - 1⟩ := ⟨_, rfl⟩
                          obtain ⟨se, hse⟩ : ∃ s : Sl, s = ⟨A', k, c'⟩ := ⟨_, rfl⟩
                          obtain ⟨sm, hsm⟩ : ∃ s : Sl, s = ⟨A7, am.length, c7⟩ := ⟨_, rfl⟩
                          obtain ⟨sp, hsp⟩ : ∃ s : Sl, s = ⟨A8, ap.length, c8⟩ := ⟨_, rfl⟩
                          obtain ⟨x, hx⟩ : ∃ x : Rec, x = (⟨run, scope, step, kk, cmd, o, am, ap⟩ : Rec) := ⟨_, rfl⟩
                          rw [← hx] at HX HOK
                          have hF : All W9 [.own b5 70 33 sp.A sp.n sp.c (x.prod.map entC).flatten, .own b4 70 33 sm.A sm.n sm.c (x.mat.map entC).flatten, .own gl 49 2 se.A se.n se.c (x.env.map varC).flatten, .cells gx 31 (recC x sc se sm sp), .cells w.heap.size 31 recZ, .kept w w.heap.size, .kept w2 gl] := ⟨by rw [hsp, hx]; exact hW9.at_ 0 rfl, by rw [hsm, hx]; exact hW9.at_ 1 rfl, by rw [hse, hx]; exact hW9.at_ 2 rfl, by rw [hsp, hsm, hse, hsc, hx]; exact hW9.at_ 3 rfl, hW9.at_ 5 rfl, hW9.at_ 6 rfl, hW9.at_ 7 rfl, trivial⟩
                          have HLN : Hid (se.n = x.env.length ∧ sm.n = x.mat.length ∧ sp.n = x.prod.length) := Lib.hid (by rw [hse, hsm, hsp, hx]; exact ⟨HOL.out.symm, rfl, rfl⟩)
                          have HSC : Hid (∀ W, Below gl w2 W → gl ≤ W.heap.size → Strs W W.heap.size sc.A sc.n x.cmd) := Lib.hid (fun W hb hs => by rw [hsc, hx]; exact (HST4.out.below hb (Nat.le_refl _)).mono hs)
                          have HFB : Hid (∀ ad, sc.A = some ad → ad.block = ad1.block) := Lib.hid (fun ad e => HB4.out ad (by rw [hsc] at e; exact e))
                          clear hsc hse hsm hsp hx hW9 HST4 HB4 HOL HO hAm hAp
                          have hL7 : Hid (∀ W, All W [.own b5 70 33 sp.A sp.n sp.c (x.prod.map entC).flatten, .own b4 70 33 sm.A sm.n sm.c (x.mat.map entC).flatten, .own gl 49 2 se.A se.n se.c (x.env.map varC).flatten, .cells gx 31 (recC x sc se sm sp), .cells w.heap.size 31 recZ, .kept w w.heap.size, .kept w2 gl] → All W [.own b5 70 33 sp.A sp.n sp.c (x.prod.map entC).flatten, .own b4 70 33 sm.A sm.n sm.c (x.mat.map entC).flatten, .own gl 49 2 se.A se.n se.c (x.env.map varC).flatten, .cells w.heap.size 31 recZ, .nest 0 9 1 none 0 0 [] 0 (fun b => b = ad1.block) (fun W => Strs W W.heap.size sc.A sc.n x.cmd), .kept w w.heap.size]) := Lib.hid (fun W h => ⟨h.at_ 0 rfl, h.at_ 1 rfl, h.at_ 2 rfl, h.at_ 4 rfl, Nest.of (Go.Adm.Own.nil _ _ _ _) (HSC.out W (h.at_ 6 rfl : _ ∧ gl ≤ W.heap.size).1 (h.at_ 6 rfl : _ ∧ gl ≤ W.heap.size).2) (strs_st HFB.out) (fun b hb => ⟨Nat.zero_le _, by have := (h.at_ 6 rfl : _ ∧ gl ≤ W.heap.size).2; rw [hb]; omega, fun e => by cases e⟩), h.at_ 5 rfl, trivial⟩)
                          have HAP : Hid (Apart (some w.heap.size) (([.own b5 70 33 sp.A sp.n sp.c (x.prod.map entC).flatten, .own b4 70 33 sm.A sm.n sm.c (x.mat.map entC).flatten, .own gl 49 2 se.A se.n se.c (x.env.map varC).flatten, .cells w.heap.size 31 recZ, .nest 0 9 1 none 0 0 [] 0 (fun b => b = ad1.block) (fun W => Strs W W.heap.size sc.A sc.n x.cmd), .kept w w.heap.size] : List Res).eraseIdx 3)) := Lib.hid ⟨fun g e => .inl (by injection e with e; omega), fun g e => .inl (by injection e with e; omega), fun g e => .inl (by injection e with e; omega), fun g e => ⟨Nat.zero_le _, .inr ⟨fun e' => (by cases e'), fun e' => HNE1.out (by first | rfl | trivial) ((show ad1.block = g from Eq.symm e').trans (Option.some.inj e).symm)⟩⟩, fun g e => (by injection e with e; omega), trivial⟩
                          have hval := rrValid_any W9 W9.heap.size x sc se sm sp (recIn_low (HSC.out W9 (hF.at_ 6 rfl : _ ∧ gl ≤ W9.heap.size).1 (hF.at_ 6 rfl : _ ∧ gl ≤ W9.heap.size).2) (hF.at_ 2 rfl) (hF.at_ 1 rfl) (hF.at_ 0 rfl) HLN.out HOK.out) HOK.out (Nat.le_refl _) m (HM.out W9 (hF.at_ 5 rfl : _ ∧ _).1)
                          have HL8 : Hid ((recC x sc se sm sp).length = 8) := Lib.hid rfl
                          cases hv : recB x with
                          | false =>
                            have HR : Hid (recRes b = (recN, 1)) := Lib.hid (by rw [HX.out, hv]; rfl)
                            rw [hv] at hval
                            clear hv HX
                            go_upto_region 26 with (first
                              | (refine wl_load_any rfl 31 (.tmp 8) rfl ⟨gx, 0, none⟩ rfl (recC x sc se sm sp) _ (cell_all (hF.at_ 3 rfl)) Tryz.underlying31 rfl (by rw [HL8.out]; kernel_rfl) ?_)
                              | (go_at_call 13; refine hval.mono ?_; rintro e w8 ⟨rfl, hb8⟩; have hF6 := hF.call hb8; clear hF hb8))
                            have hI5 : All w8 [.cells w.heap.size 31 recZ, .kept w w.heap.size] := ⟨hF6.at_ 4 rfl, hF6.at_ 5 rfl, trivial⟩
                            clear hF6 hval
                            go_wp2_with (first
                              | (refine wl_build rfl 31 [] rfl _ _ #[(0, 1), (1, 1), (2, 1), (3, 1), (4, 1), (5, 1), (6, 1), (7, 1)] recZ.toArray zero_rec Tryz.underlying31 (fun w => by kernel_rfl) ?_ ?_; rfl)
                              | (refine wl_store_at hI5 0 rfl 31 (.tmp 2) (.tmp 176) rfl w.heap.size _ _ recZ rfl rfl rfl rfl (by kernel_rfl) (by decide +kernel) (by simp [Apart, Res.apart]) ?_; intro w9 hI9 hs9))
                            refine bodyPost_ret (v := .tuple #[.agg recZ.toArray, .int .i64 1]) ?_ rfl ⟨slN, slN, slN, slN, by rw [HR.out]; rfl, by rw [HR.out]; exact recIn_nil _ _, (hI9.at_ 1 rfl : _ ∧ _).1⟩
                            exact Go.AdP.results_row_tmp (p := 2) (q := 3) rfl _ _ w.heap.size 31 recZ.toArray (0, 0) _ rfl (hI9.at_ 0 rfl) Tryz.underlying31 rfl (by kernel_rfl)
                          | true =>
                            have HR : Hid (recRes b = (x, 0)) := Lib.hid (by rw [HX.out, hv]; rfl)
                            rw [hv] at hval
                            clear hv HX
                            go_wp2_with (first
                              | (refine wl_load_any rfl 31 (.tmp 8) rfl ⟨gx, 0, none⟩ rfl (recC x sc se sm sp) _ (cell_all (hF.at_ 3 rfl)) Tryz.underlying31 rfl (by rw [HL8.out]; kernel_rfl) ?_)
                              | (go_at_call 13; refine hval.mono ?_; rintro e w8 ⟨rfl, hb8⟩; have hF6 := hF.call hb8; have hF7 := hL7.out w8 hF6; clear hF hb8)
                              | (refine wl_load_any rfl 31 (.tmp 8) rfl ⟨gx, 0, none⟩ rfl (recC x sc se sm sp) _ (cell_all (hF6.at_ 3 rfl)) Tryz.underlying31 rfl (by rw [HL8.out]; kernel_rfl) ?_)
                              | (refine wl_store_at hF7 3 rfl 31 (.tmp 2) (.tmp 177) rfl w.heap.size _ _ (recC x sc se sm sp) rfl rfl rfl (by rw [HL8.out]; rfl) (by rw [HL8.out]; kernel_rfl) (recC_one x sc se sm sp) HAP.out ?_; intro w9 hI9 hs9))
                            have hnn9 := (hI9.at_ 4 rfl : Nest w9 _ _ _ _ _ _ _ _ _ _)
                            have hkb := (hI9.at_ 5 rfl : _ ∧ _).1
                            refine bodyPost_ret (v := .tuple #[.agg (recC x sc se sm sp).toArray, .int .i64 0]) ?_ rfl ⟨sc, se, sm, sp, by rw [HR.out], by rw [HR.out]; exact recIn_low hnn9.inn (hI9.at_ 2 rfl) (hI9.at_ 1 rfl) (hI9.at_ 0 rfl) HLN.out HOK.out, hkb⟩
                            exact Go.AdP.results_row_tmp (p := 2) (q := 3) rfl _ _ w.heap.size 31 (recC x sc se sm sp).toArray (0, 0) _ rfl (hI9.at_ 3 rfl) Tryz.underlying31 rfl (by rw [List.size_toArray, HL8.out]; kernel_rfl)

          · have e2 : (t1.toList == [99, 111, 109, 109, 97, 110, 100]) = false := by
              rw [show [99, 111, 109, 109, 97, 110, 100] = cmdW.toList from by rw [ByteArray.toList_eq]; rfl, beq_eq_false_iff_ne]
              exact fun h => k3 (Go.AdR.toList_inj h)
            have HR := Lib.hid (HN0.out _ rfl (recParse_cmd k3))
            clear HN0 HS0 k3
            go_wp2_with (first
              | (refine wl_build rfl 31 [] rfl _ _ #[(0, 1), (1, 1), (2, 1), (3, 1), (4, 1), (5, 1), (6, 1), (7, 1)] recZ.toArray zero_rec Tryz.underlying31 (fun w => by kernel_rfl) ?_ ?_; rfl)
              | (refine wl_store_at hI5 0 rfl 31 (.tmp 2) (.tmp 52) rfl w.heap.size _ _ recZ rfl rfl rfl rfl (by kernel_rfl) (by decide +kernel) (by simp [Apart, Res.apart]) ?_; intro w9 hI9 hs9))
            refine bodyPost_ret (v := .tuple #[.agg recZ.toArray, .int .i64 2]) ?_ rfl ⟨slN, slN, slN, slN, by rw [HR.out]; rfl, by rw [HR.out]; exact recIn_nil _ _, (hI9.at_ 1 rfl : _ ∧ _).1⟩
            exact Go.AdP.results_row_tmp (p := 2) (q := 3) rfl _ _ w.heap.size 31 recZ.toArray (0, 0) _ rfl (hI9.at_ 0 rfl) Tryz.underlying31 rfl (by kernel_rfl)
        · have e2 : (t0.toList == [114, 101, 99, 111, 114, 100]) = false := by
            rw [show [114, 101, 99, 111, 114, 100] = recW.toList from by rw [ByteArray.toList_eq]; rfl, beq_eq_false_iff_ne]
            exact fun h => k2 (Go.AdR.toList_inj h)
          have HR := Lib.hid (HN0.out _ rfl (recParse_word k2))
          clear HN0 HS0 k2
          go_wp2_with (first
            | (refine wl_build rfl 31 [] rfl _ _ #[(0, 1), (1, 1), (2, 1), (3, 1), (4, 1), (5, 1), (6, 1), (7, 1)] recZ.toArray zero_rec Tryz.underlying31 (fun w => by kernel_rfl) ?_ ?_; rfl)
            | (refine wl_store_at hI5 0 rfl 31 (.tmp 2) (.tmp 52) rfl w.heap.size _ _ recZ rfl rfl rfl rfl (by kernel_rfl) (by decide +kernel) (by simp [Apart, Res.apart]) ?_; intro w9 hI9 hs9))
          refine bodyPost_ret (v := .tuple #[.agg recZ.toArray, .int .i64 2]) ?_ rfl ⟨slN, slN, slN, slN, by rw [HR.out]; rfl, by rw [HR.out]; exact recIn_nil _ _, (hI9.at_ 1 rfl : _ ∧ _).1⟩
          exact Go.AdP.results_row_tmp (p := 2) (q := 3) rfl _ _ w.heap.size 31 recZ.toArray (0, 0) _ rfl (hI9.at_ 0 rfl) Tryz.underlying31 rfl (by kernel_rfl)
      · have d2 : ((l0.length : Int) != 5) = true := by simp; omega
        have HR := Lib.hid (HN0.out _ rfl (recParse_not5 k1))
        clear HN0 HS0 hS0 hS1 hL2 k1 hl0 hl1
        go_wp2_with (first
          | (refine wl_build rfl 31 [] rfl _ _ #[(0, 1), (1, 1), (2, 1), (3, 1), (4, 1), (5, 1), (6, 1), (7, 1)] recZ.toArray zero_rec Tryz.underlying31 (fun w => by kernel_rfl) ?_ ?_; rfl)
          | (refine wl_store_at hI5 0 rfl 31 (.tmp 2) (.tmp 52) rfl w.heap.size _ _ recZ rfl rfl rfl rfl (by kernel_rfl) (by decide +kernel) (by simp [Apart, Res.apart]) ?_; intro w9 hI9 hs9))
        refine bodyPost_ret (v := .tuple #[.agg recZ.toArray, .int .i64 2]) ?_ rfl ⟨slN, slN, slN, slN, by rw [HR.out]; rfl, by rw [HR.out]; exact recIn_nil _ _, (hI9.at_ 1 rfl : _ ∧ _).1⟩
        exact Go.AdP.results_row_tmp (p := 2) (q := 3) rfl _ _ w.heap.size 31 recZ.toArray (0, 0) _ rfl (hI9.at_ 0 rfl) Tryz.underlying31 rfl (by kernel_rfl)
  · have HR := Lib.hid (recRes_err q0)
    obtain ⟨q, hq⟩ : ∃ q, q = (decR b).2 := ⟨_, rfl⟩
    rw [← hq] at HR q0 ⊢
    have d0 : (q != 0) = true := by simpa using q0
    clear q0 hq hnc2 hcm2 hL2
    go_wp2_with (first
      | (refine wl_build rfl 31 [] rfl _ _ #[(0, 1), (1, 1), (2, 1), (3, 1), (4, 1), (5, 1), (6, 1), (7, 1)] recZ.toArray zero_rec Tryz.underlying31 (fun w => by kernel_rfl) ?_ ?_; rfl)
      | (refine wl_store_at hI5 0 rfl 31 (.tmp 2) (.tmp 24) rfl w.heap.size _ _ recZ rfl rfl rfl rfl (by kernel_rfl) (by decide +kernel) (by simp [Apart, Res.apart]) ?_; intro w9 hI9 hs9))
    refine bodyPost_ret (v := .tuple #[.agg recZ.toArray, .int .i64 q]) ?_ rfl ⟨slN, slN, slN, slN, by rw [HR.out]; rfl, by rw [HR.out]; exact recIn_nil _ _, (hI9.at_ 1 rfl : _ ∧ _).1⟩
    exact Go.AdP.results_row_tmp (p := 2) (q := 3) rfl _ _ w.heap.size 31 recZ.toArray (0, 0) _ rfl (hI9.at_ 0 rfl) Tryz.underlying31 rfl (by kernel_rfl)
end Go.Proofs.YtjdinakdkdjocaaGreatDoor
