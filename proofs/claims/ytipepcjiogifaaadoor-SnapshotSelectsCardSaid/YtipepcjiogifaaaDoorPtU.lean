/- snapshot.Select of both sides. -/
import Derived.Test.YtipepcjiogifaaaDoorPtH
import Derived.Test.YtipepcjiogifaaaDoorTapA
set_option linter.unusedSimpArgs false
set_option linter.unusedVariables false
set_option maxRecDepth 100000
namespace Go.Adm
open Go Go.RowKit
noncomputable def selL (s : ByteArray) (l : List E) : List E := l.filter (fun e => matchF s e.p)
def RowPost (r : List E) (tid : TypeId) (w : World) (e : Ending) (w' : World) : Prop :=
  ∃ A c, e = .returned (.slice A r.length c) ∧ Go.Adm.Own w' w.heap.size tid 33 A r.length c (r.map entC).flatten ∧ Below w.heap.size w w'
theorem cell_allE {w : World} {g : Nat} {t : TypeId} {cs : List Value} (h : Cells w g t cs) : ∀ j u, cs[j]? = some u → w.cell? ((⟨g, 0, none⟩ : Addr).add j) = some u := Cells.sub h 0 (fun j u hu => by rwa [Nat.zero_add])
theorem selL_step {s : ByteArray} {l : List E} {k : Nat} (hk : k < l.length) {x : E} (hx : l[k] = x) {b : Bool} (hb : matchF s x.p = b) {o : List E} (ho : o = selL s (l.take k)) : (if b then o ++ [x] else o) = selL s (l.take (k + 1)) := by
  unfold selL at *
  rw [filter_step _ _ _ hk, hx, hb, ← ho]
  cases b <;> simp
end Go.Adm
namespace Go.Proofs.YtipepcjiogifaaaDoor
open Go Go.RowKit Go.Adm
set_option maxHeartbeats 6400000 in
theorem Select_any (w : World) (B : Nat) (A : Option Addr) (n c : Nat) (l : List E) (hl : Els w B 33 A n (l.map entC)) (h32 : ∀ e ∈ l, E32 e) (hn : l.length = n) (hn2 : n ≤ 1000000) (s : ByteArray) (hs : s.size ≤ 140737488355328) (hB : B ≤ w.heap.size) :
    Calls Tryd.prog 12 #[.slice A n c, .string s] w (RowPost (selL s l) 50 w) := by
  have hR : All w [.own w.heap.size 50 33 none 0 0 (([] : List E).map entC).flatten, .low (.els B 33 A n (l.map entC)), .kept w w.heap.size] := ⟨Go.Adm.Own.nil _ _ _ _, ⟨hl, hB⟩, ⟨Below.refl _ _, Nat.le_refl _⟩, trivial⟩
  have HN := Lib.hid hn
  have H32 := Lib.hid h32
  have HMT := Lib.hid (fun (x : E) (hx : E32 x) W => Match_any s x.p W hs hx.2)
  have hzr := zero_ent
  clear hl h32 hn hs
  go_enter Tryd.func12, Tryd.ntmps12
  go_wp2_with fail
  go_loopw [5, 10] (fun v i wr => ∃ (k : Nat) (A' : Option Addr) (c' : Nat) (o : List E), k ≤ n ∧ i = .int .i64 k ∧ v = .slice A' o.length c' ∧ o.length ≤ k ∧ Hid (o = selL s (l.take k)) ∧ All wr [.own w.heap.size 50 33 A' o.length c' (o.map entC).flatten, .low (.els B 33 A n (l.map entC)), .kept w w.heap.size]) (fun _ i _ => n - (intOf i).toNat)
  case atStart => exact ⟨0, none, 0, [], Nat.zero_le _, rfl, rfl, Nat.le_refl _, Lib.hid rfl, hR⟩
  case round =>
    clear hR
    obtain ⟨k, A', c', o, hk, rfl, rfl, hok, HO, hI⟩ := hrel
    by_cases hlt : k < n
    · have d1 : decide ((k : Int) < (n : Int)) = true := by simp; omega
      have hkl : k < l.length := by rw [HN.out]; exact hlt
      obtain ⟨ad, rfl, hadB, hc⟩ := Els.elem (hI.at_ 1 rfl : Els wr B 33 A n (l.map entC) ∧ B ≤ wr.heap.size).1 hkl
      have HC := Lib.hid hc
      have hx := Lib.hid (H32.out _ (List.getElem_mem hkl))
      have HST := Lib.hid (fun b (hb : matchF s l[k].p = b) => selL_step hkl rfl hb HO.out)
      clear hc HO
      generalize l[k] = x at *
      have wk1 : (0 : Int) ≤ (k : Int) := by omega
      have wk2 : (k : Int) < (n : Int) := by omega
      go_upto_region 5 with (first
        | (refine wl_load_any rfl 50 (.tmp 12) rfl (ad.add (k * 33)) rfl (entC x) _ HC.out Tryd.underlying50 rfl (by rw [entC_len hx.out]; kernel_rfl) ?_)
        | (refine wl_store_at (hI.new (l := entZ) _ 50 rfl rfl) 0 rfl 50 (.tmp 7) (.tmp 13) rfl wr.heap.size _ _ (entC x) rfl rfl rfl (by rw [entC_len hx.out]; rfl) (by rw [entC_len hx.out]; kernel_rfl) (entC_one x) ⟨fun g e => .inr (by injection e with e; subst e; exact Own.ne (hI.at_ 0 rfl)), fun g e => (by have := (hI.at_ 1 rfl : _ ∧ B ≤ wr.heap.size).2; injection e with e; subst e; exact this), fun g e => (by have := (hI.at_ 2 rfl : _ ∧ w.heap.size ≤ wr.heap.size).2; injection e with e; subst e; exact this), trivial⟩ ?_; intro W2 hW2 hs2; clear hs2; simp only [List.set_cons_zero] at hW2))
      obtain ⟨gx, hgx⟩ : ∃ gx, gx = wr.heap.size := ⟨_, rfl⟩
      simp only [← hgx]
      rw [← hgx] at hW2
      clear hgx hI HC
      have c0 : W2.cell? ⟨gx, 0, none⟩ = some (.string x.p) := Cells.cell (hW2.at_ 0 rfl) (i := 0) (by simp [entC])
      have hmt := HMT.out x hx.out W2
      cases hq : matchF s x.p with
      | false =>
        have HO := Lib.hid (HST.out false hq)
        rw [hq] at hmt
        clear HST hq
        go_wp2_with (go_at_call 31; refine hmt.mono ?_; clear hmt; rintro e w3 ⟨rfl, hb3⟩; have hW3 := (hW2.call hb3).2; clear hW2)
        exact ⟨⟨k + 1, A', c', o, by omega, by go_num, rfl, by omega, Lib.hid (by have := HO.out; simpa using this), hW3⟩, by simp [intOf]; omega⟩
      | true =>
        have HO := Lib.hid (HST.out true hq)
        rw [hq] at hmt
        clear HST hq
        go_upto_region 6 with (go_at_call 31; refine hmt.mono ?_; clear hmt; rintro e w3 ⟨rfl, hb3⟩; have hW3 := (hW2.call hb3); clear hW2)
        have hws : w.heap.size ≤ w3.heap.size := (hW3.at_ 3 rfl : _ ∧ w.heap.size ≤ w3.heap.size).2
        have hI4 := (All.alloc hW3.2 (.cells (entC x).toArray 50))
        have hrd4 : Rd (w3.alloc (.cells (entC x).toArray 50)) (w3.heap.size + 1) 33 (some ⟨w3.heap.size, 0, none⟩) 1 (entC x) := Rd.lit (size := 33) w3 (entC x).toArray 50 1 (by rw [List.size_toArray]; exact entC_len hx.out)
        go_wp2_with (first
          | (refine wl_load_any rfl 50 (.tmp 7) rfl ⟨gx, 0, none⟩ rfl (entC x) _ (cell_allE (hW3.at_ 0 rfl)) Tryd.underlying50 rfl (by rw [entC_len hx.out]; kernel_rfl) ?_)
          | (refine wl_lit1 el_ent rfl (.tmp 19) rfl (entC x) rfl (entC_len hx.out) (by decide) ?_)
          | (at_builtin; refine wl_app_at el_ent hI4 0 rfl (.tmp 18) (.tmp 20) rfl w.heap.size _ _ _ _ rfl rfl (w3.heap.size + 1) _ 1 1 (entC x) rfl hrd4 (entC_one x) (by omega) (by simp; omega) (by intro g hg h; simp [Apart, Res.apart, Low.els] <;> omega) ?_; intro A7 c7 w7 hI7 hs7))
        simp only [List.set_cons_zero] at hI7
        refine ⟨⟨k + 1, A7, c7, o ++ [x], by omega, by go_num, by rw [List.length_append]; rfl, by rw [List.length_append, List.length_singleton]; omega, Lib.hid (by have := HO.out; simpa using this), ?_⟩, by simp [intOf]; omega⟩
        rw [List.length_append, List.map_append, List.flatten_append]
        simpa using hI7
    · have d1 : decide ((k : Int) < (n : Int)) = false := by simp; omega
      have HF : Hid (selL s l = o) := Lib.hid (by rw [HO.out, List.take_of_length_le (by rw [HN.out]; omega)])
      clear HO
      go_wp2_with fail
      go_ret
      rw [HF.out]
      exact ⟨A', c', rfl, hI.at_ 0 rfl, (hI.at_ 2 rfl : _ ∧ _).1⟩
set_option maxHeartbeats 6400000 in
theorem refSelect_any (w : World) (m : Int) (hm : w.cell? ⟨0, 0, none⟩ = some (.int .i64 m)) (B : Nat) (A : Option Addr) (n c : Nat) (l : List E) (hl : Els w B 33 A n (l.map entC)) (h32 : ∀ e ∈ l, E32 e) (hn : l.length = n) (hn2 : n ≤ 1000000) (s : ByteArray) (hs : s.size ≤ 140737488355328) (hB : B ≤ w.heap.size) :
    Calls Tryd.prog 13 #[.slice A n c, .string s] w (RowPost (selL s l) 50 w) := by
  have hR : All w [.own w.heap.size 50 33 none 0 0 (([] : List E).map entC).flatten, .low (.els B 33 A n (l.map entC)), .kept w w.heap.size] := ⟨Go.Adm.Own.nil _ _ _ _, ⟨hl, hB⟩, ⟨Below.refl _ _, Nat.le_refl _⟩, trivial⟩
  have HN := Lib.hid hn
  have H32 := Lib.hid h32
  have hgm : 0 < w.heap.size := World.block_lt_of_cell? w _ hm
  have HMT := Lib.hid (fun (x : E) (hx : E32 x) W (hb : Below w.heap.size w W) (hsz : w.heap.size ≤ W.heap.size) => refMatch_any s x.p W m ((hb.cell hgm).trans hm) (Nat.lt_of_lt_of_le hgm hsz) hs hx.2)
  clear hl h32 hn hs hm hgm
  go_enter Tryd.func13, Tryd.ntmps13
  go_wp2_with fail
  go_loopw [5, 6] (fun v i wr => ∃ (k : Nat) (A' : Option Addr) (c' : Nat) (o : List E), k ≤ n ∧ i = .int .i64 k ∧ v = .slice A' o.length c' ∧ o.length ≤ k ∧ Hid (o = selL s (l.take k)) ∧ All wr [.own w.heap.size 50 33 A' o.length c' (o.map entC).flatten, .low (.els B 33 A n (l.map entC)), .kept w w.heap.size]) (fun _ i _ => n - (intOf i).toNat)
  case atStart => exact ⟨0, none, 0, [], Nat.zero_le _, rfl, rfl, Nat.le_refl _, Lib.hid rfl, hR⟩
  case round =>
    clear hR
    obtain ⟨k, A', c', o, hk, rfl, rfl, hok, HO, hI⟩ := hrel
    by_cases hlt : k < n
    · have d1 : decide ((k : Int) < (n : Int)) = true := by simp; omega
      have hkl : k < l.length := by rw [HN.out]; exact hlt
      obtain ⟨ad, rfl, hadB, hc⟩ := Els.elem (hI.at_ 1 rfl : Els wr B 33 A n (l.map entC) ∧ B ≤ wr.heap.size).1 hkl
      have HC : Hid (∀ W, All W [.low (.els B 33 (some ad) n (l.map entC)), .kept w w.heap.size] → ∀ j u, (entC l[k])[j]? = some u → W.cell? ((ad.add (k * 33)).add j) = some u) := Lib.hid (fun W hW => by
        obtain ⟨a', e, -, hc⟩ := Els.elem (hW.at_ 0 rfl : Els W B 33 (some ad) n (l.map entC) ∧ B ≤ W.heap.size).1 hkl
        obtain rfl := Option.some.inj e
        exact hc)
      have hx := Lib.hid (H32.out _ (List.getElem_mem hkl))
      have HST := Lib.hid (fun b (hb : matchF s l[k].p = b) => selL_step hkl rfl hb HO.out)
      clear HO
      generalize l[k] = x at *
      have wk1 : (0 : Int) ≤ (k : Int) := by omega
      have wk2 : (k : Int) < (n : Int) := by omega
      have c0 : wr.cell? (ad.add (k * 33)) = some (.string x.p) := by have := hc 0 (sv x.p) rfl; rwa [add_zero] at this
      clear hc
      have hmt := HMT.out x hx.out wr (hI.at_ 2 rfl : _ ∧ _).1 (hI.at_ 2 rfl : _ ∧ w.heap.size ≤ wr.heap.size).2
      cases hq : matchF s x.p with
      | false =>
        have HO := Lib.hid (HST.out false hq)
        rw [hq] at hmt
        clear HST hq
        go_wp2_with (go_at_call 32; refine hmt.mono ?_; clear hmt; rintro e w3 ⟨rfl, hb3⟩; have hW3 := (hI.call hb3); clear hI)
        exact ⟨⟨k + 1, A', c', o, by omega, by go_num, rfl, by omega, Lib.hid (by have := HO.out; simpa using this), hW3⟩, by simp [intOf]; omega⟩
      | true =>
        have HO := Lib.hid (HST.out true hq)
        rw [hq] at hmt
        clear HST hq
        go_upto_region 6 with (go_at_call 32; refine hmt.mono ?_; clear hmt; rintro e w3 ⟨rfl, hb3⟩; have hW3 := (hI.call hb3); clear hI)
        have hws : w.heap.size ≤ w3.heap.size := (hW3.at_ 2 rfl : _ ∧ w.heap.size ≤ w3.heap.size).2
        have hc3 := HC.out w3 hW3.2
        have hI4 := (All.alloc hW3 (.cells (entC x).toArray 50))
        have hrd4 : Rd (w3.alloc (.cells (entC x).toArray 50)) (w3.heap.size + 1) 33 (some ⟨w3.heap.size, 0, none⟩) 1 (entC x) := Rd.lit (size := 33) w3 (entC x).toArray 50 1 (by rw [List.size_toArray]; exact entC_len hx.out)
        go_wp2_with (first
          | (refine wl_load_any rfl 50 (.tmp 23) rfl (ad.add (k * 33)) rfl (entC x) _ hc3 Tryd.underlying50 rfl (by rw [entC_len hx.out]; kernel_rfl) ?_)
          | (refine wl_lit1 el_ent rfl (.tmp 24) rfl (entC x) rfl (entC_len hx.out) (by decide) ?_)
          | (at_builtin; refine wl_app_at el_ent hI4 0 rfl (.tmp 20) (.tmp 25) rfl w.heap.size _ _ _ _ rfl rfl (w3.heap.size + 1) _ 1 1 (entC x) rfl hrd4 (entC_one x) (by omega) (by simp; omega) (by intro g hg h; simp [Apart, Res.apart, Low.els] <;> omega) ?_; intro A7 c7 w7 hI7 hs7))
        simp only [List.set_cons_zero] at hI7
        refine ⟨⟨k + 1, A7, c7, o ++ [x], by omega, by go_num, by rw [List.length_append]; rfl, by rw [List.length_append, List.length_singleton]; omega, Lib.hid (by have := HO.out; simpa using this), ?_⟩, by simp [intOf]; omega⟩
        rw [List.length_append, List.map_append, List.flatten_append]
        simpa using hI7
    · have d1 : decide ((k : Int) < (n : Int)) = false := by simp; omega
      have HF : Hid (selL s l = o) := Lib.hid (by rw [HO.out, List.take_of_length_le (by rw [HN.out]; omega)])
      clear HO
      go_wp2_with fail
      go_ret
      rw [HF.out]
      exact ⟨A', c', rfl, hI.at_ 0 rfl, (hI.at_ 2 rfl : _ ∧ _).1⟩
end Go.Proofs.YtipepcjiogifaaaDoor
