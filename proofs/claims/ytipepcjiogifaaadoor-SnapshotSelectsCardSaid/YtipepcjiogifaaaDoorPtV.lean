/- snapshot.Move of both sides. -/
import Derived.Test.YtipepcjiogifaaaDoorPtU
import Derived.Test.YtipepcjiogifaaaDoorPtT
import Derived.Test.YtipepcjiogifaaaDoorMkP
set_option linter.unusedSimpArgs false
set_option linter.unusedVariables false
set_option maxRecDepth 100000
namespace Go.Adm
open Go Go.RowKit
def mvR (f t : ByteArray) (l : List E) : List E × Int := if validB l = true then if dirB f = true then if dirB t = true then (mvL f t l, 0) else ([], 1) else ([], 1) else ([], 1)
theorem mvL_step {f t : ByteArray} {l : List E} {k : Nat} (hk : k < l.length) {x : E} (hx : l[k] = x) {o : List E} (ho : o = mvL f t (l.take k)) : mvL f t (l.take (k + 1)) = o ++ (match relO f t x.p with | none => [] | some p => [⟨p, x.d⟩]) := by
  rw [List.take_succ_eq_append_getElem hk, hx]
  unfold mvL
  rw [List.filterMap_append]
  subst ho
  congr 1
  cases hr : relO f t x.p with
  | none => simp [mvE, hr]
  | some p => simp [mvE, hr]
theorem putK_end : ∀ (o : List E) (x : E), (∀ y ∈ o, blt y.p x.p = true) → putK blt Ent.p o x = o ++ [x]
  | [], x, _ => by simp [putK]
  | y :: o, x, h => by
    rw [putK_cons, if_pos (h y List.mem_cons_self), putK_end o x (fun z hz => h z (List.mem_cons_of_mem _ hz))]
    rfl
theorem put_move {f t : ByteArray} {l : List E} {k : Nat} (hk : k < l.length) {x : E} (hx : l[k] = x) {o : List E} (ho : o = mvL f t (l.take k)) (ha : l.Pairwise fun x y => blt x.p y.p = true) {p : ByteArray} (hr : relO f t x.p = some p) : putK blt Ent.p o ⟨p, x.d⟩ = o ++ [⟨p, x.d⟩] := by
  have h1 := mvL_step hk hx ho
  rw [hr] at h1
  have h2 : (o ++ [(⟨p, x.d⟩ : E)]).Pairwise fun x y => blt x.p y.p = true := by
    rw [← h1]
    exact mvL_asc (ha.sublist (List.take_sublist _ _))
  exact putK_end _ _ (fun y hy => (List.pairwise_append.1 h2).2.2 y hy _ List.mem_cons_self)
theorem validB_asc {l : List E} (h : validB l = true) : l.Pairwise fun x y => blt x.p y.p = true := (okAll_factsM _ _ _ l h).2.2
theorem mvL_valid {f t : ByteArray} {l : List E} (h : validB l = true) (he : ∀ x ∈ l, E32 x) : validB (mvL f t l) = true := by
  obtain ⟨hg, hlen⟩ := validB_goodM h he
  refine GoodL.valid ⟨mvL_asc hg.asc, mvL_32 he, fun x hx => ?_, fun x hx => ?_⟩ (Nat.le_trans (mvL_len _ _ _) hlen)
  · obtain ⟨e, he, hm⟩ := List.mem_filterMap.1 hx
    exact (rel_inv (mvE_inv hm).1).1
  · obtain ⟨e, he, hm⟩ := List.mem_filterMap.1 hx
    rw [(mvE_inv hm).2]
    exact hg.non e he
theorem mvR_valid {f t : ByteArray} {l : List E} (he : ∀ x ∈ l, E32 x) (h0 : (mvR f t l).2 = 0) : validB (mvR f t l).1 = true := by
  unfold mvR at h0 ⊢
  split at h0
  · rename_i h1
    rw [if_pos h1]
    split at h0
    · rename_i h2
      rw [if_pos h2]
      split at h0
      · rename_i h3
        rw [if_pos h3]
        exact mvL_valid h1 he
      · cases h0
    · cases h0
  · cases h0
theorem mvR_32 {f t : ByteArray} {l : List E} (he : ∀ x ∈ l, E32 x) : (∀ x ∈ (mvR f t l).1, E32 x) ∧ (mvR f t l).1.length ≤ l.length := by
  unfold mvR
  split
  · split
    · split
      · exact ⟨mvL_32 he, mvL_len _ _ _⟩
      · exact ⟨by simp, by simp⟩
    · exact ⟨by simp, by simp⟩
  · exact ⟨by simp, by simp⟩
end Go.Adm
namespace Go.Proofs.YtipepcjiogifaaaDoor
open Go Go.RowKit Go.Adm
set_option maxHeartbeats 12800000 in
theorem Move_any (w : World) (B : Nat) (A : Option Addr) (n c : Nat) (l : List E) (hl : Els w B 33 A n (l.map entC)) (h32 : ∀ e ∈ l, E32 e) (hn : l.length = n) (hn2 : n ≤ 1000000) (f t : ByteArray) (hf : f.size ≤ 140737488355328) (ht : t.size ≤ 140737488355328) (hB : B ≤ w.heap.size) :
    Calls Tryd.prog 9 #[.slice A n c, .string f, .string t] w (ResPost entC 33 (mvR f t l).1 (mvR f t l).2 50 w) := by
  have hR : All w [.low (.els B 33 A n (l.map entC)), .kept w w.heap.size] := ⟨⟨hl, hB⟩, ⟨Below.refl _ _, Nat.le_refl _⟩, trivial⟩
  have hv := Valid_any w B A n c l hl h32 hn hn2 hB
  have hpf := fun W => Path_any f W hf
  have hpt := fun W => Path_any t W ht
  have HRL := Lib.hid (fun (x : E) (hx : E32 x) W => Relocate_any f t x.p W hf ht hx.2)
  have HN := Lib.hid hn
  have H32 := Lib.hid h32
  have hzr := zero_ent
  clear hl h32 hn hf ht
  cases qv : validB l with
  | false =>
    rw [qv] at hv
    have HF : Hid (mvR f t l = ([], 1)) := Lib.hid (by unfold mvR; rw [qv]; rfl)
    go_enter Tryd.func9, Tryd.ntmps9
    go_wp2_with (first
      | (go_at_call 14; refine hv.mono ?_; clear hv; rintro e w1 ⟨rfl, hb1⟩; have hI1 := hR.call hb1))
    go_ret2
    rw [HF.out]
    exact ResPost.nil rfl (hI1.at_ 1 rfl : _ ∧ _).1
  | true =>
    rw [qv] at hv
    cases q1 : (f.toList == []) with
    | false =>
      cases q2 : pathB f with
      | false =>
        rw [q2] at hpf
        have HF : Hid (mvR f t l = ([], 1)) := Lib.hid (by unfold mvR; rw [qv, if_pos rfl, if_neg (by unfold dirB; rw [q1, q2]; decide)])
        go_enter Tryd.func9, Tryd.ntmps9
        go_wp2_with (first
          | (go_at_call 14; refine hv.mono ?_; clear hv; rintro e w1 ⟨rfl, hb1⟩; have hI1 := hR.call hb1)
          | (go_at_call 26; refine (hpf _).mono ?_; clear hpf; rintro e w2 ⟨rfl, hb2⟩; have hI2 := hI1.call hb2))
        go_ret2
        rw [HF.out]
        exact ResPost.nil rfl (hI2.at_ 1 rfl : _ ∧ _).1
      | true =>
        rw [q2] at hpf
        have HDF : Hid (dirB f = true) := Lib.hid (by unfold dirB; rw [q1, q2]; rfl)
        clear q2
        cases r1 : (t.toList == []) with
        | false =>
          cases r2 : pathB t with
          | false =>
            rw [r2] at hpt
            have HF : Hid (mvR f t l = ([], 1)) := Lib.hid (by unfold mvR; rw [qv, if_pos rfl, if_pos (HDF.out), if_neg (by unfold dirB; rw [r1, r2]; decide)])
            go_enter Tryd.func9, Tryd.ntmps9
            go_wp2_with (first
              | (go_at_call 14; refine hv.mono ?_; clear hv; rintro e w1 ⟨rfl, hb1⟩; have hI1 := hR.call hb1)
              | (go_at_call 26; refine (hpf _).mono ?_; clear hpf; rintro e w2 ⟨rfl, hb2⟩; have hI2 := hI1.call hb2)
              | (go_at_call 26; refine (hpt _).mono ?_; clear hpt; rintro e w3 ⟨rfl, hb3⟩; have hI3 := hI2.call hb3))
            go_ret2
            rw [HF.out]
            exact ResPost.nil rfl (hI3.at_ 1 rfl : _ ∧ _).1
          | true =>
            rw [r2] at hpt
            have HGOOD : Hid (mvR f t l = (mvL f t l, 0)) := Lib.hid (by unfold mvR; rw [qv, if_pos rfl, if_pos (HDF.out), if_pos (by unfold dirB; rw [r1, r2]; rfl)])
            clear r2 qv
            go_enter Tryd.func9, Tryd.ntmps9
            go_wp2_with (first
              | (go_at_call 14; refine hv.mono ?_; clear hv; rintro e w1 ⟨rfl, hb1⟩; have hI1 := hR.call hb1)
              | (go_at_call 26; refine (hpf _).mono ?_; clear hpf; rintro e w2 ⟨rfl, hb2⟩; have hI2 := hI1.call hb2)
              | (go_at_call 26; refine (hpt _).mono ?_; clear hpt; rintro e w3 ⟨rfl, hb3⟩; have hI3 := hI2.call hb3))
            have hJ : All _ [.own w.heap.size 50 33 none 0 0 (([] : List E).map entC).flatten, .low (.els B 33 A n (l.map entC)), .kept w w.heap.size] := ⟨Go.Adm.Own.nil _ _ _ _, hI3⟩
            clear hI3
            go_loopw [8, 36] (fun v i wr => ∃ (k : Nat) (A' : Option Addr) (c' : Nat) (o : List E), k ≤ n ∧ i = .int .i64 k ∧ v = .slice A' o.length c' ∧ o.length ≤ k ∧ Hid (o = mvL f t (l.take k)) ∧ All wr [.own w.heap.size 50 33 A' o.length c' (o.map entC).flatten, .low (.els B 33 A n (l.map entC)), .kept w w.heap.size]) (fun _ i _ => n - (intOf i).toNat)
            case atStart => exact ⟨0, none, 0, [], Nat.zero_le _, rfl, rfl, Nat.le_refl _, Lib.hid rfl, hJ⟩
            case round =>
              clear hJ
              obtain ⟨k, A', c', o, hk, rfl, rfl, hok, HO, hI⟩ := hrel
              by_cases hlt : k < n
              · have d1 : decide ((k : Int) < (n : Int)) = true := by simp; omega
                have hkl : k < l.length := by rw [HN.out]; exact hlt
                obtain ⟨ad, rfl, hadB, hc⟩ := Els.elem (hI.at_ 1 rfl : Els wr B 33 A n (l.map entC) ∧ B ≤ wr.heap.size).1 hkl
                have HC := Lib.hid hc
                have hx := Lib.hid (H32.out _ (List.getElem_mem hkl))
                have HST := Lib.hid (mvL_step hkl rfl HO.out)
                clear hc HO
                generalize l[k] = x at *
                have wk1 : (0 : Int) ≤ (k : Int) := by omega
                have wk2 : (k : Int) < (n : Int) := by omega
                go_upto_region 7 with (first
                  | (refine wl_load_any rfl 50 (.tmp 38) rfl (ad.add (k * 33)) rfl (entC x) _ HC.out Tryd.underlying50 rfl (by rw [entC_len hx.out]; kernel_rfl) ?_)
                  | (refine wl_store_at (hI.new (l := entZ) _ 50 rfl rfl) 0 rfl 50 (.tmp 10) (.tmp 39) rfl wr.heap.size _ _ (entC x) rfl rfl rfl (by rw [entC_len hx.out]; rfl) (by rw [entC_len hx.out]; kernel_rfl) (entC_one x) ⟨fun g e => .inr (by injection e with e; subst e; exact Own.ne (hI.at_ 0 rfl)), fun g e => (by have := (hI.at_ 1 rfl : _ ∧ B ≤ wr.heap.size).2; injection e with e; subst e; exact this), fun g e => (by have := (hI.at_ 2 rfl : _ ∧ w.heap.size ≤ wr.heap.size).2; injection e with e; subst e; exact this), trivial⟩ ?_; intro W2 hW2 hs2; clear hs2; simp only [List.set_cons_zero] at hW2))
                obtain ⟨gx, hgx⟩ : ∃ gx, gx = wr.heap.size := ⟨_, rfl⟩
                simp only [← hgx]
                rw [← hgx] at hW2
                clear hgx hI HC
                have c0 : W2.cell? ⟨gx, 0, none⟩ = some (.string x.p) := Cells.cell (hW2.at_ 0 rfl) (i := 0) (by simp [entC])
                have hrl := HRL.out x hx.out W2
                cases hr : relO f t x.p with
                | none =>
                  have HO : Hid (o = mvL f t (l.take (k + 1))) := Lib.hid (by have := HST.out; rw [hr] at this; rw [this]; simp)
                  rw [hr] at hrl
                  clear HST hr
                  go_wp2_with (go_at_call 27; refine hrl.mono ?_; clear hrl; rintro e w5 ⟨rfl, hb5⟩; have hW3 := (hW2.call hb5).2; clear hW2)
                  exact ⟨⟨k + 1, A', c', o, by omega, by go_num, rfl, by omega, HO, hW3⟩, by simp [intOf]; omega⟩
                | some q =>
                  have HO : Hid (o ++ [⟨q, x.d⟩] = mvL f t (l.take (k + 1))) := Lib.hid (by have := HST.out; rw [hr] at this; rw [this])
                  have HY : Hid (E32 (⟨q, x.d⟩ : E)) := Lib.hid (mvE_32 (f := f) (t := t) hx.out (by unfold mvE; rw [hr]; rfl))
                  rw [hr] at hrl
                  clear HST hr
                  go_upto_region 9 with (go_at_call 27; refine hrl.mono ?_; clear hrl; rintro e w5 ⟨rfl, hb5⟩; have hW3 := (hW2.call hb5); clear hW2)
                  have hws : w.heap.size ≤ w5.heap.size := (hW3.at_ 3 rfl : _ ∧ w.heap.size ≤ w5.heap.size).2
                  have hI4 := (All.alloc hW3.2 (.cells (entC (⟨q, x.d⟩ : E)).toArray 50))
                  have hrd4 : Rd (w5.alloc (.cells (entC (⟨q, x.d⟩ : E)).toArray 50)) (w5.heap.size + 1) 33 (some ⟨w5.heap.size, 0, none⟩) 1 (entC (⟨q, x.d⟩ : E)) := Rd.lit (size := 33) w5 (entC (⟨q, x.d⟩ : E)).toArray 50 1 (by rw [List.size_toArray]; exact entC_len HY.out)
                  go_wp2_with (first
                    | (refine wl_load_any rfl 40 (.tmp 51) rfl ⟨gx, 1, none⟩ rfl (x.d.map bv) _ (Cells.sub (hW3.at_ 0 rfl) 1 (ent_sub x)) Tryd.underlying40 rfl (by rw [List.length_map, hx.out.1]; kernel_rfl) ?_)
                    | (refine wl_build rfl 50 [(0, .tmp 50), (1, .tmp 52)] rfl _ _ #[(0, 1), (1, 32)] (entC (⟨q, x.d⟩ : E)).toArray zero_ent Tryd.underlying50 (fun w => by kernel_rfl) ?_ ?_; exact fill_ent q x.d hx.out.1)
                    | (refine wl_lit1 el_ent rfl (.tmp 53) rfl (entC (⟨q, x.d⟩ : E)) rfl (entC_len HY.out) (by decide) ?_)
                    | (at_builtin; refine wl_app_at el_ent hI4 0 rfl (.tmp 49) (.tmp 54) rfl w.heap.size _ _ _ _ rfl rfl (w5.heap.size + 1) _ 1 1 (entC (⟨q, x.d⟩ : E)) rfl hrd4 (entC_one _) (by omega) (by simp; omega) (by intro g hg h; simp [Apart, Res.apart, Low.els] <;> omega) ?_; intro A7 c7 w7 hI7 hs7))
                  simp only [List.set_cons_zero] at hI7
                  refine ⟨⟨k + 1, A7, c7, o ++ [⟨q, x.d⟩], by omega, by go_num, by rw [List.length_append]; rfl, by rw [List.length_append, List.length_singleton]; omega, HO, ?_⟩, by simp [intOf]; omega⟩
                  rw [List.length_append, List.map_append, List.flatten_append]
                  simpa using hI7
              · have d1 : decide ((k : Int) < (n : Int)) = false := by simp; omega
                have HF : Hid (mvR f t l = (o, 0)) := Lib.hid (by rw [HGOOD.out, HO.out, List.take_of_length_le (by rw [HN.out]; omega)])
                clear HO
                go_wp2_with fail
                go_ret2
                rw [HF.out]
                exact ⟨A', c', rfl, hI.at_ 0 rfl, (hI.at_ 2 rfl : _ ∧ _).1⟩
        | true =>
          have HGOOD : Hid (mvR f t l = (mvL f t l, 0)) := Lib.hid (by unfold mvR; rw [qv, if_pos rfl, if_pos (HDF.out), if_pos (by unfold dirB; rw [r1]; rfl)])
          clear qv
          go_enter Tryd.func9, Tryd.ntmps9
          go_wp2_with (first
            | (go_at_call 14; refine hv.mono ?_; clear hv; rintro e w1 ⟨rfl, hb1⟩; have hI1 := hR.call hb1)
            | (go_at_call 26; refine (hpf _).mono ?_; clear hpf; rintro e w2 ⟨rfl, hb2⟩; have hI2 := hI1.call hb2))
          have hJ : All _ [.own w.heap.size 50 33 none 0 0 (([] : List E).map entC).flatten, .low (.els B 33 A n (l.map entC)), .kept w w.heap.size] := ⟨Go.Adm.Own.nil _ _ _ _, hI2⟩
          clear hI2
          go_loopw [8, 36] (fun v i wr => ∃ (k : Nat) (A' : Option Addr) (c' : Nat) (o : List E), k ≤ n ∧ i = .int .i64 k ∧ v = .slice A' o.length c' ∧ o.length ≤ k ∧ Hid (o = mvL f t (l.take k)) ∧ All wr [.own w.heap.size 50 33 A' o.length c' (o.map entC).flatten, .low (.els B 33 A n (l.map entC)), .kept w w.heap.size]) (fun _ i _ => n - (intOf i).toNat)
          case atStart => exact ⟨0, none, 0, [], Nat.zero_le _, rfl, rfl, Nat.le_refl _, Lib.hid rfl, hJ⟩
          case round =>
            clear hJ
            obtain ⟨k, A', c', o, hk, rfl, rfl, hok, HO, hI⟩ := hrel
            by_cases hlt : k < n
            · have d1 : decide ((k : Int) < (n : Int)) = true := by simp; omega
              have hkl : k < l.length := by rw [HN.out]; exact hlt
              obtain ⟨ad, rfl, hadB, hc⟩ := Els.elem (hI.at_ 1 rfl : Els wr B 33 A n (l.map entC) ∧ B ≤ wr.heap.size).1 hkl
              have HC := Lib.hid hc
              have hx := Lib.hid (H32.out _ (List.getElem_mem hkl))
              have HST := Lib.hid (mvL_step hkl rfl HO.out)
              clear hc HO
              generalize l[k] = x at *
              have wk1 : (0 : Int) ≤ (k : Int) := by omega
              have wk2 : (k : Int) < (n : Int) := by omega
              go_upto_region 7 with (first
                | (refine wl_load_any rfl 50 (.tmp 38) rfl (ad.add (k * 33)) rfl (entC x) _ HC.out Tryd.underlying50 rfl (by rw [entC_len hx.out]; kernel_rfl) ?_)
                | (refine wl_store_at (hI.new (l := entZ) _ 50 rfl rfl) 0 rfl 50 (.tmp 10) (.tmp 39) rfl wr.heap.size _ _ (entC x) rfl rfl rfl (by rw [entC_len hx.out]; rfl) (by rw [entC_len hx.out]; kernel_rfl) (entC_one x) ⟨fun g e => .inr (by injection e with e; subst e; exact Own.ne (hI.at_ 0 rfl)), fun g e => (by have := (hI.at_ 1 rfl : _ ∧ B ≤ wr.heap.size).2; injection e with e; subst e; exact this), fun g e => (by have := (hI.at_ 2 rfl : _ ∧ w.heap.size ≤ wr.heap.size).2; injection e with e; subst e; exact this), trivial⟩ ?_; intro W2 hW2 hs2; clear hs2; simp only [List.set_cons_zero] at hW2))
              obtain ⟨gx, hgx⟩ : ∃ gx, gx = wr.heap.size := ⟨_, rfl⟩
              simp only [← hgx]
              rw [← hgx] at hW2
              clear hgx hI HC
              have c0 : W2.cell? ⟨gx, 0, none⟩ = some (.string x.p) := Cells.cell (hW2.at_ 0 rfl) (i := 0) (by simp [entC])
              have hrl := HRL.out x hx.out W2
              cases hr : relO f t x.p with
              | none =>
                have HO : Hid (o = mvL f t (l.take (k + 1))) := Lib.hid (by have := HST.out; rw [hr] at this; rw [this]; simp)
                rw [hr] at hrl
                clear HST hr
                go_wp2_with (go_at_call 27; refine hrl.mono ?_; clear hrl; rintro e w5 ⟨rfl, hb5⟩; have hW3 := (hW2.call hb5).2; clear hW2)
                exact ⟨⟨k + 1, A', c', o, by omega, by go_num, rfl, by omega, HO, hW3⟩, by simp [intOf]; omega⟩
              | some q =>
                have HO : Hid (o ++ [⟨q, x.d⟩] = mvL f t (l.take (k + 1))) := Lib.hid (by have := HST.out; rw [hr] at this; rw [this])
                have HY : Hid (E32 (⟨q, x.d⟩ : E)) := Lib.hid (mvE_32 (f := f) (t := t) hx.out (by unfold mvE; rw [hr]; rfl))
                rw [hr] at hrl
                clear HST hr
                go_upto_region 9 with (go_at_call 27; refine hrl.mono ?_; clear hrl; rintro e w5 ⟨rfl, hb5⟩; have hW3 := (hW2.call hb5); clear hW2)
                have hws : w.heap.size ≤ w5.heap.size := (hW3.at_ 3 rfl : _ ∧ w.heap.size ≤ w5.heap.size).2
                have hI4 := (All.alloc hW3.2 (.cells (entC (⟨q, x.d⟩ : E)).toArray 50))
                have hrd4 : Rd (w5.alloc (.cells (entC (⟨q, x.d⟩ : E)).toArray 50)) (w5.heap.size + 1) 33 (some ⟨w5.heap.size, 0, none⟩) 1 (entC (⟨q, x.d⟩ : E)) := Rd.lit (size := 33) w5 (entC (⟨q, x.d⟩ : E)).toArray 50 1 (by rw [List.size_toArray]; exact entC_len HY.out)
                go_wp2_with (first
                  | (refine wl_load_any rfl 40 (.tmp 51) rfl ⟨gx, 1, none⟩ rfl (x.d.map bv) _ (Cells.sub (hW3.at_ 0 rfl) 1 (ent_sub x)) Tryd.underlying40 rfl (by rw [List.length_map, hx.out.1]; kernel_rfl) ?_)
                  | (refine wl_build rfl 50 [(0, .tmp 50), (1, .tmp 52)] rfl _ _ #[(0, 1), (1, 32)] (entC (⟨q, x.d⟩ : E)).toArray zero_ent Tryd.underlying50 (fun w => by kernel_rfl) ?_ ?_; exact fill_ent q x.d hx.out.1)
                  | (refine wl_lit1 el_ent rfl (.tmp 53) rfl (entC (⟨q, x.d⟩ : E)) rfl (entC_len HY.out) (by decide) ?_)
                  | (at_builtin; refine wl_app_at el_ent hI4 0 rfl (.tmp 49) (.tmp 54) rfl w.heap.size _ _ _ _ rfl rfl (w5.heap.size + 1) _ 1 1 (entC (⟨q, x.d⟩ : E)) rfl hrd4 (entC_one _) (by omega) (by simp; omega) (by intro g hg h; simp [Apart, Res.apart, Low.els] <;> omega) ?_; intro A7 c7 w7 hI7 hs7))
                simp only [List.set_cons_zero] at hI7
                refine ⟨⟨k + 1, A7, c7, o ++ [⟨q, x.d⟩], by omega, by go_num, by rw [List.length_append]; rfl, by rw [List.length_append, List.length_singleton]; omega, HO, ?_⟩, by simp [intOf]; omega⟩
                rw [List.length_append, List.map_append, List.flatten_append]
                simpa using hI7
            · have d1 : decide ((k : Int) < (n : Int)) = false := by simp; omega
              have HF : Hid (mvR f t l = (o, 0)) := Lib.hid (by rw [HGOOD.out, HO.out, List.take_of_length_le (by rw [HN.out]; omega)])
              clear HO
              go_wp2_with fail
              go_ret2
              rw [HF.out]
              exact ⟨A', c', rfl, hI.at_ 0 rfl, (hI.at_ 2 rfl : _ ∧ _).1⟩
    | true =>
      have HDF : Hid (dirB f = true) := Lib.hid (by unfold dirB; rw [q1]; rfl)
      clear hpf
      cases r1 : (t.toList == []) with
      | false =>
        cases r2 : pathB t with
        | false =>
          rw [r2] at hpt
          have HF : Hid (mvR f t l = ([], 1)) := Lib.hid (by unfold mvR; rw [qv, if_pos rfl, if_pos (HDF.out), if_neg (by unfold dirB; rw [r1, r2]; decide)])
          go_enter Tryd.func9, Tryd.ntmps9
          go_wp2_with (first
            | (go_at_call 14; refine hv.mono ?_; clear hv; rintro e w1 ⟨rfl, hb1⟩; have hI1 := hR.call hb1)
            | (go_at_call 26; refine (hpt _).mono ?_; clear hpt; rintro e w3 ⟨rfl, hb3⟩; have hI3 := hI1.call hb3))
          go_ret2
          rw [HF.out]
          exact ResPost.nil rfl (hI3.at_ 1 rfl : _ ∧ _).1
        | true =>
          rw [r2] at hpt
          have HGOOD : Hid (mvR f t l = (mvL f t l, 0)) := Lib.hid (by unfold mvR; rw [qv, if_pos rfl, if_pos (HDF.out), if_pos (by unfold dirB; rw [r1, r2]; rfl)])
          clear r2 qv
          go_enter Tryd.func9, Tryd.ntmps9
          go_wp2_with (first
            | (go_at_call 14; refine hv.mono ?_; clear hv; rintro e w1 ⟨rfl, hb1⟩; have hI1 := hR.call hb1)
            | (go_at_call 26; refine (hpt _).mono ?_; clear hpt; rintro e w3 ⟨rfl, hb3⟩; have hI3 := hI1.call hb3))
          have hJ : All _ [.own w.heap.size 50 33 none 0 0 (([] : List E).map entC).flatten, .low (.els B 33 A n (l.map entC)), .kept w w.heap.size] := ⟨Go.Adm.Own.nil _ _ _ _, hI3⟩
          clear hI3
          go_loopw [8, 36] (fun v i wr => ∃ (k : Nat) (A' : Option Addr) (c' : Nat) (o : List E), k ≤ n ∧ i = .int .i64 k ∧ v = .slice A' o.length c' ∧ o.length ≤ k ∧ Hid (o = mvL f t (l.take k)) ∧ All wr [.own w.heap.size 50 33 A' o.length c' (o.map entC).flatten, .low (.els B 33 A n (l.map entC)), .kept w w.heap.size]) (fun _ i _ => n - (intOf i).toNat)
          case atStart => exact ⟨0, none, 0, [], Nat.zero_le _, rfl, rfl, Nat.le_refl _, Lib.hid rfl, hJ⟩
          case round =>
            clear hJ
            obtain ⟨k, A', c', o, hk, rfl, rfl, hok, HO, hI⟩ := hrel
            by_cases hlt : k < n
            · have d1 : decide ((k : Int) < (n : Int)) = true := by simp; omega
              have hkl : k < l.length := by rw [HN.out]; exact hlt
              obtain ⟨ad, rfl, hadB, hc⟩ := Els.elem (hI.at_ 1 rfl : Els wr B 33 A n (l.map entC) ∧ B ≤ wr.heap.size).1 hkl
              have HC := Lib.hid hc
              have hx := Lib.hid (H32.out _ (List.getElem_mem hkl))
              have HST := Lib.hid (mvL_step hkl rfl HO.out)
              clear hc HO
              generalize l[k] = x at *
              have wk1 : (0 : Int) ≤ (k : Int) := by omega
              have wk2 : (k : Int) < (n : Int) := by omega
              go_upto_region 7 with (first
                | (refine wl_load_any rfl 50 (.tmp 38) rfl (ad.add (k * 33)) rfl (entC x) _ HC.out Tryd.underlying50 rfl (by rw [entC_len hx.out]; kernel_rfl) ?_)
                | (refine wl_store_at (hI.new (l := entZ) _ 50 rfl rfl) 0 rfl 50 (.tmp 10) (.tmp 39) rfl wr.heap.size _ _ (entC x) rfl rfl rfl (by rw [entC_len hx.out]; rfl) (by rw [entC_len hx.out]; kernel_rfl) (entC_one x) ⟨fun g e => .inr (by injection e with e; subst e; exact Own.ne (hI.at_ 0 rfl)), fun g e => (by have := (hI.at_ 1 rfl : _ ∧ B ≤ wr.heap.size).2; injection e with e; subst e; exact this), fun g e => (by have := (hI.at_ 2 rfl : _ ∧ w.heap.size ≤ wr.heap.size).2; injection e with e; subst e; exact this), trivial⟩ ?_; intro W2 hW2 hs2; clear hs2; simp only [List.set_cons_zero] at hW2))
              obtain ⟨gx, hgx⟩ : ∃ gx, gx = wr.heap.size := ⟨_, rfl⟩
              simp only [← hgx]
              rw [← hgx] at hW2
              clear hgx hI HC
              have c0 : W2.cell? ⟨gx, 0, none⟩ = some (.string x.p) := Cells.cell (hW2.at_ 0 rfl) (i := 0) (by simp [entC])
              have hrl := HRL.out x hx.out W2
              cases hr : relO f t x.p with
              | none =>
                have HO : Hid (o = mvL f t (l.take (k + 1))) := Lib.hid (by have := HST.out; rw [hr] at this; rw [this]; simp)
                rw [hr] at hrl
                clear HST hr
                go_wp2_with (go_at_call 27; refine hrl.mono ?_; clear hrl; rintro e w5 ⟨rfl, hb5⟩; have hW3 := (hW2.call hb5).2; clear hW2)
                exact ⟨⟨k + 1, A', c', o, by omega, by go_num, rfl, by omega, HO, hW3⟩, by simp [intOf]; omega⟩
              | some q =>
                have HO : Hid (o ++ [⟨q, x.d⟩] = mvL f t (l.take (k + 1))) := Lib.hid (by have := HST.out; rw [hr] at this; rw [this])
                have HY : Hid (E32 (⟨q, x.d⟩ : E)) := Lib.hid (mvE_32 (f := f) (t := t) hx.out (by unfold mvE; rw [hr]; rfl))
                rw [hr] at hrl
                clear HST hr
                go_upto_region 9 with (go_at_call 27; refine hrl.mono ?_; clear hrl; rintro e w5 ⟨rfl, hb5⟩; have hW3 := (hW2.call hb5); clear hW2)
                have hws : w.heap.size ≤ w5.heap.size := (hW3.at_ 3 rfl : _ ∧ w.heap.size ≤ w5.heap.size).2
                have hI4 := (All.alloc hW3.2 (.cells (entC (⟨q, x.d⟩ : E)).toArray 50))
                have hrd4 : Rd (w5.alloc (.cells (entC (⟨q, x.d⟩ : E)).toArray 50)) (w5.heap.size + 1) 33 (some ⟨w5.heap.size, 0, none⟩) 1 (entC (⟨q, x.d⟩ : E)) := Rd.lit (size := 33) w5 (entC (⟨q, x.d⟩ : E)).toArray 50 1 (by rw [List.size_toArray]; exact entC_len HY.out)
                go_wp2_with (first
                  | (refine wl_load_any rfl 40 (.tmp 51) rfl ⟨gx, 1, none⟩ rfl (x.d.map bv) _ (Cells.sub (hW3.at_ 0 rfl) 1 (ent_sub x)) Tryd.underlying40 rfl (by rw [List.length_map, hx.out.1]; kernel_rfl) ?_)
                  | (refine wl_build rfl 50 [(0, .tmp 50), (1, .tmp 52)] rfl _ _ #[(0, 1), (1, 32)] (entC (⟨q, x.d⟩ : E)).toArray zero_ent Tryd.underlying50 (fun w => by kernel_rfl) ?_ ?_; exact fill_ent q x.d hx.out.1)
                  | (refine wl_lit1 el_ent rfl (.tmp 53) rfl (entC (⟨q, x.d⟩ : E)) rfl (entC_len HY.out) (by decide) ?_)
                  | (at_builtin; refine wl_app_at el_ent hI4 0 rfl (.tmp 49) (.tmp 54) rfl w.heap.size _ _ _ _ rfl rfl (w5.heap.size + 1) _ 1 1 (entC (⟨q, x.d⟩ : E)) rfl hrd4 (entC_one _) (by omega) (by simp; omega) (by intro g hg h; simp [Apart, Res.apart, Low.els] <;> omega) ?_; intro A7 c7 w7 hI7 hs7))
                simp only [List.set_cons_zero] at hI7
                refine ⟨⟨k + 1, A7, c7, o ++ [⟨q, x.d⟩], by omega, by go_num, by rw [List.length_append]; rfl, by rw [List.length_append, List.length_singleton]; omega, HO, ?_⟩, by simp [intOf]; omega⟩
                rw [List.length_append, List.map_append, List.flatten_append]
                simpa using hI7
            · have d1 : decide ((k : Int) < (n : Int)) = false := by simp; omega
              have HF : Hid (mvR f t l = (o, 0)) := Lib.hid (by rw [HGOOD.out, HO.out, List.take_of_length_le (by rw [HN.out]; omega)])
              clear HO
              go_wp2_with fail
              go_ret2
              rw [HF.out]
              exact ⟨A', c', rfl, hI.at_ 0 rfl, (hI.at_ 2 rfl : _ ∧ _).1⟩
      | true =>
        have HGOOD : Hid (mvR f t l = (mvL f t l, 0)) := Lib.hid (by unfold mvR; rw [qv, if_pos rfl, if_pos (HDF.out), if_pos (by unfold dirB; rw [r1]; rfl)])
        clear qv
        go_enter Tryd.func9, Tryd.ntmps9
        go_wp2_with (first
          | (go_at_call 14; refine hv.mono ?_; clear hv; rintro e w1 ⟨rfl, hb1⟩; have hI1 := hR.call hb1))
        have hJ : All _ [.own w.heap.size 50 33 none 0 0 (([] : List E).map entC).flatten, .low (.els B 33 A n (l.map entC)), .kept w w.heap.size] := ⟨Go.Adm.Own.nil _ _ _ _, hI1⟩
        clear hI1
        go_loopw [8, 36] (fun v i wr => ∃ (k : Nat) (A' : Option Addr) (c' : Nat) (o : List E), k ≤ n ∧ i = .int .i64 k ∧ v = .slice A' o.length c' ∧ o.length ≤ k ∧ Hid (o = mvL f t (l.take k)) ∧ All wr [.own w.heap.size 50 33 A' o.length c' (o.map entC).flatten, .low (.els B 33 A n (l.map entC)), .kept w w.heap.size]) (fun _ i _ => n - (intOf i).toNat)
        case atStart => exact ⟨0, none, 0, [], Nat.zero_le _, rfl, rfl, Nat.le_refl _, Lib.hid rfl, hJ⟩
        case round =>
          clear hJ
          obtain ⟨k, A', c', o, hk, rfl, rfl, hok, HO, hI⟩ := hrel
          by_cases hlt : k < n
          · have d1 : decide ((k : Int) < (n : Int)) = true := by simp; omega
            have hkl : k < l.length := by rw [HN.out]; exact hlt
            obtain ⟨ad, rfl, hadB, hc⟩ := Els.elem (hI.at_ 1 rfl : Els wr B 33 A n (l.map entC) ∧ B ≤ wr.heap.size).1 hkl
            have HC := Lib.hid hc
            have hx := Lib.hid (H32.out _ (List.getElem_mem hkl))
            have HST := Lib.hid (mvL_step hkl rfl HO.out)
            clear hc HO
            generalize l[k] = x at *
            have wk1 : (0 : Int) ≤ (k : Int) := by omega
            have wk2 : (k : Int) < (n : Int) := by omega
            go_upto_region 7 with (first
              | (refine wl_load_any rfl 50 (.tmp 38) rfl (ad.add (k * 33)) rfl (entC x) _ HC.out Tryd.underlying50 rfl (by rw [entC_len hx.out]; kernel_rfl) ?_)
              | (refine wl_store_at (hI.new (l := entZ) _ 50 rfl rfl) 0 rfl 50 (.tmp 10) (.tmp 39) rfl wr.heap.size _ _ (entC x) rfl rfl rfl (by rw [entC_len hx.out]; rfl) (by rw [entC_len hx.out]; kernel_rfl) (entC_one x) ⟨fun g e => .inr (by injection e with e; subst e; exact Own.ne (hI.at_ 0 rfl)), fun g e => (by have := (hI.at_ 1 rfl : _ ∧ B ≤ wr.heap.size).2; injection e with e; subst e; exact this), fun g e => (by have := (hI.at_ 2 rfl : _ ∧ w.heap.size ≤ wr.heap.size).2; injection e with e; subst e; exact this), trivial⟩ ?_; intro W2 hW2 hs2; clear hs2; simp only [List.set_cons_zero] at hW2))
            obtain ⟨gx, hgx⟩ : ∃ gx, gx = wr.heap.size := ⟨_, rfl⟩
            simp only [← hgx]
            rw [← hgx] at hW2
            clear hgx hI HC
            have c0 : W2.cell? ⟨gx, 0, none⟩ = some (.string x.p) := Cells.cell (hW2.at_ 0 rfl) (i := 0) (by simp [entC])
            have hrl := HRL.out x hx.out W2
            cases hr : relO f t x.p with
            | none =>
              have HO : Hid (o = mvL f t (l.take (k + 1))) := Lib.hid (by have := HST.out; rw [hr] at this; rw [this]; simp)
              rw [hr] at hrl
              clear HST hr
              go_wp2_with (go_at_call 27; refine hrl.mono ?_; clear hrl; rintro e w5 ⟨rfl, hb5⟩; have hW3 := (hW2.call hb5).2; clear hW2)
              exact ⟨⟨k + 1, A', c', o, by omega, by go_num, rfl, by omega, HO, hW3⟩, by simp [intOf]; omega⟩
            | some q =>
              have HO : Hid (o ++ [⟨q, x.d⟩] = mvL f t (l.take (k + 1))) := Lib.hid (by have := HST.out; rw [hr] at this; rw [this])
              have HY : Hid (E32 (⟨q, x.d⟩ : E)) := Lib.hid (mvE_32 (f := f) (t := t) hx.out (by unfold mvE; rw [hr]; rfl))
              rw [hr] at hrl
              clear HST hr
              go_upto_region 9 with (go_at_call 27; refine hrl.mono ?_; clear hrl; rintro e w5 ⟨rfl, hb5⟩; have hW3 := (hW2.call hb5); clear hW2)
              have hws : w.heap.size ≤ w5.heap.size := (hW3.at_ 3 rfl : _ ∧ w.heap.size ≤ w5.heap.size).2
              have hI4 := (All.alloc hW3.2 (.cells (entC (⟨q, x.d⟩ : E)).toArray 50))
              have hrd4 : Rd (w5.alloc (.cells (entC (⟨q, x.d⟩ : E)).toArray 50)) (w5.heap.size + 1) 33 (some ⟨w5.heap.size, 0, none⟩) 1 (entC (⟨q, x.d⟩ : E)) := Rd.lit (size := 33) w5 (entC (⟨q, x.d⟩ : E)).toArray 50 1 (by rw [List.size_toArray]; exact entC_len HY.out)
              go_wp2_with (first
                | (refine wl_load_any rfl 40 (.tmp 51) rfl ⟨gx, 1, none⟩ rfl (x.d.map bv) _ (Cells.sub (hW3.at_ 0 rfl) 1 (ent_sub x)) Tryd.underlying40 rfl (by rw [List.length_map, hx.out.1]; kernel_rfl) ?_)
                | (refine wl_build rfl 50 [(0, .tmp 50), (1, .tmp 52)] rfl _ _ #[(0, 1), (1, 32)] (entC (⟨q, x.d⟩ : E)).toArray zero_ent Tryd.underlying50 (fun w => by kernel_rfl) ?_ ?_; exact fill_ent q x.d hx.out.1)
                | (refine wl_lit1 el_ent rfl (.tmp 53) rfl (entC (⟨q, x.d⟩ : E)) rfl (entC_len HY.out) (by decide) ?_)
                | (at_builtin; refine wl_app_at el_ent hI4 0 rfl (.tmp 49) (.tmp 54) rfl w.heap.size _ _ _ _ rfl rfl (w5.heap.size + 1) _ 1 1 (entC (⟨q, x.d⟩ : E)) rfl hrd4 (entC_one _) (by omega) (by simp; omega) (by intro g hg h; simp [Apart, Res.apart, Low.els] <;> omega) ?_; intro A7 c7 w7 hI7 hs7))
              simp only [List.set_cons_zero] at hI7
              refine ⟨⟨k + 1, A7, c7, o ++ [⟨q, x.d⟩], by omega, by go_num, by rw [List.length_append]; rfl, by rw [List.length_append, List.length_singleton]; omega, HO, ?_⟩, by simp [intOf]; omega⟩
              rw [List.length_append, List.map_append, List.flatten_append]
              simpa using hI7
          · have d1 : decide ((k : Int) < (n : Int)) = false := by simp; omega
            have HF : Hid (mvR f t l = (o, 0)) := Lib.hid (by rw [HGOOD.out, HO.out, List.take_of_length_le (by rw [HN.out]; omega)])
            clear HO
            go_wp2_with fail
            go_ret2
            rw [HF.out]
            exact ⟨A', c', rfl, hI.at_ 0 rfl, (hI.at_ 2 rfl : _ ∧ _).1⟩
set_option maxHeartbeats 12800000 in
theorem refMove_any (w : World) (m : Int) (hm : w.cell? ⟨0, 0, none⟩ = some (.int .i64 m)) (B : Nat) (A : Option Addr) (n c : Nat) (l : List E) (hl : Els w B 33 A n (l.map entC)) (h32 : ∀ e ∈ l, E32 e) (hn : l.length = n) (hn2 : n ≤ 1000000) (f t : ByteArray) (hB : B ≤ w.heap.size) :
    Calls Tryd.prog 10 #[.slice A n c, .string f, .string t] w (ResPost entC 33 (mvR f t l).1 (mvR f t l).2 50 w) := by
  have hR : All w [.low (.els B 33 A n (l.map entC)), .kept w w.heap.size] := ⟨⟨hl, hB⟩, ⟨Below.refl _ _, Nat.le_refl _⟩, trivial⟩
  have hgm : 0 < w.heap.size := World.block_lt_of_cell? w _ hm
  have HM := fun W (h : All W [.low (.els B 33 A n (l.map entC)), .kept w w.heap.size]) => (((h.at_ 1 rfl : _ ∧ _).1).cell hgm).trans hm
  have hv := refValid_any w m hm B A n c l hl h32 hn hn2 hB
  have hpf := fun W h => Directory_any f W m (HM W h)
  have hpt := fun W h => Directory_any t W m (HM W h)
  have HRL := Lib.hid (fun (x : E) W h => refRelocate_any f t x.p W m (HM W h))
  have HN := Lib.hid hn
  have H32 := Lib.hid h32
  clear hl h32 hn HM hm hgm
  cases qv : validB l with
  | false =>
    have HF : Hid (mvR f t l = ([], 1)) := Lib.hid (by unfold mvR; rw [qv]; rfl)
    rw [qv] at hv
    go_enter Tryd.func10, Tryd.ntmps10
    go_wp2_with (go_at_call 20; refine hv.mono ?_; clear hv; rintro e w1 ⟨rfl, hb1⟩; have hI1 := hR.call hb1)
    go_ret2
    rw [HF.out]
    exact ResPost.nil rfl (hI1.at_ 1 rfl : _ ∧ _).1
  | true =>
    rw [qv] at hv
    cases q1 : dirB f with
    | false =>
      have HF : Hid (mvR f t l = ([], 1)) := Lib.hid (by unfold mvR; rw [qv, q1]; rfl)
      rw [q1] at hpf
      go_enter Tryd.func10, Tryd.ntmps10
      go_wp2_with (first
        | (go_at_call 20; refine hv.mono ?_; clear hv; rintro e w1 ⟨rfl, hb1⟩; have hI1 := hR.call hb1)
        | (go_at_call 28; refine (hpf _ hI1).mono ?_; clear hpf; rintro e w2 ⟨rfl, hb2⟩; have hI2 := hI1.call hb2))
      go_ret2
      rw [HF.out]
      exact ResPost.nil rfl (hI2.at_ 1 rfl : _ ∧ _).1
    | true =>
      rw [q1] at hpf
      cases q2 : dirB t with
      | false =>
        have HF : Hid (mvR f t l = ([], 1)) := Lib.hid (by unfold mvR; rw [qv, q1, q2]; rfl)
        rw [q2] at hpt
        go_enter Tryd.func10, Tryd.ntmps10
        go_wp2_with (first
          | (go_at_call 20; refine hv.mono ?_; clear hv; rintro e w1 ⟨rfl, hb1⟩; have hI1 := hR.call hb1)
          | (go_at_call 28; refine (hpf _ hI1).mono ?_; clear hpf; rintro e w2 ⟨rfl, hb2⟩; have hI2 := hI1.call hb2)
          | (go_at_call 28; refine (hpt _ hI2).mono ?_; clear hpt; rintro e w3 ⟨rfl, hb3⟩; have hI3 := hI2.call hb3))
        go_ret2
        rw [HF.out]
        exact ResPost.nil rfl (hI3.at_ 1 rfl : _ ∧ _).1
      | true =>
        rw [q2] at hpt
        have HGOOD : Hid (mvR f t l = (mvL f t l, 0)) := Lib.hid (by unfold mvR; rw [qv, q1, q2]; rfl)
        have HASC := Lib.hid (validB_asc qv)
        clear q1 q2 qv
        go_enter Tryd.func10, Tryd.ntmps10
        go_wp2_with (first
          | (go_at_call 20; refine hv.mono ?_; clear hv; rintro e w1 ⟨rfl, hb1⟩; have hI1 := hR.call hb1)
          | (go_at_call 28; refine (hpf _ hI1).mono ?_; clear hpf; rintro e w2 ⟨rfl, hb2⟩; have hI2 := hI1.call hb2)
          | (go_at_call 28; refine (hpt _ hI2).mono ?_; clear hpt; rintro e w3 ⟨rfl, hb3⟩; have hI3 := hI2.call hb3))
        have hJ : All _ [.own w.heap.size 50 33 none 0 0 (([] : List E).map entC).flatten, .low (.els B 33 A n (l.map entC)), .kept w w.heap.size] := ⟨Go.Adm.Own.nil _ _ _ _, hI3⟩
        clear hI3 hI2 hI1 hR
        go_loopw [8, 9] (fun v i wr => ∃ (k : Nat) (A' : Option Addr) (c' : Nat) (o : List E), k ≤ n ∧ i = .int .i64 k ∧ v = .slice A' o.length c' ∧ o.length ≤ k ∧ Hid (o = mvL f t (l.take k)) ∧ All wr [.own w.heap.size 50 33 A' o.length c' (o.map entC).flatten, .low (.els B 33 A n (l.map entC)), .kept w w.heap.size]) (fun _ i _ => n - (intOf i).toNat)
        case atStart => exact ⟨0, none, 0, [], Nat.zero_le _, rfl, rfl, Nat.le_refl _, Lib.hid rfl, hJ⟩
        case round =>
          clear hJ
          obtain ⟨k, A', c', o, hk, rfl, rfl, hok, HO, hI⟩ := hrel
          by_cases hlt : k < n
          · have d1 : decide ((k : Int) < (n : Int)) = true := by simp; omega
            have hkl : k < l.length := by rw [HN.out]; exact hlt
            obtain ⟨ad, rfl, hadB, hc⟩ := Els.elem (hI.at_ 1 rfl : Els wr B 33 A n (l.map entC) ∧ B ≤ wr.heap.size).1 hkl
            have HC : Hid (∀ W, All W [.low (.els B 33 (some ad) n (l.map entC)), .kept w w.heap.size] → ∀ j u, (entC l[k])[j]? = some u → W.cell? ((ad.add (k * 33)).add j) = some u) := Lib.hid (fun W hW => by
              obtain ⟨a', e, -, hc⟩ := Els.elem (hW.at_ 0 rfl : Els W B 33 (some ad) n (l.map entC) ∧ B ≤ W.heap.size).1 hkl
              obtain rfl := Option.some.inj e
              exact hc)
            have hx := Lib.hid (H32.out _ (List.getElem_mem hkl))
            have HST := Lib.hid (mvL_step hkl rfl HO.out)
            have HPM := Lib.hid (fun q (h : relO f t l[k].p = some q) => put_move hkl rfl HO.out HASC.out h)
            have HO32 : Hid (∀ e ∈ o, E32 e) := Lib.hid (by rw [HO.out]; exact mvL_32 (fun e he => H32.out e (List.mem_of_mem_take he)))
            clear HO
            generalize l[k] = x at *
            have wk1 : (0 : Int) ≤ (k : Int) := by omega
            have wk2 : (k : Int) < (n : Int) := by omega
            have c0 : wr.cell? (ad.add (k * 33)) = some (.string x.p) := by have := hc 0 (sv x.p) rfl; rwa [add_zero] at this
            clear hc
            have hrl := HRL.out x wr hI.2
            cases hr : relO f t x.p with
            | none =>
              have HO : Hid (o = mvL f t (l.take (k + 1))) := Lib.hid (by have := HST.out; rw [hr] at this; rw [this]; simp)
              rw [hr] at hrl
              clear HST hr HPM
              go_wp2_with (go_at_call 29; refine hrl.mono ?_; clear hrl; rintro e w5 ⟨rfl, hb5⟩; have hW3 := hI.call hb5; clear hI)
              exact ⟨⟨k + 1, A', c', o, by omega, by go_num, rfl, by omega, HO, hW3⟩, by simp [intOf]; omega⟩
            | some q =>
              have HO : Hid (o ++ [⟨q, x.d⟩] = mvL f t (l.take (k + 1))) := Lib.hid (by have := HST.out; rw [hr] at this; rw [this])
              have HY : Hid (E32 (⟨q, x.d⟩ : E)) := Lib.hid (mvE_32 (f := f) (t := t) hx.out (by unfold mvE; rw [hr]; rfl))
              have HPK := Lib.hid (HPM.out q hr)
              rw [hr] at hrl
              clear HST hr HPM
              go_upto_region 9 with (go_at_call 29; refine hrl.mono ?_; clear hrl; rintro e w5 ⟨rfl, hb5⟩; have hW5 := hI.call hb5; clear hI)
              have hc5 := HC.out w5 hW5.2
              have hown := (hW5.at_ 0 rfl : Go.Adm.Own w5 w.heap.size 50 33 A' o.length c' (o.map entC).flatten)
              have hin := insert_any w5 w5.heap.size A' o.length c' o ⟨q, x.d⟩ (Els.of hown (fun y hy => by obtain ⟨v, hv, rfl⟩ := List.mem_map.1 hy; exact entC_len (HO32.out v hv)) (by rw [List.length_map])) HO32.out HY.out rfl (by omega) hown.cap.1 (Nat.le_refl _)
              rw [HPK.out] at hin
              have hk5 := (hW5.at_ 2 rfl : _ ∧ w.heap.size ≤ w5.heap.size).2
              have hl5 : Hid ((o ++ [(⟨q, x.d⟩ : E)]).length ≤ k + 1) := Lib.hid (by rw [List.length_append, List.length_singleton]; omega)
              clear HC hown HPK HO32
              generalize (o ++ [(⟨q, x.d⟩ : E)]) = o2 at *
              go_wp2_with (first
                | (refine wl_load_any rfl 40 (.tmp 48) rfl ((ad.add (k * 33)).add 1) rfl (x.d.map bv) _ (fun q s hs => by rw [add_add]; exact hc5 _ s (ent_sub x q s hs)) Tryd.underlying40 rfl (by rw [List.length_map, hx.out.1]; kernel_rfl) ?_)
                | (refine wl_build rfl 50 [(0, .tmp 44), (1, .tmp 49)] rfl _ _ #[(0, 1), (1, 32)] (entC (⟨q, x.d⟩ : E)).toArray zero_ent Tryd.underlying50 (fun w => by kernel_rfl) ?_ ?_; exact fill_ent q x.d hx.out.1)
                | (go_at_call 30; refine hin.mono ?_; clear hin; rintro e w6 ⟨A6, c6, rfl, hO6, hb6⟩; have hW6 := hW5.call hb6; clear hc5))
              have hW7 : All w6 [.own w.heap.size 50 33 A6 o2.length c6 (o2.map entC).flatten, .low (.els B 33 (some ad) n (l.map entC)), .kept w w.heap.size] := ⟨hO6.less hk5, hW6.2⟩
              exact ⟨⟨k + 1, A6, c6, o2, by omega, by go_num, rfl, hl5.out, HO, hW7⟩, by simp [intOf]; omega⟩
          · have d1 : decide ((k : Int) < (n : Int)) = false := by simp; omega
            have HF : Hid (mvR f t l = (o, 0)) := Lib.hid (by rw [HGOOD.out, HO.out, List.take_of_length_le (by rw [HN.out]; omega)])
            clear HO
            go_wp2_with fail
            go_ret2
            rw [HF.out]
            exact ⟨A', c', rfl, hI.at_ 0 rfl, (hI.at_ 2 rfl : _ ∧ _).1⟩
end Go.Proofs.YtipepcjiogifaaaDoor
