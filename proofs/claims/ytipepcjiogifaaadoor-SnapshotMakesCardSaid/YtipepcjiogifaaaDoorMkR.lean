/- The snapshot of any list: the reference's Make. -/
import Derived.Test.YtipepcjiogifaaaDoorMkM
set_option linter.unusedSimpArgs false
set_option linter.unusedVariables false
set_option maxRecDepth 100000
namespace Go.Proofs.YtipepcjiogifaaaDoor
open Go Go.RowKit Go.Adm
set_option maxHeartbeats 6400000 in
theorem rMake_any (w : World) (m : Int) (hm : w.cell? ⟨0, 0, none⟩ = some (.int .i64 m)) (B : Nat) (A : Option Addr) (n c : Nat) (l : List E) (hl : Els w B 33 A n (l.map entC)) (h32 : ∀ e ∈ l, E32 e) (hn : l.length = n) (hn2 : n ≤ 1000000) (hB : B ≤ w.heap.size) :
    Calls Tryd.prog 17 #[.slice A n c] w (ResPost entC 33 (mkR l).1 (mkR l).2 50 w) := by
  have hR : All w [.low (.els B 33 A n (l.map entC)), .kept w w.heap.size] := ⟨⟨hl, hB⟩, ⟨Below.refl _ _, Nat.le_refl _⟩, trivial⟩
  have HN := Lib.hid hn
  have H32 := Lib.hid h32
  have HM := Lib.hid hm
  clear hl h32 hn hm
  by_cases q1 : 64 < n
  · have d1 : decide ((64 : Int) < (n : Int)) = true := by simp; omega
    have HF : Hid (mkR l = ([], 3)) := Lib.hid (mkR_long (by rw [HN.out]; exact q1))
    go_enter Tryd.func17, Tryd.ntmps17
    go_wp2_with fail
    go_ret2
    rw [HF.out]
    exact ResPost.nil rfl (Below.refl _ _)
  · have d1 : decide ((64 : Int) < (n : Int)) = false := by simp; omega
    have HQ : Hid (¬ 64 < l.length) := Lib.hid (by rw [HN.out]; exact q1)
    go_enter Tryd.func17, Tryd.ntmps17
    go_wp2_with fail
    go_loopw [4] (fun i wr => ∃ k : Nat, k ≤ n ∧ i = .int .i64 k ∧ Hid (∀ j (hj : j < l.length), j < k → goodE l[j] = true) ∧ All wr [.low (.els B 33 A n (l.map entC)), .kept w w.heap.size]) (fun i _ => n - (intOf i).toNat)
    case atStart => exact ⟨0, Nat.zero_le _, rfl, Lib.hid (fun _ _ h => absurd h (by omega)), hR⟩
    case round =>
      clear hR
      obtain ⟨k, hk, rfl, HA, hI⟩ := hrel
      by_cases hlt : k < n
      · have d2 : decide ((k : Int) < (n : Int)) = true := by simp; omega
        have hkl : k < l.length := by rw [HN.out]; exact hlt
        obtain ⟨ad, rfl, hadB, hc⟩ := Els.elem (hI.at_ 0 rfl : Els wr B 33 A n (l.map entC) ∧ B ≤ wr.heap.size).1 hkl
        have HC := Lib.hid hc
        have hx := Lib.hid (H32.out _ (List.getElem_mem hkl))
        have HNO : Hid (goodE l[k] = false → mkR l = ([], 1)) := Lib.hid (mkR_bad HQ.out hkl)
        have HNX : Hid (goodE l[k] = true → ∀ j (hj : j < l.length), j < k + 1 → goodE l[j] = true) := Lib.hid (fun h j hj h2 => by
          rcases Nat.lt_succ_iff_lt_or_eq.1 h2 with h4 | h4
          · exact HA.out j hj h4
          · subst h4; exact h)
        clear hc HA
        generalize l[k] = x at *
        have wk1 : (0 : Int) ≤ (k : Int) := by omega
        have wk2 : (k : Int) < (n : Int) := by omega
        have hf := fine_any x hx.out wr m (glob_keep HM.out (hI.at_ 1 rfl).1)
        cases hg : goodE x with
        | false =>
          have HF := Lib.hid (HNO.out hg)
          rw [hg] at hf
          clear HNX HNO hg
          go_wp2_with (first
            | (refine wl_load_any rfl 50 (.tmp 20) rfl (ad.add (k * 33)) rfl (entC x) _ HC.out Tryd.underlying50 rfl (by rw [entC_len hx.out]; kernel_rfl) ?_)
            | (go_at_call 38; refine hf.mono ?_; clear hf; rintro e w3 ⟨rfl, hb3⟩; have hW3 := hI.call hb3))
          go_ret2
          rw [HF.out]
          exact ResPost.nil rfl (hW3.at_ 1 rfl : _ ∧ _).1
        | true =>
          have HX := Lib.hid (HNX.out hg)
          rw [hg] at hf
          clear HNX HNO hg
          go_wp2_with (first
            | (refine wl_load_any rfl 50 (.tmp 20) rfl (ad.add (k * 33)) rfl (entC x) _ HC.out Tryd.underlying50 rfl (by rw [entC_len hx.out]; kernel_rfl) ?_)
            | (go_at_call 38; refine hf.mono ?_; clear hf; rintro e w3 ⟨rfl, hb3⟩; have hW3 := hI.call hb3; clear HC hI))
          exact ⟨⟨k + 1, by omega, by go_num, HX, hW3⟩, by simp [intOf]; omega⟩
      · have d2 : decide ((k : Int) < (n : Int)) = false := by simp; omega
        obtain ⟨hall, hmk⟩ := mkR_good HQ.out (fun j hj => HA.out j hj (by rw [HN.out] at hj; omega))
        have HMK := Lib.hid hmk
        clear hall hmk HA
        have hJ : All wr [.own w.heap.size 50 33 none 0 0 (([] : List E).map entC).flatten, .low (.els B 33 A n (l.map entC)), .kept w w.heap.size] := ⟨Go.Adm.Own.nil _ _ _ _, hI⟩
        clear hI
        go_wp2_with fail
        clear hlt hk d2
        go_loopw [5, 6] (fun v i wr => ∃ (k : Nat) (A' : Option Addr) (c' : Nat) (o : List E), k ≤ n ∧ i = .int .i64 k ∧ v = .slice A' o.length c' ∧ o.length ≤ k ∧ Hid (refM [] l = refM o (l.drop k)) ∧ Hid (∀ x ∈ o, E32 x) ∧ All wr [.own w.heap.size 50 33 A' o.length c' (o.map entC).flatten, .low (.els B 33 A n (l.map entC)), .kept w w.heap.size]) (fun _ i _ => n - (intOf i).toNat)
        case atStart => exact ⟨0, none, 0, [], Nat.zero_le _, rfl, rfl, Nat.le_refl _, Lib.hid rfl, Lib.hid (fun _ h => by cases h), hJ⟩
        case round =>
          clear hJ
          obtain ⟨k, A', c', o, hk, rfl, rfl, hok, HR, HO, hI⟩ := hrel
          by_cases hlt : k < n
          · have d2 : decide ((k : Int) < (n : Int)) = true := by simp; omega
            have hkl : k < l.length := by rw [HN.out]; exact hlt
            obtain ⟨ad, rfl, hadB, hc⟩ := Els.elem (hI.at_ 1 rfl : Els wr B 33 A n (l.map entC) ∧ B ≤ wr.heap.size).1 hkl
            have HC : Hid (∀ W, All W [.low (.els B 33 (some ad) n (l.map entC)), .kept w w.heap.size] → ∀ j u, (entC l[k])[j]? = some u → W.cell? ((ad.add (k * 33)).add j) = some u) := Lib.hid (fun W hW => by
              obtain ⟨a', e, -, hc⟩ := Els.elem (hW.at_ 0 rfl : Els W B 33 (some ad) n (l.map entC) ∧ B ≤ W.heap.size).1 hkl
              obtain rfl := Option.some.inj e
              exact hc)
            have hx := Lib.hid (H32.out _ (List.getElem_mem hkl))
            have HD : Hid (refM [] l = refM o (l[k] :: l.drop (k + 1))) := Lib.hid (by rw [HR.out, List.drop_eq_getElem_cons hkl])
            clear HR
            generalize l[k] = x at *
            have wk1 : (0 : Int) ≤ (k : Int) := by omega
            have wk2 : (k : Int) < (n : Int) := by omega
            have c0 : wr.cell? (ad.add (k * 33)) = some (.string x.p) := by have := hc 0 (sv x.p) rfl; rwa [add_zero] at this
            clear hc
            have hown := (hI.at_ 0 rfl : Go.Adm.Own wr w.heap.size 50 33 A' o.length c' (o.map entC).flatten)
            have hels : ∀ W, Go.Adm.Own W w.heap.size 50 33 A' o.length c' (o.map entC).flatten → Els W W.heap.size 33 A' o.length (o.map entC) := fun W h => Els.of h (fun y hy => by obtain ⟨v, hv, rfl⟩ := List.mem_map.1 hy; exact entC_len (HO.out v hv)) (by rw [List.length_map])
            have HELS := Lib.hid hels
            have hlk := Lookup_any wr wr.heap.size A' o.length c' o x.p (hels wr hown) HO.out rfl (by omega) (Nat.le_refl _)
            have hcap := Lib.hid hown.cap
            clear hels hown
            have hkw := (hI.at_ 2 rfl : _ ∧ w.heap.size ≤ wr.heap.size).2
            cases hlo : lookR o x.p with
            | some d0 =>
              have HF : Hid (mkR l = ([], 5)) := Lib.hid (by rw [HMK.out, HD.out, refM_dup hlo])
              rw [hlo] at hlk
              have hlz : (lookZ z32 o x.p) = d0 := by unfold lookZ; rw [hlo]; rfl
              rw [hlz] at hlk
              have hdl : d0.length = 32 := by
                obtain ⟨y, hy, -, rfl⟩ := lookR_some hlo
                exact (HO.out y hy).1
              have HDL : Hid ((d0.map bv).length = 32) := Lib.hid (by rw [List.length_map]; exact hdl)
              clear hlo hlz hdl HD
              go_wp2_with (first
                | (go_at_call 19; refine hlk.mono ?_; clear hlk; rintro e w3 ⟨rfl, hb3⟩; have hW3 := hI.call hb3; have hs3 := hb3.size)
                | (refine wl_store_at (hW3.new (l := z32.map bv) _ 40 rfl rfl) 0 rfl 40 (.tmp 7) (.tmp 38) rfl w3.heap.size _ _ (d0.map bv) rfl rfl rfl (by rw [HDL.out]; rfl) (by rw [HDL.out]; kernel_rfl) (bv_one _) ⟨fun g e => .inr (by injection e with e; subst e; exact Own.ne (hW3.at_ 0 rfl)), fun g e => (by have := (hW3.at_ 1 rfl : _ ∧ B ≤ w3.heap.size).2; injection e with e; subst e; exact this), fun g e => (by injection e with e; omega), trivial⟩ ?_; intro W4 hW4 hs4))
              go_ret2
              rw [HF.out]
              exact ResPost.nil rfl (hW4.at_ 3 rfl : _ ∧ _).1
            | none =>
              have HNX : Hid (refM [] l = refM (putK blt Ent.p o x) (l.drop (k + 1))) := Lib.hid (by rw [HD.out, refM_put hlo])
              rw [hlo] at hlk
              have hlz : (lookZ z32 o x.p) = z32 := by unfold lookZ; rw [hlo]; rfl
              rw [hlz] at hlk
              clear hlo hlz HD
              have HPL : Hid ((putK blt Ent.p o x).length = o.length + 1) := Lib.hid (by rw [(putK_perm o x).length_eq]; rfl)
              have HP32 : Hid (∀ y ∈ putK blt Ent.p o x, E32 y) := Lib.hid (fun y hy => by
                rcases List.mem_cons.1 ((putK_perm o x).subset hy) with rfl | h
                · exact hx.out
                · exact HO.out y h)
              go_upto_region 15 with (first
                | (go_at_call 19; refine hlk.mono ?_; clear hlk; rintro e w3 ⟨rfl, hb3⟩; have hW3 := hI.call hb3; have hs3 := hb3.size; clear hI)
                | (refine wl_store_at (hW3.new (l := z32.map bv) _ 40 rfl rfl) 0 rfl 40 (.tmp 7) (.tmp 38) rfl w3.heap.size _ _ (z32.map bv) rfl rfl rfl rfl (by kernel_rfl) (bv_one _) ⟨fun g e => .inr (by injection e with e; subst e; exact Own.ne (hW3.at_ 0 rfl)), fun g e => (by have := (hW3.at_ 1 rfl : _ ∧ B ≤ w3.heap.size).2; injection e with e; subst e; exact this), fun g e => (by injection e with e; omega), trivial⟩ ?_; intro W4 hW4 hs4))
              have hW5 : All W4 [.own w.heap.size 50 33 A' o.length c' (o.map entC).flatten, .low (.els B 33 (some ad) n (l.map entC)), .kept w w.heap.size] := hW4.2
              clear hW4 hs4 hW3 hs3 hkw
              have hc4 := HC.out W4 hW5.2
              have hin := insert_any W4 W4.heap.size A' o.length c' o x (HELS.out W4 (hW5.at_ 0 rfl)) HO.out hx.out rfl (by omega) hcap.out.1 (Nat.le_refl _)
              have hk5 := (hW5.at_ 2 rfl : _ ∧ w.heap.size ≤ W4.heap.size).2
              clear HC HELS
              generalize putK blt Ent.p o x = o2 at *
              go_wp2_with (first
                | (refine wl_load_any rfl 50 (.tmp 44) rfl (ad.add (k * 33)) rfl (entC x) _ hc4 Tryd.underlying50 rfl (by rw [entC_len hx.out]; kernel_rfl) ?_)
                | (go_at_call 30; refine hin.mono ?_; clear hin; rintro e w6 ⟨A6, c6, rfl, hO6, hb6⟩; have hW6 := hW5.call hb6; clear hc4))
              have hW7 : All w6 [.own w.heap.size 50 33 A6 o2.length c6 (o2.map entC).flatten, .low (.els B 33 (some ad) n (l.map entC)), .kept w w.heap.size] := ⟨hO6.less hk5, hW6.2⟩
              clear hW6 hW5 hO6 hb6
              exact ⟨⟨k + 1, A6, c6, o2, by omega, by go_num, rfl, by rw [HPL.out]; omega, HNX, HP32, hW7⟩, by simp [intOf]; omega⟩
          · have d2 : decide ((k : Int) < (n : Int)) = false := by simp; omega
            have HF : Hid (mkR l = (o, 0)) := Lib.hid (by rw [HMK.out, HR.out, List.drop_eq_nil_of_le (by rw [HN.out]; omega)]; rfl)
            clear HR HO
            go_wp2_with fail
            go_ret2
            rw [HF.out]
            exact ⟨A', c', rfl, hI.at_ 0 rfl, (hI.at_ 2 rfl : _ ∧ _).1⟩
end Go.Proofs.YtipepcjiogifaaaDoor
