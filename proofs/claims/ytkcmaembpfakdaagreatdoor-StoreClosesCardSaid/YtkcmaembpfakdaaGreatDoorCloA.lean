/- What Closure needs: rows apart, rows cut, the cost of what is left. -/
import Derived.Test.YtkcmaembpfakdaaGreatDoorSrtD
import Derived.Test.YtkcmaembpfakdaaGreatDoorCloP
import Derived.Test.YtkcmaembpfakdaaGreatDoorSto4
set_option linter.unusedSimpArgs false
set_option linter.unusedVariables false
set_option maxRecDepth 100000
namespace Go.Adm
open Go Go.RowKit
theorem Own.cut {w : World} {base size n m c : Nat} {e : TypeId} {A : Option Addr} {xs : List Value} (h : Go.Adm.Own w base e size A n c xs) (hm : m ≤ n) : Go.Adm.Own w base e size A m c (xs.take (m * size)) := by
  have hl : xs.length = n * size := h.1
  have hms : m * size ≤ n * size := Nat.mul_le_mul_right _ hm
  refine ⟨by rw [List.length_take, hl]; omega, ?_⟩
  rcases h.2 with ⟨e0, e1⟩ | ⟨g, cap, cur, e0, hb, hg, hc, hcm, hs, ht⟩
  · injection e0 with a1 a2 a3
    have : m = 0 := by omega
    subst this
    exact .inl ⟨by rw [a1, a3], rfl⟩
  · injection e0 with a1 a2 a3
    refine .inr ⟨g, cap, cur, by rw [a1, a3], hb, hg, by omega, hcm, hs, ?_⟩
    rw [← ht, List.take_take, Nat.min_eq_left hms]
theorem dvs_cut (xs : List (List UInt8)) (d : List UInt8) (h : ∀ x ∈ xs, x.length = 32) : (dvs (xs ++ [d])).flatten.take (xs.length * 32) = (dvs xs).flatten := by
  rw [dvs_snoc]
  have hl : (dvs xs).flatten.length = xs.length * 32 := by
    have := flat_len (es := dvs xs) (size := 32) (by intro e he; obtain ⟨x, hx, rfl⟩ := List.mem_map.1 he; rw [List.length_map]; exact h x hx)
    rw [this, dvs_len]
  rw [← hl, List.take_left]
theorem dvs_app (xs ys : List (List UInt8)) : (dvs (xs ++ ys)).flatten = (dvs xs).flatten ++ (dvs ys).flatten := by simp [dvs]
theorem dvs_one (xs : List (List UInt8)) : ∀ u ∈ (dvs xs).flatten, u.oneCell' = true := fun u hu => by
  obtain ⟨cs, hcs, hu⟩ := List.mem_flatten.1 hu
  obtain ⟨x, -, rfl⟩ := List.mem_map.1 hcs
  exact bv_one x u hu
/-- rows in different blocks -/
def Dist (v u : Value) : Prop := ∀ g, v.ownBlock = some g → u.ownBlock ≠ some g
theorem Dist.symm {v u : Value} (h : Dist v u) : Dist u v := fun g h1 h2 => h g h2 h1
theorem Dist.none {u : Value} {n c : Nat} : Dist (.slice none n c) u := fun g h => by cases h
theorem Dist.app {w : World} {v v' : Value} {base size n c : Nat} {e : TypeId} {A : Option Addr} {xs : List Value} (hd : Dist v (.slice A n c)) (h : v'.ownBlock = v.ownBlock ∨ v'.ownBlock = some w.heap.size) (hu : Go.Adm.Own w base e size A n c xs) : Dist v' (.slice A n c) := fun g h1 h2 => by
  rcases h with h | h
  · rw [h] at h1; exact hd g h1 h2
  · rw [h] at h1
    injection h1 with h1
    have := (hu.lt h2).2
    omega
/-- append onto a row, with the block of the new row -/
theorem wl_app_at6 {P : Program} {w : World} {rs : List Res} {ops : Array Oper} {rest : List Oper} {o : Oper} {a : Act} {Q : Exit → Act → World → Prop} {t e : TypeId} {z : Value} {size bytes : Nat} (E : ElemOf P t e z size bytes) (hR : All w rs) (i : Nat) (hgd : o.guard = none) (s x : Operand)
    (ho : o.op = .call { callee := .builtin .append, args := #[s, x], argTypes := #[t, t] })
    (base : Nat) (A0 : Option Addr) (n c0 : Nat) (xs : List Value) (hi : rs[i]? = some (.own base e size A0 n c0 xs)) (hs : a.eval s = .slice A0 n c0)
    (B : Nat) (A : Option Addr) (m c : Nat) (news : List Value) (hx : a.eval x = .slice A m c) (hr : Rd w B size A m news) (h1 : ∀ u ∈ news, u.oneCell' = true)
    (hbytes : (n + m) * bytes ≤ 140737488355328) (hbase : base ≤ w.heap.size)
    (hap : ∀ g, base ≤ g → (Value.slice A0 n c0).ownBlock = some g → Apart (some g) (rs.eraseIdx i))
    (h : ∀ A' c' w', All w' (rs.set i (.own base e size A' (n + m) c' (xs ++ news))) → w.heap.size ≤ w'.heap.size → ((Value.slice A' (n + m) c').ownBlock = (Value.slice A0 n c0).ownBlock ∨ (Value.slice A' (n + m) c').ownBlock = some w.heap.size) → wpList P ops Q rest (a.put o.dst (.slice A' (n + m) c')) w') : wpList P ops Q (o :: rest) a w := by
  have hown : Go.Adm.Own w base e size A0 n c0 xs := hR.at_ i hi
  refine wl_app6 w E hgd s x ho base A0 n c0 xs hs hown B A m c news hx hr h1 hbytes hbase fun A' c' w' h2 h4 h6 => h A' c' w' ?_ h4.size h6
  refine All.upd h4 i _ hR h2 ?_
  cases hq : (Value.slice A0 n c0).ownBlock with
  | none => exact Apart.none _
  | some g => exact hap g (hown.lt hq).1 hq
def lenS : Value → Nat
  | .slice _ n _ => n
  | _ => 0
/-- the links of the content under a digest -/
def lkG (l : List Bl) (d : List UInt8) : Option (List (List UInt8)) := (lookB l d).map (fun x => linksB x.b)
theorem lkG_some {l : List Bl} {d : List UInt8} {x : Bl} (h : lookB l d = some x) : lkG l d = some (linksB x.b) := by unfold lkG; rw [h]; rfl
theorem lkG_none {l : List Bl} {d : List UInt8} (h : lookB l d = none) : lkG l d = none := by unfold lkG; rw [h]; rfl
theorem lkG_len {l : List Bl} {d : List UInt8} {ls : List (List UInt8)} (h : lkG l d = some ls) : ls.length ≤ 120000 := by
  unfold lkG at h
  obtain ⟨x, -, rfl⟩ := Option.map_eq_some_iff.1 h
  exact linksB_len _
theorem lkG_nz {l : List Bl} {d : List UInt8} {ls : List (List UInt8)} (h : lkG l d = some ls) : ∀ e ∈ ls, e ≠ z32 := by
  unfold lkG at h
  obtain ⟨x, -, rfl⟩ := Option.map_eq_some_iff.1 h
  exact fun e he => (linksW_each _ e he).2
theorem lookB_key {l : List Bl} {d : List UInt8} {x : Bl} (h : lookB l d = some x) : d ∈ l.map Bl.d := by
  have h1 := List.mem_of_find?_eq_some h
  have h2 := List.find?_some h
  exact List.mem_map.2 ⟨x, h1, of_decide_eq_true h2⟩
theorem lessD_strict {l : List (List UInt8)} (h : l.Pairwise fun x y => lessD y x = false) (hn : l.Nodup) : l.Pairwise fun x y => lessD x y = true :=
  List.Pairwise.imp (fun {a b} hab => by
    cases hq : lessD a b with
    | true => rfl
    | false => exact absurd (lessD_total hq hab.1) hab.2) (h.and hn)
/-- what Closure answers -/
structure CloPost (l : List Bl) (roots : List (List UInt8)) (P M : List (List UInt8)) : Prop where
  ok : CloOk z32 (lkG l) roots P M
  p32 : ∀ d ∈ P, d.length = 32
  m32 : ∀ d ∈ M, d.length = 32
  ap : P.Pairwise fun x y => lessD x y = true
  am : M.Pairwise fun x y => lessD x y = true
  len : P.length ≤ 200000000 ∧ M.length ≤ 200000000
theorem CloPost.uniq {l : List Bl} {roots P M P' M' : List (List UInt8)} (h : CloPost l roots P M) (h' : CloPost l roots P' M') : P = P' ∧ M = M' :=
  ⟨asc_same lessD_irrefl (fun a b c h1 h2 => lessD_trans h1 h2) h.ap h'.ap (fun d => (h.ok.1 d).trans (h'.ok.1 d).symm), asc_same lessD_irrefl (fun a b c h1 h2 => lessD_trans h1 h2) h.am h'.am (fun d => (h.ok.2 d).trans (h'.ok.2 d).symm)⟩
end Go.Adm
namespace Go.Proofs.YtkcmaembpfakdaaGreatDoor
open Go Go.RowKit Go.Adm
open Classical in
/-- what is left to be read, told from the map -/
noncomputable def costW (w : World) (b : Nat) (l : List Bl) : Nat :=
  ((l.map Bl.d).map fun x => if (Instr.lookup 60 (.map (some b)) (.agg (x.map bv).toArray) false).run Tryz.prog w = .ok (.bool true) w then 0 else ((lkG l x).getD []).length).sum
theorem costW_eq {w : World} {b n : Nat} {S : List (List UInt8)} (h : SetIs w b n S) (l : List Bl) (h32 : ∀ x ∈ l, x.d.length = 32) : costW w b l = costS (lkG l) S (l.map Bl.d) := by
  unfold costW costS
  congr 1
  refine List.map_congr_left (fun x hx => ?_)
  obtain ⟨y, hy, rfl⟩ := List.mem_map.1 hx
  rw [SetIs.look h (h32 y hy)]
  by_cases hs : y.d ∈ S
  · rw [if_pos hs, if_pos (by simp [hs])]
  · rw [if_neg hs, if_neg (by simp [hs])]
set_option maxHeartbeats 1600000 in
theorem CloneD_any (w : World) (B : Nat) (A : Option Addr) (n c : Nat) (l : List (List UInt8)) (h : Digs w B A n l) (hn2 : n ≤ 1000000) (hB : B ≤ w.heap.size) :
    Calls Tryz.prog 26 #[.slice A n c] w fun e w' => ∃ A' c', e = .returned (.slice A' n c') ∧ Below w.heap.size w w' ∧ Go.Adm.Own w' w.heap.size 32 32 A' n c' (dvs l).flatten := by
  have q23 : ∀ (w : World) (a : Option Addr) (n c n' c' : Nat), (binOp .eql 23 (.slice a n c) (.slice none n' c')).run Tryz.prog w = .ok (.bool a.isNone) w := fun w a n c n' c' => Lib.run_eql_slice_nil w _ _ a n c n' c' Tryz.underlying23
  cases A with
  | none =>
    have hn0 : n = 0 := by
      rcases Nat.eq_zero_or_pos n with h0 | h0
      · exact h0
      · obtain ⟨ad, e, _⟩ := h.els.rd.at_ h0; cases e
    subst hn0
    have hl : l = [] := List.eq_nil_of_length_eq_zero h.len
    subst hl
    clear h
    go_enter Tryz.func26, Tryz.ntmps26
    go_wp2_with fail
    go_ret
    exact ⟨none, 0, rfl, Below.refl _ _, Go.Adm.Own.nil _ _ _ _⟩
  | some ad =>
    have hown0 : Go.Adm.Own (w.alloc (.cells #[] 32)) w.heap.size 32 32 (some ⟨w.heap.size, 0, none⟩) 0 0 [] := Go.Adm.Own.lit w #[] 0 (Nat.le_refl _) (by decide) rfl
    have hrx : Rd (w.alloc (.cells #[] 32)) B 32 (some ad) n (dvs l).flatten := h.els.rd.alloc hB _
    have hone : ∀ u ∈ (dvs l).flatten, u.oneCell' = true := fun u hu => by
      obtain ⟨cs, hcs, hu⟩ := List.mem_flatten.1 hu
      obtain ⟨x, -, rfl⟩ := List.mem_map.1 hcs
      exact bv_one x u hu
    have HONE := Lib.hid hone
    clear h hone
    go_enter Tryz.func26, Tryz.ntmps26
    go_wp2_with (refine wl_app _ el_dg rfl (.tmp 5) (.tmp 6) rfl w.heap.size _ 0 0 [] rfl hown0 B _ n c (dvs l).flatten rfl hrx HONE.out (by omega) (by simp) ?_; intro A3 c3 w3 hown3 hb3 hg3)
    go_ret
    have hown4 := hown3.cast (Nat.zero_add n) (List.nil_append _)
    exact ⟨A3, c3, rfl, ((Below.refl _ w).alloc (Nat.le_refl _) _).trans hb3, hown4⟩
end Go.Proofs.YtkcmaembpfakdaaGreatDoor
