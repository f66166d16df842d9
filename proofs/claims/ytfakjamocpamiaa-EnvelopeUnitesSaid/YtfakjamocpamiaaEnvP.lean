/- Signatures with their keys: cells, rows, validity. -/
import Derived.Test.YtfakjamocpamiaaKyE
import Derived.Test.YtfakjamocpamiaaDoc2
import Derived.Test.YtfakjamocpamiaaStA
import Derived.Test.YtfakjamocpamiaaSto15
set_option linter.unusedSimpArgs false
set_option linter.unusedVariables false
namespace Go.Adm
open Go Go.RowKit Go.Proofs.Ytfakjamocpamiaa
/-- a signature with its key, and where its rows lie -/
structure Ks where
 h : Int
 r : List UInt8
 leaf : Int
 Ac : Option Addr
 cc : Nat
 chain : List (List UInt8)
 Ap : Option Addr
 cp : Nat
 path : List (List UInt8)
def ksC (x : Ks) : List Value := pkCells x.h x.r ++ sgCells x.leaf x.Ac x.chain.length x.cc x.Ap x.path.length x.cp
def z16 : List UInt8 := List.replicate 16 0
def ksZ : List Value := pkCells 0 z16 ++ sgCells 0 none 0 0 none 0 0
theorem pkLen {h : Int} {r : List UInt8} (hr : r.length = 16) : (pkCells h r).length = 17 := by simp [pkCells, hr]
theorem ksC_len {x : Ks} (h : x.r.length = 16) : (ksC x).length = 20 := by simp [ksC, pkCells, sgCells, h]
theorem ksC_one (x : Ks) : ∀ v ∈ ksC x, v.oneCell' = true := by
 intro v hv
 rcases List.mem_append.1 hv with h | h
 ·exact pk_one _ _ v h
 ·exact sg_one _ _ _ _ _ _ _ v h
theorem ks_pk (x : Ks) : ∀ j u, (pkCells x.h x.r)[j]? = some u → (ksC x)[0 + j]? = some u := fun j u hu => by
 rw [Nat.zero_add, ksC, List.getElem?_append_left (List.getElem?_eq_some_iff.1 hu).1]; exact hu
theorem ks_sg {x : Ks} (h : x.r.length = 16) : ∀ j u, (sgCells x.leaf x.Ac x.chain.length x.cc x.Ap x.path.length x.cp)[j]? = some u → (ksC x)[17 + j]? = some u := fun j u hu => by
 have h1 : (pkCells x.h x.r).length = 17 := pkLen h
 rw [ksC, List.getElem?_append_right (by omega), h1, Nat.add_sub_cancel_left]; exact hu
structure KsOk (w : World) (B : Nat) (x : Ks) : Prop where
 r16 : x.r.length = 16
 rc : Els w B 16 x.Ac x.chain.length (hvs x.chain)
 c16 : ∀ y ∈ x.chain, y.length = 16
 cc : x.chain.length ≤ x.cc ∧ x.cc ≤ maxLen
 rp : Els w B 16 x.Ap x.path.length (hvs x.path)
 p16 : ∀ y ∈ x.path, y.length = 16
 cp : x.path.length ≤ x.cp ∧ x.cp ≤ maxLen
theorem KsOk.keep {w w' : World} {B : Nat} {x : Ks} (h : KsOk w B x) (hk : ∀ p : Addr, p.block < B → w'.cell? p = w.cell? p) : KsOk w' B x := ⟨h.r16, h.rc.keep hk, h.c16, h.cc, h.rp.keep hk, h.p16, h.cp⟩
theorem KsOk.mono {w : World} {B B' : Nat} {x : Ks} (h : KsOk w B x) (hB : B ≤ B') : KsOk w B' x := ⟨h.r16, h.rc.mono hB, h.c16, h.cc, h.rp.mono hB, h.p16, h.cp⟩
/-- a row of signatures -/
structure Kss (w : World) (B : Nat) (A : Option Addr) (n : Nat) (l : List Ks) : Prop where
 els : Els w B 20 A n (l.map ksC)
 each : ∀ x ∈ l, KsOk w B x
 len : l.length = n
theorem Kss.keep {w w' : World} {B n : Nat} {A : Option Addr} {l : List Ks} (h : Kss w B A n l) (hk : ∀ p : Addr, p.block < B → w'.cell? p = w.cell? p) : Kss w' B A n l :=
 ⟨h.els.keep hk, fun x hx => (h.each x hx).keep hk, h.len⟩
theorem Kss.mono {w : World} {B B' n : Nat} {A : Option Addr} {l : List Ks} (h : Kss w B A n l) (hB : B ≤ B') : Kss w B' A n l :=
 ⟨h.els.mono hB, fun x hx => (h.each x hx).mono hB, h.len⟩
theorem Kss.nil {w : World} {B : Nat} : Kss w B none 0 [] := ⟨Els.nil, (fun x hx => by cases hx), rfl⟩
def Low.kss (B : Nat) (A : Option Addr) (n : Nat) (l : List Ks) : Low := ⟨B, fun w => Kss w B A n l, fun _ _ hk h => h.keep hk⟩
/-- the key's name -/
def idK (x : Ks) : List UInt8 := idS x.h x.r
theorem idK_len (x : Ks) : (idK x).length = 32 := idS_len _ _
def shK (x : Ks) : Bool := shapedB x.h x.leaf x.chain.length x.path.length
/-- one signature in its place -/
def okK (l : List Ks) (i : Nat) : Bool := match l[i]? with
 | none => true
 | some x => shK x && (decide (i = 0) || match l[i - 1]? with
  | none => true
  | some y => lessD (idK y) (idK x))
theorem okK_at {l : List Ks} {i : Nat} (h : i < l.length) : okK l i = (shK l[i] && (decide (i = 0) || lessD (idK (l[i - 1]'(by omega))) (idK l[i]))) := by
 unfold okK
 rw [List.getElem?_eq_getElem h]
 have h2 : i - 1 < l.length := by omega
 simp only [List.getElem?_eq_getElem h2]
theorem okK_bad {l : List Ks} {i : Nat} (h : i < l.length) (hs : shK l[i] = false) : okK l i = false := by rw [okK_at h, hs, Bool.false_and]
theorem okK_zero {l : List Ks} {i : Nat} (h : i < l.length) (hs : shK l[i] = true) (h0 : i = 0) : okK l i = true := by rw [okK_at h, hs, Bool.true_and, decide_eq_true h0, Bool.true_or]
theorem okK_next {l : List Ks} {i j : Nat} (h : i < l.length) (hj : j < l.length) (hij : j + 1 = i) (hs : shK l[i] = true) : okK l i = lessD (idK l[j]) (idK l[i]) := by
 subst hij
 rw [okK_at h, hs, Bool.true_and]
 simp
/-- the list of signatures is in order, and each has its shape -/
def okKs (l : List Ks) : Bool := (List.range l.length).all (okK l)
theorem okKs_no {l : List Ks} {k : Nat} (hk : k < l.length) (h : okK l k = false) : okKs l = false := by
 unfold okKs
 rw [List.all_eq_false]
 exact ⟨k, List.mem_range.2 hk, by rw [h]; decide⟩
theorem okKs_all {l : List Ks} (h : ∀ i, i < l.length → okK l i = true) : okKs l = true := by
 unfold okKs
 rw [List.all_eq_true]
 exact fun i hi => h i (List.mem_range.1 hi)
theorem okKs_at {l : List Ks} (h : okKs l = true) {k : Nat} (hk : k < l.length) : okK l k = true := List.all_eq_true.1 h k (List.mem_range.2 hk)
theorem okKs_shaped {l : List Ks} (h : okKs l = true) : ∀ x ∈ l, shK x = true := fun x hx => by
 obtain ⟨k, hk, rfl⟩ := List.getElem_of_mem hx
 have := okKs_at h hk
 rw [okK_at hk] at this
 exact (Bool.and_eq_true_iff.1 this).1
theorem okKs_step {l : List Ks} (h : okKs l = true) {k : Nat} (hk : k + 1 < l.length) : lessD (idK l[k]) (idK l[k + 1]) = true := by
 have h1 := okKs_at h hk
 rw [okK_next hk (by omega) rfl (okKs_shaped h _ (List.getElem_mem hk))] at h1
 exact h1
theorem okKs_sorted {l : List Ks} (h : okKs l = true) : ∀ i j, i < j → (hj : j < l.length) → (hi : i < l.length) → lessD (idK l[i]) (idK l[j]) = true := fun i j hij => by
 induction j with
 | zero => omega
 | succ j ih =>
  intro hj hi
  rcases Nat.lt_succ_iff_lt_or_eq.1 hij with h1 | h1
  ·exact lessD_trans (ih h1 (by omega) hi) (okKs_step h hj)
  ·subst h1; exact okKs_step h hj
/-- an envelope is valid -/
noncomputable def validK (kind : ByteArray) (pn : Nat) (l : List Ks) : Bool := nameB kind && (decide (pn ≤ 32768) && (decide (l.length ≤ 8) && okKs l))
/-- the cells of an envelope -/
def envC (kind : ByteArray) (Ap : Option Addr) (np cp : Nat) (As : Option Addr) (ns cs : Nat) : List Value := [.string kind, .slice Ap np cp, .slice As ns cs]
end Go.Adm
