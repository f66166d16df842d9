/- Envelopes that are signed and joined: plain Lean. -/
import Derived.Test.YtfakjamocpamiaaEnvP
import Derived.Test.YtfakjamocpamiaaEnvM
import Derived.Test.YtfakjamocpamiaaKyG
set_option linter.unusedSimpArgs false
set_option linter.unusedVariables false
namespace Go.Adm
open Go Go.RowKit Go.Proofs.Ytfakjamocpamiaa
/-- a signature with its key, without its place in memory -/
structure Sg where
 h : Int
 r : List UInt8
 leaf : Int
 chain : List (List UInt8)
 path : List (List UInt8)
def Ks.s (x : Ks) : Sg := ⟨x.h, x.r, x.leaf, x.chain, x.path⟩
def idG (s : Sg) : List UInt8 := idS s.h s.r
theorem idG_len (s : Sg) : (idG s).length = 32 := idS_len _ _
theorem idG_s (x : Ks) : idG x.s = idK x := rfl
def shG (s : Sg) : Bool := shapedB s.h s.leaf s.chain.length s.path.length
def SortG (l : List Sg) : Prop := l.Pairwise fun x y => lessD (idG x) (idG y) = true
instance (l : List Sg) : Decidable (SortG l) := by unfold SortG; infer_instance
def placeG (l : List Sg) (d : List UInt8) : Nat := (l.takeWhile fun x => lessD (idG x) d).length
def hasG (l : List Sg) (d : List UInt8) : Bool := l.any fun x => decide (idG x = d)
def putG (l : List Sg) (x : Sg) : List Sg := l.take (placeG l (idG x)) ++ x :: l.drop (placeG l (idG x))
noncomputable def verG (m : List UInt8) (x : Sg) : Bool := verifyB x.h x.leaf x.r m x.chain x.path
theorem placeG_le (l : List Sg) (d : List UInt8) : placeG l d ≤ l.length := (List.takeWhile_prefix _).length_le
theorem putG_len (l : List Sg) (x : Sg) : (putG l x).length = l.length + 1 := by
 have := placeG_le l (idG x)
 simp [putG]; omega
theorem mem_putG {l : List Sg} {x y : Sg} : y ∈ putG l x ↔ y = x ∨ y ∈ l := by
 unfold putG
 rw [List.mem_append, List.mem_cons]
 constructor
 ·rintro (h | h | h)
  ·exact .inr (List.mem_of_mem_take h)
  ·exact .inl h
  ·exact .inr (List.mem_of_mem_drop h)
 ·rintro (h | h)
  ·exact .inr (.inl h)
  ·rw [← List.take_append_drop (placeG l (idG x)) l, List.mem_append] at h
   exact h.elim .inl (fun h => .inr (.inr h))
/-- the list as the keys have it -/
theorem okKs_iff {l : List Ks} : okKs l = true ↔ (∀ s ∈ l.map Ks.s, shG s = true) ∧ SortG (l.map Ks.s) := by
 constructor
 ·intro h
  refine ⟨fun s hs => ?_, ?_⟩
  ·obtain ⟨x, hx, rfl⟩ := List.mem_map.1 hs
   exact okKs_shaped h x hx
  ·refine List.pairwise_iff_getElem.2 (fun i j hi hj hij => ?_)
   rw [List.length_map] at hi hj
   rw [List.getElem_map, List.getElem_map]
   exact okKs_sorted h i j hij hj hi
 ·rintro ⟨h1, h2⟩
  have hs : ∀ x ∈ l, shK x = true := fun x hx => h1 _ (List.mem_map_of_mem hx)
  refine okKs_all (fun i hi => ?_)
  rcases Nat.eq_zero_or_pos i with h0 | h0
  ·exact okK_zero hi (hs _ (List.getElem_mem hi)) h0
  ·rw [okK_next hi (show i - 1 < l.length by omega) (by omega) (hs _ (List.getElem_mem hi))]
   have := List.pairwise_iff_getElem.1 h2 (i - 1) i (by rw [List.length_map]; omega) (by rw [List.length_map]; exact hi) (by omega)
   rw [List.getElem_map, List.getElem_map] at this
   exact this
/-- an envelope, plain -/
structure EnvR where
 kind : ByteArray
 pay : List UInt8
 sigs : List Sg
def envR0 : EnvR := ⟨ByteArray.empty, [], []⟩
noncomputable def validR (R : EnvR) : Bool := nameB R.kind && (decide (R.pay.length ≤ 32768) && (decide (R.sigs.length ≤ 8) && (R.sigs.all shG && decide (SortG R.sigs))))
theorem validK_R {kind : ByteArray} {p : List UInt8} {l : List Ks} {n : Nat} (hn : p.length = n) : validK kind n l = validR ⟨kind, p, l.map Ks.s⟩ := by
 unfold validK validR
 have h1 : okKs l = ((l.map Ks.s).all shG && decide (SortG (l.map Ks.s))) := by
  rw [Bool.eq_iff_iff, okKs_iff, Bool.and_eq_true_iff, List.all_eq_true, decide_eq_true_iff]
 simp only [h1, List.length_map, hn]
theorem validR_iff {R : EnvR} : validR R = true ↔ nameB R.kind = true ∧ R.pay.length ≤ 32768 ∧ R.sigs.length ≤ 8 ∧ (∀ s ∈ R.sigs, shG s = true) ∧ SortG R.sigs := by
 unfold validR
 simp only [Bool.and_eq_true_iff, decide_eq_true_iff, List.all_eq_true]
/-- a signature is added -/
noncomputable def signE (R : EnvR) (seed : List UInt8) (h n : Int) : EnvR × List Value × Int :=
 if validR R = false then (envR0, siz, 1)
 else if (signR seed (msgS R.kind R.pay) h n).err ≠ 0 then (envR0, siz, (signR seed (msgS R.kind R.pay) h n).err)
 else if hasG R.sigs (idS h (rootS seed h.toNat)) = true then (envR0, siz, 5)
 else if R.sigs.length = 8 then (envR0, siz, 3)
 else (⟨R.kind, R.pay, putG R.sigs ⟨h, rootS seed h.toNat, (signR seed (msgS R.kind R.pay) h n).leaf, (signR seed (msgS R.kind R.pay) h n).chain, (signR seed (msgS R.kind R.pay) h n).path⟩⟩, (signR seed (msgS R.kind R.pay) h n).si, 0)
/-- one signature is joined -/
noncomputable def stepG (m : List UInt8) (acc : List Sg) (x : Sg) : List Sg :=
 if hasG acc (idG x) = true then
  match acc[placeG acc (idG x)]? with
  | some y => if verG m y = false ∧ verG m x = true then acc.set (placeG acc (idG x)) x else acc
  | none => acc
 else putG acc x
noncomputable def joinE (R S : EnvR) : EnvR × Int :=
 if validR R = false ∨ validR S = false then (envR0, 1)
 else if R.kind ≠ S.kind ∨ R.pay ≠ S.pay then (envR0, 9)
 else if 8 < (S.sigs.foldl (stepG (msgS R.kind R.pay)) R.sigs).length then (envR0, 3)
 else (⟨R.kind, R.pay, S.sigs.foldl (stepG (msgS R.kind R.pay)) R.sigs⟩, 0)
noncomputable def signersE (R : EnvR) : List (List UInt8) := if validR R = true then (R.sigs.filter (verG (msgS R.kind R.pay))).map idG else []
/-- where a key belongs -/
theorem placeG_eq : ∀ {l : List Sg} {d : List UInt8} {k : Nat}, k ≤ l.length → (∀ p (hp : p < l.length), p < k → lessD (idG l[p]) d = true) → (∀ (hk : k < l.length), lessD (idG l[k]) d = false) → placeG l d = k
 | [], d, k, hk, _, _ => by
  have : k = 0 := by simpa using hk
  subst this; rfl
 | x :: l, d, 0, _, _, h => by
  have := h (by simp)
  unfold placeG
  rw [List.takeWhile_cons_of_neg (by simpa using this)]; rfl
 | x :: l, d, k + 1, hk, h1, h2 => by
  have h0 := h1 0 (by simp) (by omega)
  unfold placeG
  rw [List.takeWhile_cons_of_pos (by simpa using h0), List.length_cons]
  have := placeG_eq (l := l) (d := d) (k := k) (by simpa using hk) (fun p hp hpk => by have := h1 (p + 1) (by simpa using hp) (by omega); simpa using this) (fun hq => by have := h2 (by simpa using hq); simpa using this)
  unfold placeG at this
  rw [this]
theorem placeG_lt {l : List Sg} {d : List UInt8} {p : Nat} (hp : p < placeG l d) : ∃ h : p < l.length, lessD (idG l[p]) d = true := by
 have h1 := placeG_le l d
 refine ⟨by omega, ?_⟩
 have h2 : l[p]'(by omega) = (l.takeWhile fun x => lessD (idG x) d)[p]'hp := ((List.takeWhile_prefix _).getElem hp).symm
 rw [h2]
 have h3 := List.all_takeWhile (p := fun x : Sg => lessD (idG x) d) (l := l)
 exact List.all_eq_true.1 h3 _ (List.getElem_mem hp)
theorem placeG_at {l : List Sg} {d : List UInt8} (h : placeG l d < l.length) : lessD (idG l[placeG l d]) d = false := by
 have h1 := List.takeWhile_append_dropWhile (p := fun x : Sg => lessD (idG x) d) (l := l)
 cases hd : l.dropWhile (fun x => lessD (idG x) d) with
 | nil =>
  rw [hd, List.append_nil] at h1
  unfold placeG at h
  rw [h1] at h
  omega
 | cons y t =>
  have h2 : lessD (idG y) d = false := by
   have h3 := List.head?_dropWhile_not (fun x : Sg => lessD (idG x) d) l
   rw [hd] at h3
   simpa using h3
  have h4 : l[placeG l d] = y := by
   have h5 : (l.takeWhile (fun x => lessD (idG x) d) ++ l.dropWhile (fun x => lessD (idG x) d))[placeG l d]? = some y := by
    rw [hd]
    unfold placeG
    rw [List.getElem?_append_right (Nat.le_refl _), Nat.sub_self]; rfl
   rw [List.takeWhile_append_dropWhile] at h5
   exact Option.some.inj ((List.getElem?_eq_getElem h).symm.trans h5)
  rw [h4]; exact h2
theorem SortG.idx {l : List Sg} (h : SortG l) {i j : Nat} (hj : j < l.length) (hij : i < j) : lessD (idG (l[i]'(by omega))) (idG l[j]) = true := List.pairwise_iff_getElem.1 h i j (by omega) hj hij
theorem hasG_iff {l : List Sg} {d : List UInt8} : hasG l d = true ↔ ∃ x ∈ l, idG x = d := by
 unfold hasG
 rw [List.any_eq_true]
 exact ⟨fun ⟨x, h1, h2⟩ => ⟨x, h1, by simpa using h2⟩, fun ⟨x, h1, h2⟩ => ⟨x, h1, by simpa using h2⟩⟩
/-- a key that is there is in its place -/
theorem hasG_at {l : List Sg} {d : List UInt8} (hs : SortG l) (h : hasG l d = true) : ∃ hp : placeG l d < l.length, idG l[placeG l d] = d := by
 obtain ⟨x, hx, he⟩ := hasG_iff.1 h
 obtain ⟨k, hk, rfl⟩ := List.getElem_of_mem hx
 have hpk : placeG l d = k := placeG_eq (Nat.le_of_lt hk) (fun p hp hpk => by rw [← he]; exact hs.idx hk hpk) (fun _ => by rw [he]; exact lessD_irrefl d)
 exact ⟨by rw [hpk]; exact hk, by simp only [hpk]; exact he⟩
theorem hasG_not {l : List Sg} {d : List UInt8} (hs : SortG l) (h : ∀ (hp : placeG l d < l.length), idG l[placeG l d] ≠ d) : hasG l d = false := by
 cases hq : hasG l d with
 | false => rfl
 | true =>
  obtain ⟨hp, he⟩ := hasG_at hs hq
  exact absurd he (h hp)
theorem SortG.put {l : List Sg} {x : Sg} (hs : SortG l) (h : hasG l (idG x) = false) : SortG (putG l x) := by
 have hlt : ∀ y ∈ l.take (placeG l (idG x)), lessD (idG y) (idG x) = true := fun y hy => by
  obtain ⟨p, hp, rfl⟩ := List.getElem_of_mem hy
  rw [List.length_take] at hp
  obtain ⟨h1, h2⟩ := placeG_lt (show p < placeG l (idG x) by omega)
  rw [List.getElem_take]; exact h2
 have hgt : ∀ y ∈ l.drop (placeG l (idG x)), lessD (idG x) (idG y) = true := fun y hy => by
  obtain ⟨p, hp, rfl⟩ := List.getElem_of_mem hy
  rw [List.length_drop] at hp
  have h0 : placeG l (idG x) < l.length := by omega
  rw [List.getElem_drop]
  have h1 := placeG_at h0
  have h2 : lessD (idG x) (idG l[placeG l (idG x)]) = true := by
   cases hq : lessD (idG x) (idG l[placeG l (idG x)]) with
   | true => rfl
   | false =>
    have := hasG_iff.2 ⟨_, List.getElem_mem h0, lessD_total h1 hq⟩
    rw [h] at this; cases this
  rcases Nat.eq_zero_or_pos p with hp0 | hp0
  ·subst hp0; exact h2
  ·exact lessD_trans h2 (hs.idx (by omega) (by omega))
 unfold putG
 refine List.pairwise_append.2 ⟨List.Pairwise.sublist (List.take_sublist _ _) hs, List.pairwise_cons.2 ⟨hgt, List.Pairwise.sublist (List.drop_sublist _ _) hs⟩, fun a ha b hb => ?_⟩
 rcases List.mem_cons.1 hb with rfl | hb
 ·exact hlt a ha
 ·exact lessD_trans (hlt a ha) (hgt b hb)
theorem SortG.set {l : List Sg} {x : Sg} {k : Nat} (hs : SortG l) (hk : k < l.length) (he : idG l[k] = idG x) : SortG (l.set k x) := by
 have hid : (l.set k x).map idG = l.map idG := by
  rw [List.map_set, ← he]
  refine List.ext_getElem (by simp) (fun i h1 h2 => ?_)
  rw [List.getElem_set]
  split
  ·next h => subst h; simp
  ·rfl
 have h2 : ∀ m : List Sg, SortG m ↔ (m.map idG).Pairwise fun a b => lessD a b = true := fun m => by
  unfold SortG
  rw [List.pairwise_map]
 rw [h2, hid, ← h2]
 exact hs
theorem SortG.step {m : List UInt8} {l : List Sg} {x : Sg} (hs : SortG l) : SortG (stepG m l x) := by
 unfold stepG
 split
 ·next h =>
  obtain ⟨hp, he⟩ := hasG_at hs h
  rw [List.getElem?_eq_getElem hp]
  show SortG (if _ then _ else _)
  split
  ·exact hs.set hp he
  ·exact hs
 ·next h => exact hs.put (by simpa using h)
theorem stepG_had {m : List UInt8} {l : List Sg} {x : Sg} {k : Nat} (hk : k < l.length) (hp : placeG l (idG x) = k) (h : hasG l (idG x) = true) : stepG m l x = if verG m l[k] = false ∧ verG m x = true then l.set k x else l := by
 unfold stepG
 rw [if_pos h, hp, List.getElem?_eq_getElem hk]
theorem stepG_new {m : List UInt8} {l : List Sg} {x : Sg} (h : hasG l (idG x) = false) : stepG m l x = putG l x := by
 unfold stepG
 rw [if_neg (by rw [h]; decide)]
theorem stepG_shaped {m : List UInt8} {l : List Sg} {x : Sg} (h : ∀ s ∈ l, shG s = true) (hx : shG x = true) : ∀ s ∈ stepG m l x, shG s = true := by
 intro s hs
 unfold stepG at hs
 split at hs
 ·split at hs
  ·split at hs
   ·rcases List.mem_or_eq_of_mem_set hs with h1 | h1
    ·exact h s h1
    ·rw [h1]; exact hx
   ·exact h s hs
  ·exact h s hs
 ·rcases mem_putG.1 hs with h1 | h1
  ·rw [h1]; exact hx
  ·exact h s h1
theorem stepG_len (m : List UInt8) (l : List Sg) (x : Sg) : (stepG m l x).length ≤ l.length + 1 := by
 unfold stepG
 split
 ·split
  ·split
   ·rw [List.length_set]; omega
   ·omega
  ·omega
 ·rw [putG_len]; exact Nat.le_refl _
end Go.Adm
