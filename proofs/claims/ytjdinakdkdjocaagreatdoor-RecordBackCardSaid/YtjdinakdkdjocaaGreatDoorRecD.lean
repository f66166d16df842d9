/- Records out of lines, and back: plain Lean. -/
import Derived.Test.YtjdinakdkdjocaaGreatDoorRec7
import Derived.Test.YtjdinakdkdjocaaGreatDoorParB
set_option linter.unusedSimpArgs false
set_option linter.unusedVariables false
set_option maxRecDepth 100000
namespace Go.Adm
open Go Go.RowKit
def lineOf (tag : ByteArray) (l : List ByteArray) : Option E := match l with
  | [t, p, d] => if t.toList == tag.toList then (AdP.parseD d.data.toList).map (fun v => ⟨p, v⟩) else none
  | _ => none
def rawS (tag : ByteArray) (ls : List (List ByteArray)) : Option (List E) := if ls.all (fun l => (lineOf tag l).isSome) then some (ls.filterMap (lineOf tag)) else none
end Go.Adm
namespace Go.AdR
open Go Go.RowKit Go.Adm
def recW : ByteArray := ⟨#[114, 101, 99, 111, 114, 100]⟩
def cmdW : ByteArray := ⟨#[99, 111, 109, 109, 97, 110, 100]⟩
def envW : ByteArray := ⟨#[101, 110, 118]⟩
def matW : ByteArray := ⟨#[109, 97, 116, 101, 114, 105, 97, 108]⟩
def proW : ByteArray := ⟨#[112, 114, 111, 100, 117, 99, 116]⟩
def isTag (tag : ByteArray) : List ByteArray → Bool
  | t :: _ => decide (t = tag)
  | [] => false
def varOf : List ByteArray → Option Var
  | [_, n, v] => some ⟨n, v⟩
  | _ => none
def tailOk (rest : List (List ByteArray)) : Bool :=
  (rest.takeWhile (isTag envW)).all (fun l => (varOf l).isSome) && (((rest.dropWhile (isTag envW)).takeWhile (isTag matW)).all (fun l => (lineOf matW l).isSome) && ((((rest.dropWhile (isTag envW)).dropWhile (isTag matW)).takeWhile (isTag proW)).all (fun l => (lineOf proW l).isSome) && (((rest.dropWhile (isTag envW)).dropWhile (isTag matW)).dropWhile (isTag proW)).isEmpty))
def tailR (run scope step : ByteArray) (k : Int) (cmd : List ByteArray) (rest : List (List ByteArray)) : Rec :=
  ⟨run, scope, step, k, cmd, (rest.takeWhile (isTag envW)).filterMap varOf, ((rest.dropWhile (isTag envW)).takeWhile (isTag matW)).filterMap (lineOf matW), (((rest.dropWhile (isTag envW)).dropWhile (isTag matW)).takeWhile (isTag proW)).filterMap (lineOf proW)⟩
/-- the record of some lines, where they are one -/
def recParse : List (List ByteArray) → Option Rec
  | [t0, run, scope, step, nu] :: (t1 :: cmd) :: rest => if (decide (t0 = recW) && decide (t1 = cmdW)) = true then (match parseS nu.data.toList with
    | some k => if tailOk rest = true then some (tailR run scope step k cmd rest) else none
    | none => none) else none
  | _ => none
theorem fm_back {α β : Type} {f : α → Option β} {g : β → α} : ∀ (l : List α), (∀ x ∈ l, ∃ y, f x = some y ∧ g y = x) → (l.filterMap f).map g = l
  | [], _ => rfl
  | x :: l, h => by
    obtain ⟨y, h1, h2⟩ := h x List.mem_cons_self
    rw [List.filterMap_cons_some h1, List.map_cons, h2, fm_back l (fun z hz => h z (List.mem_cons_of_mem _ hz))]
theorem fm_forth {α β : Type} {f : α → Option β} {g : β → α} : ∀ (l : List β), (∀ y ∈ l, f (g y) = some y) → (l.map g).filterMap f = l
  | [], _ => rfl
  | y :: l, h => by
    rw [List.map_cons, List.filterMap_cons_some (h y List.mem_cons_self), fm_forth l (fun z hz => h z (List.mem_cons_of_mem _ hz))]
theorem take_app {α : Type} {p : α → Bool} : ∀ (l m : List α), (∀ x ∈ l, p x = true) → (∀ x ∈ m, p x = false) → (l ++ m).takeWhile p = l ∧ (l ++ m).dropWhile p = m
  | [], [], _, _ => ⟨rfl, rfl⟩
  | [], y :: m, _, h2 => by
    have := h2 y List.mem_cons_self
    simp [List.takeWhile_cons, List.dropWhile_cons, this]
  | x :: l, m, h1, h2 => by
    have := h1 x List.mem_cons_self
    obtain ⟨h3, h4⟩ := take_app l m (fun z hz => h1 z (List.mem_cons_of_mem _ hz)) h2
    simp [List.takeWhile_cons, List.dropWhile_cons, this, h3, h4]
theorem mem_take {α : Type} {p : α → Bool} {x : α} : ∀ (l : List α), x ∈ l.takeWhile p → p x = true
  | [], h => by cases h
  | y :: l, h => by
    rw [List.takeWhile_cons] at h
    split at h
    · rename_i hy
      rcases List.mem_cons.1 h with e | e
      · rw [e]; exact hy
      · exact mem_take l e
    · cases h
theorem lineOf_back {tag : ByteArray} {l : List ByteArray} (h1 : isTag tag l = true) (h2 : (lineOf tag l).isSome = true) : ∃ y, lineOf tag l = some y ∧ entLn tag y = l := by
  obtain ⟨y, hy⟩ := Option.isSome_iff_exists.1 h2
  refine ⟨y, hy, ?_⟩
  unfold lineOf at hy
  split at hy
  · rename_i t p d
    split at hy
    · rename_i ht
      rw [Option.map_eq_some_iff] at hy
      obtain ⟨v, hv, rfl⟩ := hy
      have ht' : t = tag := by simpa [isTag] using h1
      have hd := parseD_back hv
      subst ht'
      show [t, p, (⟨(fmtL v).toArray⟩ : ByteArray)] = [t, p, d]
      rw [ba_of hd]
    · cases hy
  · cases hy
theorem lineOf_forth {tag : ByteArray} {y : E} (h : E32 y) : lineOf tag (entLn tag y) = some y := by
  unfold entLn lineOf
  have hd : AdP.parseD ((⟨(fmtL y.d).toArray⟩ : ByteArray).data.toList) = some y.d := AdP.parseD_fmt y.d h.1
  simp [hd]
theorem isTag_ent {tag tag' : ByteArray} (y : E) : isTag tag (entLn tag' y) = decide (tag' = tag) := rfl
end Go.AdR
namespace Go.Proofs.YtjdinakdkdjocaaGreatDoor
open Go Go.RowKit Go.Adm Go.AdR
theorem recParse_ls {ls : List (List ByteArray)} {x : Rec} (h : recParse ls = some x) : recLs x = ls := by
  unfold recParse at h
  split at h
  · rename_i t0 run scope step nu t1 cmd rest
    split at h
    · rename_i ht
      simp only [Bool.and_eq_true, decide_eq_true_eq] at ht
      split at h
      · rename_i k hk
        split at h
        · rename_i hok
          injection h with h
          subst h
          unfold tailOk at hok
          simp only [Bool.and_eq_true, List.isEmpty_iff] at hok
          obtain ⟨h1, h2, h3, h4⟩ := hok
          have hnu := (parse_back hk).1
          have e1 : ((rest.takeWhile (isTag envW)).filterMap varOf).map envLn = rest.takeWhile (isTag envW) := fm_back _ (fun l hl => by
            have q1 := mem_take _ hl
            have q2 := List.all_eq_true.1 h1 l hl
            obtain ⟨y, hy⟩ := Option.isSome_iff_exists.1 q2
            refine ⟨y, hy, ?_⟩
            unfold varOf at hy
            split at hy
            · rename_i t n v
              injection hy with hy
              subst hy
              have ht' : t = envW := by simpa [isTag] using q1
              subst ht'
              rfl
            · cases hy)
          have e2 : (((rest.dropWhile (isTag envW)).takeWhile (isTag matW)).filterMap (lineOf matW)).map (entLn matW) = (rest.dropWhile (isTag envW)).takeWhile (isTag matW) := fm_back _ (fun l hl => lineOf_back (mem_take _ hl) (List.all_eq_true.1 h2 l hl))
          have e3 : ((((rest.dropWhile (isTag envW)).dropWhile (isTag matW)).takeWhile (isTag proW)).filterMap (lineOf proW)).map (entLn proW) = ((rest.dropWhile (isTag envW)).dropWhile (isTag matW)).takeWhile (isTag proW) := fm_back _ (fun l hl => lineOf_back (mem_take _ hl) (List.all_eq_true.1 h3 l hl))
          have e4 : rest = rest.takeWhile (isTag envW) ++ ((rest.dropWhile (isTag envW)).takeWhile (isTag matW) ++ (((rest.dropWhile (isTag envW)).dropWhile (isTag matW)).takeWhile (isTag proW))) := by
            conv => lhs; rw [← List.takeWhile_append_dropWhile (p := isTag envW) (l := rest), ← List.takeWhile_append_dropWhile (p := isTag matW) (l := rest.dropWhile (isTag envW)), ← List.takeWhile_append_dropWhile (p := isTag proW) (l := (rest.dropWhile (isTag envW)).dropWhile (isTag matW)), h4, List.append_nil]
          show [[recW, run, scope, step, (⟨(Lib.itoa (k : Int)).toArray⟩ : ByteArray)], cmdW :: cmd] ++ ((rest.takeWhile (isTag envW)).filterMap varOf).map envLn ++ (((rest.dropWhile (isTag envW)).takeWhile (isTag matW)).filterMap (lineOf matW)).map (entLn matW) ++ ((((rest.dropWhile (isTag envW)).dropWhile (isTag matW)).takeWhile (isTag proW)).filterMap (lineOf proW)).map (entLn proW) = _
          have hnu' : (⟨(Lib.itoa (k : Int)).toArray⟩ : ByteArray) = nu := ba_of hnu
          rw [hnu', e1, e2, e3, ht.1, ht.2]
          conv => rhs; rw [e4]
          simp
        · cases h
      · cases h
    · cases h
  · cases h
theorem recParse_enc {x : Rec} (hb : recB x = true) (hm : ∀ e ∈ x.mat, E32 e) (hp : ∀ e ∈ x.prod, E32 e) : recParse (recLs x) = some x := by
  have ht : 0 ≤ x.t ∧ x.t ≤ 1099511627776 := by
    unfold recB at hb
    simp only [Bool.and_eq_true, Bool.not_eq_true', decide_eq_false_iff_not] at hb
    omega
  have hpn : parseS (Lib.itoa x.t) = some x.t.toNat := by
    have := parse_num x.t
    rw [if_pos ht] at this
    exact this
  have q1 : ∀ y ∈ x.mat.map (entLn matW) ++ x.prod.map (entLn proW), isTag envW y = false := by
    intro y hy
    rcases List.mem_append.1 hy with h | h
    · obtain ⟨e, _, rfl⟩ := List.mem_map.1 h
      exact (isTag_ent e).trans (by decide)
    · obtain ⟨e, _, rfl⟩ := List.mem_map.1 h
      exact (isTag_ent e).trans (by decide)
  have q2 : ∀ y ∈ x.prod.map (entLn proW), isTag matW y = false := by
    intro y hy
    obtain ⟨e, _, rfl⟩ := List.mem_map.1 hy
    exact (isTag_ent e).trans (by decide)
  have t1 := take_app (p := isTag envW) (x.env.map envLn) (x.mat.map (entLn matW) ++ x.prod.map (entLn proW)) (fun y hy => by obtain ⟨e, _, rfl⟩ := List.mem_map.1 hy; exact (by decide : decide ((⟨#[101, 110, 118]⟩ : ByteArray) = envW) = true)) q1
  have t2 := take_app (p := isTag matW) (x.mat.map (entLn matW)) (x.prod.map (entLn proW)) (fun y hy => by obtain ⟨e, _, rfl⟩ := List.mem_map.1 hy; exact (isTag_ent e).trans (by decide)) q2
  have t3 := take_app (p := isTag proW) (x.prod.map (entLn proW)) [] (fun y hy => by obtain ⟨e, _, rfl⟩ := List.mem_map.1 hy; exact (isTag_ent e).trans (by decide)) (fun y hy => by cases hy)
  rw [List.append_nil] at t3
  have f1 : (x.env.map envLn).filterMap varOf = x.env := fm_forth _ (fun y _ => rfl)
  have f2 : (x.mat.map (entLn matW)).filterMap (lineOf matW) = x.mat := fm_forth _ (fun y hy => lineOf_forth (hm y hy))
  have f3 : (x.prod.map (entLn proW)).filterMap (lineOf proW) = x.prod := fm_forth _ (fun y hy => lineOf_forth (hp y hy))
  have hls : recLs x = [recW, x.run, x.scope, x.step, (⟨(Lib.itoa x.t).toArray⟩ : ByteArray)] :: (cmdW :: x.cmd) :: (x.env.map envLn ++ (x.mat.map (entLn matW) ++ x.prod.map (entLn proW))) := by
    show [[recW, x.run, x.scope, x.step, (⟨(Lib.itoa x.t).toArray⟩ : ByteArray)], cmdW :: x.cmd] ++ x.env.map envLn ++ x.mat.map (entLn matW) ++ x.prod.map (entLn proW) = _
    simp
  rw [hls, recParse]
  have hok : tailOk (x.env.map envLn ++ (x.mat.map (entLn matW) ++ x.prod.map (entLn proW))) = true := by
    unfold tailOk
    rw [t1.1, t1.2, t2.1, t2.2, t3.1, t3.2]
    simp only [Bool.and_eq_true, List.all_eq_true, List.isEmpty_nil, and_true]
    refine ⟨fun l hl => ?_, fun l hl => ?_, fun l hl => ?_⟩
    · obtain ⟨e, _, rfl⟩ := List.mem_map.1 hl
      rfl
    · obtain ⟨e, he, rfl⟩ := List.mem_map.1 hl
      rw [lineOf_forth (hm e he)]; rfl
    · obtain ⟨e, he, rfl⟩ := List.mem_map.1 hl
      rw [lineOf_forth (hp e he)]; rfl
  have htr : tailR x.run x.scope x.step (x.t.toNat : Int) x.cmd (x.env.map envLn ++ (x.mat.map (entLn matW) ++ x.prod.map (entLn proW))) = x := by
    unfold tailR
    rw [t1.1, t1.2, t2.1, t2.2, t3.1, f1, f2, f3, Int.toNat_of_nonneg ht.1]
  have hpn' : parseS (⟨(Lib.itoa x.t).toArray⟩ : ByteArray).data.toList = some x.t.toNat := hpn
  rw [hpn']
  simp only [hok, htr]
  simp
end Go.Proofs.YtjdinakdkdjocaaGreatDoor
