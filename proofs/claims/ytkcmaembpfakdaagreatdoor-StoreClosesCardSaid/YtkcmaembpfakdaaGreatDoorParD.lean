/- Texts of digests are read: the plain part. -/
import Derived.Test.YtkcmaembpfakdaaGreatDoorNum1
import Derived.Test.YtkcmaembpfakdaaGreatDoorGen2
import Derived.Lib.Strings
import Derived.Lib.Bytealg
set_option linter.unusedSimpArgs false
set_option linter.unusedVariables false
set_option maxRecDepth 100000
namespace Go.AdP
open Go Go.RowKit Go.Adm
theorem results_row_tmp {P : Program} {fn : Func} {p q : Tmp} {ty : TypeId} (h : fn.results = #[.cell p ty, .tmp q]) (tmps : Array Value) (w : World) (g : Nat) (t : TypeId) (cs : Array Value) (fr : Nat × Nat) (d : TypeDesc)
    (hp : tmps.getD p undef = .pointer (some ⟨g, 0, none⟩)) (hg : w.heap[g]? = some (.cells cs t fr))
    (hu : P.underlying ty = some d) (hd : (match d with | .struct _ | .array _ _ => true | _ => false) = true) (hi : (P.info? ty).map (·.size) = some cs.size) :
    (results fn tmps).run P w = .ok (.tuple #[.agg cs, tmps.getD q undef]) w := by
  have hp' : tmps[p]?.getD undef = .pointer (some ⟨g, 0, none⟩) := by simpa using hp
  simp [results, h, hp', asAddr, run_loadVar_row w g t ty cs fr d hg hu hd hi]
def z32 : List UInt8 := List.replicate 32 0
def hexv (c : UInt8) : Nat := if 48 ≤ c.toNat ∧ c.toNat ≤ 57 then c.toNat - 48 else if 97 ≤ c.toNat ∧ c.toNat ≤ 102 then c.toNat - 87 else 16
theorem hexv_le (c : UInt8) : hexv c ≤ 16 := by unfold hexv; split <;> (try split) <;> omega
def hexi (c : UInt8) : Int := if hexv c = 16 then -1 else (hexv c : Int)
theorem all_u8 {P : UInt8 → Prop} (h : ∀ n : Fin 256, P (UInt8.ofNat n.val)) (c : UInt8) : P c := by
  have := h ⟨c.toNat, c.toNat_lt⟩
  rwa [show UInt8.ofNat c.toNat = c from UInt8.toNat_inj.1 (by rw [UInt8.toNat_ofNat']; exact Nat.mod_eq_of_lt c.toNat_lt)] at this
theorem hexi_idx (c : UInt8) : Lib.indexByte hexTl.data.toList c = hexi c := all_u8 (P := fun c => Lib.indexByte hexTl.data.toList c = hexi c) (by decide +kernel) c
theorem hexv_up (c : UInt8) : hexv (hexl (c >>> 4)) = c.toNat / 16 := all_u8 (P := fun c => hexv (hexl (c >>> 4)) = c.toNat / 16) (by decide +kernel) c
theorem hexv_low (c : UInt8) : hexv (hexl (c &&& 15)) = c.toNat % 16 := all_u8 (P := fun c => hexv (hexl (c &&& 15)) = c.toNat % 16) (by decide +kernel) c
def pairB (s : List UInt8) (i : Nat) : Bool := hexv (s.getD (2 * i) 0) != 16 && hexv (s.getD (2 * i + 1) 0) != 16
def pairV (s : List UInt8) (i : Nat) : UInt8 := UInt8.ofNat (16 * hexv (s.getD (2 * i) 0) + hexv (s.getD (2 * i + 1) 0))
def unhexS (n : Nat) (s : List UInt8) : Option (List UInt8) := if s.length = 2 * n ∧ (List.range n).all (pairB s) = true then some ((List.range n).map (pairV s)) else none
theorem unhexS_len {n : Nat} {s : List UInt8} (h : s.length ≠ 2 * n) : unhexS n s = none := by unfold unhexS; rw [if_neg (fun h' => h h'.1)]
theorem unhexS_bad {n : Nat} {s : List UInt8} {k : Nat} (hk : k < n) (h : pairB s k = false) : unhexS n s = none := by
  unfold unhexS
  rw [if_neg]
  rintro ⟨_, h'⟩
  rw [List.all_eq_true] at h'
  have := h' k (List.mem_range.2 hk)
  rw [h] at this
  cases this
theorem unhexS_good {n : Nat} {s : List UInt8} (hl : s.length = 2 * n) (h : ∀ i < n, pairB s i = true) : unhexS n s = some ((List.range n).map (pairV s)) := by
  unfold unhexS
  rw [if_pos ⟨hl, by rw [List.all_eq_true]; intro x hx; exact h x (List.mem_range.1 hx)⟩]
theorem unhexS_32 {s v : List UInt8} {n : Nat} (h : unhexS n s = some v) : v.length = n := by
  unfold unhexS at h
  split at h
  · obtain rfl := Option.some.inj h; simp
  · cases h
theorem hexL_at : ∀ (d : List UInt8) (i : Nat) (h : i < d.length), (hexL d).getD (2 * i) 0 = hexl (d[i] >>> 4) ∧ (hexL d).getD (2 * i + 1) 0 = hexl (d[i] &&& 15)
  | [], i, h => absurd h (by simp)
  | b :: d, 0, h => ⟨rfl, rfl⟩
  | b :: d, i + 1, h => by
    have := hexL_at d i (by simpa using h)
    rw [show 2 * (i + 1) + 1 = (2 * i + 1) + 2 from by omega, show 2 * (i + 1) = 2 * i + 2 from by omega]
    exact this
theorem unhex_hex (d : List UInt8) : unhexS d.length (hexL d) = some d := by
  have key : ∀ i (h : i < d.length), pairB (hexL d) i = true ∧ pairV (hexL d) i = d[i] := fun i h => by
    obtain ⟨h1, h2⟩ := hexL_at d i h
    have h3 := d[i].toNat_lt
    constructor
    · unfold pairB
      rw [h1, h2, hexv_up, hexv_low]
      simp
      omega
    · unfold pairV
      rw [h1, h2, hexv_up, hexv_low]
      apply UInt8.toNat_inj.1
      rw [UInt8.toNat_ofNat']
      omega
  rw [unhexS_good (hexL_len d) (fun i hi => (key i hi).1)]
  congr 1
  apply List.ext_getElem
  · simp
  · intro i h1 h2
    simp only [List.getElem_map, List.getElem_range]
    exact (key i h2).2
/-- the digest of a text -/
def parseD (s : List UInt8) : Option (List UInt8) := if s.take 7 = prefL then unhexS 32 (s.drop 7) else none
theorem parseD_fmt (d : List UInt8) (h : d.length = 32) : parseD (fmtL d) = some d := by
  unfold parseD fmtL
  rw [List.take_left' (by rfl), if_pos rfl, List.drop_left' (by rfl), ← h]
  exact unhex_hex d
theorem parseD_32 {s v : List UInt8} (h : parseD s = some v) : v.length = 32 := by
  unfold parseD at h
  split at h
  · exact unhexS_32 h
  · cases h
theorem parseD_len {s : List UInt8} (h : s.length ≠ 71) : parseD s = none := by
  unfold parseD
  split
  · next h1 =>
    apply unhexS_len
    have := congrArg List.length h1
    rw [List.length_take] at this
    simp [prefL] at this
    rw [List.length_drop]
    omega
  · rfl
theorem take_set (l : List UInt8) (k : Nat) (v : UInt8) (h : k < l.length) : (l.set k v).take (k + 1) = l.take k ++ [v] := by
  rw [List.take_succ_eq_append_getElem (by simpa using h), List.take_set_of_le (Nat.le_refl k), List.getElem_set_self]
theorem range_snoc (s : List UInt8) (k : Nat) : (List.range (k + 1)).map (pairV s) = (List.range k).map (pairV s) ++ [pairV s k] := by rw [List.range_succ, List.map_append]; rfl
theorem hexi_neg {c : UInt8} (h : decide (hexi c < 0) = true) : hexv c = 16 := by
  have := of_decide_eq_true h
  unfold hexi at this
  split at this
  · assumption
  · omega
theorem hexi_pos {c : UInt8} (h : decide (hexi c < 0) = false) : hexi c = (hexv c : Int) ∧ hexv c < 16 := by
  have h1 := of_decide_eq_false h
  have h2 := hexv_le c
  unfold hexi at h1 ⊢
  split at h1
  · omega
  · next h3 => rw [if_neg h3]; exact ⟨rfl, by omega⟩
theorem Cells.under {w w' : World} {g B : Nat} {t : TypeId} {cs : List Value} (h : Cells w g t cs) (hb : Below B w w') (hg : g < B) : Cells w' g t cs := by
  unfold Cells at h ⊢
  rw [hb.block g hg]
  exact h
def parsed (s : List UInt8) : List UInt8 := (parseD s).getD z32
theorem parsed_len (s : List UInt8) : (parsed s).length = 32 := by
  unfold parsed
  cases h : parseD s with
  | none => rfl
  | some v => exact parseD_32 h
theorem parseD_pre {s : List UInt8} (h : Lib.hasPrefix s prefL = true) : parseD s = unhexS 32 (s.drop 7) := by
  rw [← Lib.hasPrefix_of_take, Bool.and_eq_true] at h
  unfold parseD
  rw [if_pos (by simpa [prefL] using h.2)]
theorem parseD_not {s : List UInt8} (h : Lib.hasPrefix s prefL = false) : parseD s = none := by
  unfold parseD
  rw [if_neg]
  intro h1
  have : Lib.hasPrefix s prefL = true := by
    rw [← Lib.hasPrefix_of_take, Bool.and_eq_true]
    have h2 := congrArg List.length h1
    rw [List.length_take] at h2
    refine ⟨by simp [prefL] at h2 ⊢; omega, ?_⟩
    rw [show prefL.length = 7 from rfl, h1]
    simp
  rw [h] at this
  cases this
theorem extract_pre (s : ByteArray) : (s.size = 71 → ((s.extract 0 7).toList == [115, 104, 97, 50, 53, 54, 58]) = false → Lib.hasPrefix s.data.toList prefL = false) ∧ (s.size = 71 → ((s.extract 0 7).toList == [115, 104, 97, 50, 53, 54, 58]) = true → Lib.hasPrefix s.data.toList prefL = true) := by
  have h := Lib.hasPrefix_raw s ⟨#[115, 104, 97, 50, 53, 54, 58]⟩
  rw [show (⟨#[115, 104, 97, 50, 53, 54, 58]⟩ : ByteArray).toList = [115, 104, 97, 50, 53, 54, 58] from by rw [ByteArray.toList_eq]] at h
  constructor
  · intro h1 h2
    rw [show prefL = (⟨#[115, 104, 97, 50, 53, 54, 58]⟩ : ByteArray).data.toList from rfl, ← h]
    rw [show (⟨#[115, 104, 97, 50, 53, 54, 58]⟩ : ByteArray).size = 7 from rfl]
    rw [h2, Bool.and_false]
  · intro h1 h2
    rw [show prefL = (⟨#[115, 104, 97, 50, 53, 54, 58]⟩ : ByteArray).data.toList from rfl, ← h]
    rw [show (⟨#[115, 104, 97, 50, 53, 54, 58]⟩ : ByteArray).size = 7 from rfl]
    rw [h2, Bool.and_true, decide_eq_true (by omega)]
theorem copyT_set (v : List UInt8) (h : v.length = 32) (k : Nat) (hk : k < 32) : (v.take k ++ List.replicate (32 - k) 0).set k (v[k]'(by omega)) = v.take (k + 1) ++ List.replicate (32 - (k + 1)) 0 := by
  rw [List.set_append_right _ _ (by rw [List.length_take]; omega), List.take_succ_eq_append_getElem (by omega), List.append_assoc]
  congr 1
  rw [List.length_take, Nat.min_eq_left (by omega), Nat.sub_self, show 32 - k = (32 - (k + 1)) + 1 from by omega, List.replicate_succ, List.set_cons_zero]
  rfl
theorem extract_rest (s : ByteArray) : (s.extract 7 s.size).data.toList = s.data.toList.drop 7 := by
  rw [ByteArray.data_extract]
  show (s.data.extract 7 s.data.size).toList = _
  rw [Array.toList_extract]
  simp only [List.extract_eq_take_drop]
  rw [List.take_of_length_le]
  rw [List.length_drop]
  exact Nat.le_refl _
end Go.AdP
