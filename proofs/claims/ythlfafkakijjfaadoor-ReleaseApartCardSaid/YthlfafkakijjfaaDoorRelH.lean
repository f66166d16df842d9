/- Releases: which are valid, their encoded forms. -/
import Derived.Test.YthlfafkakijjfaaDoorRel4
import Derived.Test.YthlfafkakijjfaaDoorDoc2
set_option linter.unusedSimpArgs false
set_option linter.unusedVariables false
set_option maxRecDepth 100000
namespace Go.Adm
open Go Go.RowKit Go.AdP
theorem wl_met {P : Program} {ops : Array Oper} {rest : List Oper} {o : Oper} {a : Act} {w : World} {Q : Exit → Act → World → Prop} (hw : Region.wanted o (yielded ops a.tmps) = true)
    (h : o.wp P a w (wpList P ops Q rest) Q) : wpList P ops Q (o :: rest) a w := by
  unfold wpList
  rw [if_pos hw]
  exact .inl h
theorem wl_met_load {P : Program} {ops : Array Oper} {rest : List Oper} {op : Oper} {a : Act} {w : World} {Q : Exit → Act → World → Prop} (ty : TypeId) (x : Operand) (ho : op.op = .load ty x)
    (ad : Addr) (hx : a.eval x = .pointer (some ad)) (cs : List Value) (d : TypeDesc) (hc : ∀ j u, cs[j]? = some u → w.cell? (ad.add j) = some u)
    (hu : P.underlying ty = some d) (hd : d.isRow = true) (hi : (P.info? ty).map (·.size) = some cs.length) (hw : Region.wanted op (yielded ops a.tmps) = true) (h : wpList P ops Q rest (a.put op.dst (.agg cs.toArray)) w) : wpList P ops Q (op :: rest) a w :=
  wl_met hw (wp_load_any ty x ho ad hx cs d hc hu hd hi h)
structure Rls where
  a : List UInt8
  d : List UInt8
  l : ByteArray
  r : ByteArray
  c : List UInt8
  t : Int
def rlsC (x : Rls) : List Value := x.a.map bv ++ (x.d.map bv ++ ([.string x.l, .string x.r] ++ (x.c.map bv ++ [.int .i64 x.t])))
structure Rls.Ok (x : Rls) : Prop where
  a : x.a.length = 32
  d : x.d.length = 32
  c : x.c.length = 32
theorem rls_len (x : Rls) (h : x.Ok) : (rlsC x).length = 99 := by simp [rlsC, h.a, h.d, h.c]
theorem rls_a (x : Rls) (h : x.Ok) : ((rlsC x).drop 0).take 32 = x.a.map bv := by
  rw [List.drop_zero]; unfold rlsC; exact List.take_left' (by rw [List.length_map, h.a])
theorem rls_d (x : Rls) (h : x.Ok) : ((rlsC x).drop 32).take 32 = x.d.map bv := by
  unfold rlsC
  rw [List.drop_left' (by rw [List.length_map, h.a]), List.take_left' (by rw [List.length_map, h.d])]
theorem rls_64 (x : Rls) (h : x.Ok) : (rlsC x).drop 64 = [.string x.l, .string x.r] ++ (x.c.map bv ++ [.int .i64 x.t]) := by
  unfold rlsC
  rw [show 64 = 32 + 32 from rfl, ← List.drop_drop, List.drop_left' (by rw [List.length_map, h.a]), List.drop_left' (by rw [List.length_map, h.d])]
theorem rls_c (x : Rls) (h : x.Ok) : ((rlsC x).drop 66).take 32 = x.c.map bv := by
  rw [show 66 = 64 + 2 from rfl, ← List.drop_drop, rls_64 x h]
  show (x.c.map bv ++ [Value.int .i64 x.t]).take 32 = _
  exact List.take_left' (by rw [List.length_map, h.c])
theorem rls_l (x : Rls) (h : x.Ok) : (rlsC x)[64]? = some (.string x.l) := by
  have := congrArg (fun l => l[0]?) (rls_64 x h)
  simpa using this
theorem rls_r (x : Rls) (h : x.Ok) : (rlsC x)[65]? = some (.string x.r) := by
  have := congrArg (fun l => l[1]?) (rls_64 x h)
  simpa using this
theorem rls_t (x : Rls) (h : x.Ok) : (rlsC x)[98]? = some (.int .i64 x.t) := by
  have := congrArg (fun l => l[34]?) (rls_64 x h)
  simp only [List.getElem?_drop] at this
  rw [this, List.getElem?_append_right (by simp), List.getElem?_append_right (by simp [h.c])]
  simp [h.c]
theorem rls_one (x : Rls) : ∀ v ∈ rlsC x, v.oneCell' = true := by
  intro v hv
  unfold rlsC at hv
  simp only [List.mem_append] at hv
  rcases hv with hv | hv | hv | hv | hv
  · exact bv_one _ v hv
  · exact bv_one _ v hv
  · simp at hv; rcases hv with rfl | rfl <;> rfl
  · exact bv_one _ v hv
  · simp at hv; subst hv; rfl
def rlsW : ByteArray := ⟨#[114, 101, 108, 101, 97, 115, 101]⟩
/-- the document of a release -/
def rlsL (x : Rls) : List (List ByteArray) := [[⟨#[114, 101, 108, 101, 97, 115, 101]⟩, ⟨(fmtL x.a).toArray⟩, ⟨(fmtL x.d).toArray⟩, x.l, x.r, ⟨(fmtL x.c).toArray⟩, ⟨(Lib.itoa x.t).toArray⟩]]
end Go.Adm
namespace Go.Proofs.YthlfafkakijjfaaDoor
open Go Go.RowKit Go.Adm Go.AdP
noncomputable def rlsB (x : Rls) : Bool := nameB x.l && (nameB x.r && (!decide (x.a = z32) && (!decide (x.d = z32) && (!decide (x.c = z32) && (decide (0 ≤ x.t) && decide (x.t ≤ 1099511627776))))))
end Go.Proofs.YthlfafkakijjfaaDoor
