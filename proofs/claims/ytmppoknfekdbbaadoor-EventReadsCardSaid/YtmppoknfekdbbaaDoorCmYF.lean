/-
  The clean machine, part YF: what a row lists of package variables ('laid'), as cells in the clean heap: arrays of whole numbers and of strings.
-/
import Derived.Test.YtmppoknfekdbbaaDoorCmYE
import Derived.OpenShut
import GoSem.ClaimJoined
namespace Go.Proofs.YtmppoknfekdbbaaDoor.Cm
open Go.RowKit Go.ChangeShapes

section
variable {P : Program} {w : World}

theorem laid_mem : ∀ {laid : List (String × DataW Unit)} {ps : List MemPlace}, DataW.LaidVars P w laid ps → ∀ x ∈ laid, ∃ g t cs fuel p, P.globalNamed x.1 = some g ∧ (P.globals[g]?).map (·.type) = some t ∧ w.var? P x.1 = some cs ∧ DataW.trod (fun _ => ()) P w 0 (fun _ => true) false fuel t cs.toList = some (x.2, p)
  | [], _, _, x, m => by simp at m
  | (n, d) :: r, ps, h, x, m => by
    obtain ⟨g, t, cs, fuel, p, q, h1, h2, h3, h4, h5, _⟩ := h
    rcases List.mem_cons.1 m with rfl | m
    · exact ⟨g, t, cs, fuel, p, h1, h2, h3, h4⟩
    · exact laid_mem h5 x m

theorem var_block {n : String} {g : Nat} {cs : Array Value} (hg : P.globalNamed n = some g) (h : w.var? P n = some cs) : ∃ el fz, w.heap[g]? = some (.cells cs el fz) := by
  simp only [World.var?, hg, Option.bind_some] at h
  split at h
  · next hb => simp only [Option.some.injEq] at h; subst h; exact ⟨_, _, hb⟩
  · simp at h

/-- An array of scalars that reads so. -/
theorem arr_cells {H : Type} {enc : TypeId × Value → H} {base : Nat} {spare : Nat → Bool} {held : Bool} {t e n fuel : Nat} {cs : List Value} {p : List MemPlace} {ds : List (DataW H)} (ht : P.underlying t = some (.array n e)) (hc : P.cellsOf e = 1)
    (h : DataW.trod enc P w base spare held fuel t cs = some (.agg ds, p)) : ds.length = n ∧ cs.length = P.cellsOf t ∧ ∀ i (hi : i < ds.length), ∃ m q, DataW.trod enc P w base spare held m e ((cs.drop i).take 1) = some (ds[i], q) := by
  obtain ⟨xs, m, _, hx, hl, hn, hel⟩ := DataW.trod_array ht h
  simp only [Prod.mk.injEq, DataW.agg.injEq] at hx
  obtain ⟨rfl, _⟩ := hx
  refine ⟨by rw [List.length_map, hn], hl, fun i hi => ?_⟩
  rw [List.length_map] at hi
  have := hel i (by omega)
  rw [hc, Nat.mul_one, List.getElem?_eq_getElem hi] at this
  exact ⟨m, (xs[i]).2, by rw [this, List.getElem_map]⟩

theorem laid_ints {laid : List (String × DataW Unit)} {ps : List MemPlace} (L : DataW.LaidVars P w laid ps) {name : String} {zs : List Int} {k : IntKind} (hm : (name, DataW.agg (zs.map fun z => .lit (.int k z))) ∈ laid) {g t e n glb : Nat} (hg : P.globalNamed name = some g) (htt : (P.globals[g]?).map (·.type) = some t)
    (ht : P.underlying t = some (.array n e)) (he : P.underlying e = some (.int k)) (hc : P.cellsOf e = 1) : ∃ C el fz, w.heap[g]? = some (.cells C el fz) ∧ CellsR (Emb.globs glb) (zs.map (CVal.int k)) C 0 := by
  obtain ⟨g', t', cs, fuel, p, h1, h2, h3, h4⟩ := laid_mem L _ hm
  obtain rfl := Option.some.inj (hg.symm.trans h1)
  obtain rfl := Option.some.inj (htt.symm.trans h2)
  obtain ⟨el, fz, hb⟩ := var_block hg h3
  refine ⟨cs, el, fz, hb, fun j v hv => ?_⟩
  obtain ⟨hl, _, each⟩ := arr_cells ht hc h4
  rw [List.getElem?_map] at hv
  cases hq : zs[j]? with
  | none => rw [hq] at hv; simp at hv
  | some z =>
    rw [hq] at hv
    simp only [Option.map_some, Option.some.injEq] at hv
    subst hv
    obtain ⟨hj, hz⟩ := List.getElem?_eq_some_iff.1 hq
    obtain ⟨m, q, hd⟩ := each j (by rw [List.length_map]; exact hj)
    obtain ⟨r, hr, hx, _⟩ := DataW.trod_int he hd
    simp only [List.getElem_map, hz, Prod.mk.injEq, DataW.lit.injEq, Lit.int.injEq] at hx
    obtain ⟨⟨_, rfl⟩, _⟩ := hx
    refine ⟨rfl, .int k z, ?_, .int k z⟩
    have : (cs.toList.drop j)[0]? = some (.int k z) := by
      have := congrArg (·[0]?) hr
      simpa [List.getElem?_take] using this
    rw [List.getElem?_drop] at this
    simpa using this

theorem laid_strs {laid : List (String × DataW Unit)} {ps : List MemPlace} (L : DataW.LaidVars P w laid ps) {name : String} {zs : List (List UInt8)} (hm : (name, DataW.agg (zs.map fun z => .lit (.string z))) ∈ laid) {g t e n glb : Nat} (hg : P.globalNamed name = some g) (htt : (P.globals[g]?).map (·.type) = some t)
    (ht : P.underlying t = some (.array n e)) (he : P.underlying e = some .string) (hc : P.cellsOf e = 1) : ∃ C el fz, w.heap[g]? = some (.cells C el fz) ∧ CellsR (Emb.globs glb) (zs.map CVal.str) C 0 := by
  obtain ⟨g', t', cs, fuel, p, h1, h2, h3, h4⟩ := laid_mem L _ hm
  obtain rfl := Option.some.inj (hg.symm.trans h1)
  obtain rfl := Option.some.inj (htt.symm.trans h2)
  obtain ⟨el, fz, hb⟩ := var_block hg h3
  refine ⟨cs, el, fz, hb, fun j v hv => ?_⟩
  obtain ⟨hl, _, each⟩ := arr_cells ht hc h4
  rw [List.getElem?_map] at hv
  cases hq : zs[j]? with
  | none => rw [hq] at hv; simp at hv
  | some z =>
    rw [hq] at hv
    simp only [Option.map_some, Option.some.injEq] at hv
    subst hv
    obtain ⟨hj, hz⟩ := List.getElem?_eq_some_iff.1 hq
    obtain ⟨m, q, hd⟩ := each j (by rw [List.length_map]; exact hj)
    obtain ⟨s, hr, hx, _⟩ := DataW.trod_string he hd
    simp only [List.getElem_map, hz, Prod.mk.injEq, DataW.lit.injEq, Lit.string.injEq] at hx
    obtain ⟨rfl, _⟩ := hx
    refine ⟨rfl, .string s, ?_, .str s⟩
    have : (cs.toList.drop j)[0]? = some (.string s) := by
      have := congrArg (·[0]?) hr
      simpa [List.getElem?_take] using this
    rw [List.getElem?_drop] at this
    simpa using this
end
end Go.Proofs.YtmppoknfekdbbaaDoor.Cm
