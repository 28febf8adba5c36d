/-
  The clean machine, part G: building, making, maps, conversions of bytes, append, copy, calls.
-/
import Derived.Test.YtmppoknfekdbbaaDoorCmXF
namespace Go.Proofs.YtmppoknfekdbbaaDoor.Cm
open Go.RowKit

section
variable {P : Program} {K : Ctx} {ι : Emb} {h : Heap} {w : World} {a : List CVal} {A : Act}

/-! ### build -/

theorem putCells_zipIdx (us : List Value) : ∀ (off k : Nat) (cs : Array Value), ((us.toArray.zipIdx k).foldl (fun cs (c, j) => cs.setIfInBounds (off + j) c) cs) = ((us.zipIdx k).foldl (fun cs (c, j) => cs.setIfInBounds (off + j) c) cs) := by
  intro off k cs
  rw [← Array.foldl_toList]
  simp

def putV (vs : List Value) (o : Nat) : List Value → List Value
  | [] => vs
  | u :: us => putV (vs.set o u) (o + 1) us

theorem foldl_putV (us : List Value) : ∀ (off k : Nat) (cs : Array Value), ((us.zipIdx k).foldl (fun cs (c, j) => cs.setIfInBounds (off + j) c) cs).toList = putV cs.toList (off + k) us := by
  induction us with
  | nil => intro off k cs; rfl
  | cons u us ih =>
    intro off k cs
    simp only [List.zipIdx_cons, List.foldl_cons]
    rw [ih, putV]
    simp [Nat.add_assoc]

theorem VRs.put {us : List CVal} {us' : List Value} (hu : VRs ι us us') : ∀ {vs : List CVal} {vs' : List Value} (o : Nat), VRs ι vs vs' → VRs ι (putCells vs o us) (putV vs' o us') := by
  induction us generalizing us' with
  | nil => intro vs vs' o hv; cases hu; exact hv
  | cons u us ih =>
    intro vs vs' o hv
    cases hu with
    | cons _ _ u' us' h1 h2 => exact ih h2 (o + 1) (hv.set h1 o)

theorem fill_sim {place : Nat → Option (Nat × Nat)} : ∀ (ps : List (Nat × Nat × CVal)) (qs : List (Nat × Value)) (cs : List CVal) (cs' : Array Value), ps.length = qs.length →
    (∀ (j : Nat) (p : Nat × Nat × CVal) (q : Nat × Value), ps[j]? = some p → qs[j]? = some q → place q.1 = some (p.1, p.2.1) ∧ VR ι p.2.2 q.2) → VRs ι cs cs'.toList → ∀ r, fillC cs ps = some r → ∃ r', Instr.fill place cs' qs = some r' ∧ VRs ι r r'.toList
  | [], [], cs, cs', _, _, R, r, e => by simp [fillC] at e; subst e; exact ⟨cs', rfl, R⟩
  | (off, n, v) :: ps, (i, v') :: qs, cs, cs', hl, hp, R, r, e => by
    obtain ⟨h1, h2⟩ := hp 0 _ _ rfl rfl
    simp only [fillC] at e
    split at e
    · next us hus =>
      split at e
      · next hc =>
        obtain ⟨Ru, _⟩ := h2.cells hus
        have hlen := Ru.length
        have hlen' := R.length
        simp at hlen hlen'
        have hfold : ((v'.cells.zipIdx.foldl (fun cs (c, j) => cs.setIfInBounds (off + j) c) cs')).toList = putV cs'.toList off v'.cells.toList := by
          have := foldl_putV v'.cells.toList off 0 cs'
          rw [← putCells_zipIdx] at this
          simpa using this
        have R' : VRs ι (putCells cs off us) (v'.cells.zipIdx.foldl (fun cs (c, j) => cs.setIfInBounds (off + j) c) cs').toList := by
          rw [hfold]; exact Ru.put off R
        obtain ⟨r', h3, h4⟩ := fill_sim ps qs _ _ (by simpa using hl) (fun j p q hpj hqj => hp (j + 1) p q (by simpa using hpj) (by simpa using hqj)) R' r e
        refine ⟨r', ?_, h4⟩
        simp only at h1
        simp only [Instr.fill, h1]
        have e1 : v'.cells.size = n := by rw [← hlen]; exact hc.1
        have e2 : off + n ≤ cs'.size := by rw [← hlen']; exact hc.2
        rw [if_neg (by simp only [e1, Bool.or_eq_true, decide_eq_true_eq, ne_eq, not_true_eq_false, false_or]; omega)]
        exact h3
      · simp at e
    · simp at e

/-- The parts of a build, compiled. -/
def partsOk (place : Nat → Option (Nat × Nat)) : List (Nat × Operand) → Option (List (Nat × Nat × CX))
  | [] => some []
  | (i, X) :: ps => match place i, compX X, partsOk place ps with
    | some (off, n), some x, some qs => some ((off, n, x) :: qs)
    | _, _, _ => none

theorem parts_rel (H : Inv K ι h w) {place : Nat → Option (Nat × Nat)} : ∀ (ps : List (Nat × Operand)) (qs : List (Nat × Nat × CX)), partsOk place ps = some qs → (∀ t, Operand.tmp t ∈ ps.map (·.2) → TmpR ι a A t) → (∀ p ∈ ps, globOk K.glb p.2 = true) →
    (qs.map fun p => (p.1, p.2.1, p.2.2.ev a)).length = (ps.map fun p => (p.1, A.eval p.2)).length ∧
    ∀ (j : Nat) (p : Nat × Nat × CVal) (q : Nat × Value), (qs.map fun p => (p.1, p.2.1, p.2.2.ev a))[j]? = some p → (ps.map fun p => (p.1, A.eval p.2))[j]? = some q → place q.1 = some (p.1, p.2.1) ∧ VR ι p.2.2 q.2
  | [], qs, e, _, _ => by simp [partsOk] at e; subst e; simp
  | (i, X) :: ps, qs, e, R, hg => by
    simp only [partsOk] at e
    split at e
    · next off n x rest h1 h2 h3 =>
      simp at e; subst e
      obtain ⟨hl, hr⟩ := parts_rel H ps rest h3 (fun t ht => R t (by simp only [List.map_cons, List.mem_cons]; exact .inr ht)) (fun p hp => hg p (by simp [hp]))
      refine ⟨by simpa using hl, fun j p q hp hq => ?_⟩
      cases j with
      | zero =>
        simp at hp hq; subst hp; subst hq
        exact ⟨h1, H.ev' h2 (fun t e => R t (by simp [e])) (hg (i, X) (by simp))⟩
      | succ j => exact hr j p q (by simpa using hp) (by simpa using hq)
    · simp at e

theorem sim_build (H : Inv K ι h w) {t : TypeId} {place : Nat → Option (Nat × Nat)} {zv : Value} (hz : (zeroValue t).run P w = .ok zv w) {zero : List CVal} (Rz : VRs ι zero zv.cells.toList) {parts : Array (Nat × Operand)} {qs : List (Nat × Nat × CX)}
    (hp : (qs.map fun p => (p.1, p.2.1, p.2.2.ev a)).length = (parts.toList.map fun p => (p.1, A.eval p.2)).length ∧
      ∀ (j : Nat) (p : Nat × Nat × CVal) (q : Nat × Value), (qs.map fun p => (p.1, p.2.1, p.2.2.ev a))[j]? = some p → (parts.toList.map fun p => (p.1, A.eval p.2))[j]? = some q → place q.1 = some (p.1, p.2.1) ∧ VR ι p.2.2 q.2)
    (hb : ∀ (ps : Array (Nat × Value)) r, Instr.fill place zv.cells ps.toList = some r → (Instr.build t ps).run P w = .ok (.agg r) w) {o : Oper} (ho : o.op = .build t parts)
    {r : CRes} {h' : Heap} (e : cop (.build zero qs) a h = some (r, h')) : OutQ P ι h r h' (execOp A.eval o) w := by
  have _ := hz
  simp only [cop] at e
  split at e
  · next cs hcs =>
    simp at e; obtain ⟨rfl, rfl⟩ := e
    obtain ⟨r', h1, h2⟩ := fill_sim _ _ zero zv.cells hp.1 hp.2 Rz cs hcs
    refine out_val H (v' := .agg r') ?_ (.agg _ _ h2)
    have := hb (parts.map fun (i, x) => (i, A.eval x)) r' (by simpa using h1)
    simp [execOp, ho, this, Result.andThen]
  · simp at e

theorem build_run_struct {t : TypeId} {fields : Array Field} {zv : Value} (hz : (zeroValue t).run P w = .ok zv w) (ht : P.underlying t = some (.struct fields)) {places : Array (Nat × Nat)} (hpl : (fields.mapM (fun f => do pure (f.offset, ← sizeOf f.type) : Field → Sem (Nat × Nat))).run P w = .ok places w) (ps : Array (Nat × Value)) (r : Array Value)
    (hf : Instr.fill (places[·]?) zv.cells ps.toList = some r) : (Instr.build t ps).run P w = .ok (.agg r) w := by
  simp only [Instr.build, Sem.run_bind, hz, Result.andThen, run_underlying ht, hpl, hf, Sem.run_pure]

theorem build_run_array {t el : TypeId} {n sz : Nat} {zv : Value} (hz : (zeroValue t).run P w = .ok zv w) (ht : P.underlying t = some (.array n el)) (hs : (sizeOf el).run P w = .ok sz w) (ps : Array (Nat × Value)) (r : Array Value)
    (hf : Instr.fill (fun i => some (i * sz, sz)) zv.cells ps.toList = some r) : (Instr.build t ps).run P w = .ok (.agg r) w := by
  simp only [Instr.build, Sem.run_bind, hz, Result.andThen, run_underlying ht, hs, hf, Sem.run_pure]

/-- A row of zeros. -/
theorem repC_rel {zero : List CVal} {z : Array Value} (R : VRs ι zero z.toList) (n sz : Nat) (hsz : z.size = sz) : VRs ι (repC n zero) ((Array.range (n * sz)).map (fun i => z[i % z.size]!)).toList := by
  have key : ((Array.range (n * sz)).map (fun i => z[i % z.size]!)).toList = (List.replicate n z.toList).flatten := by
    apply List.ext_getElem?
    intro j
    by_cases hj : j < n * sz
    · have h0 : 0 < sz := by
        rcases Nat.eq_zero_or_pos sz with h0 | h0
        · subst h0; omega
        · exact h0
      have h1 : j % sz < sz := Nat.mod_lt _ h0
      have h2 : ((List.replicate n z.toList).flatten)[j]? = z.toList[j % sz]? := by
        have hzl : z.toList.length = sz := by simpa using hsz
        clear hsz R
        induction n generalizing j with
        | zero => simp at hj
        | succ n ih =>
          rw [List.replicate_succ, List.flatten_cons]
          by_cases hjs : j < sz
          · rw [List.getElem?_append_left (by omega), Nat.mod_eq_of_lt hjs]
          · rw [List.getElem?_append_right (by omega), hzl, ih (j - sz) (by rw [Nat.succ_mul] at hj; omega) (by rw [← Nat.mod_eq_sub_mod (by omega)]; exact h1), ← Nat.mod_eq_sub_mod (by omega)]
      rw [h2]
      simp [hj, hsz, h1]
    · rw [List.getElem?_eq_none (by simp; omega), List.getElem?_eq_none (by simp [hsz]; omega)]
  rw [key]
  clear key
  induction n with
  | zero => exact .nil
  | succ n ih => simpa [repC, List.replicate_succ] using R.append ih

end
end Go.Proofs.YtmppoknfekdbbaaDoor.Cm
