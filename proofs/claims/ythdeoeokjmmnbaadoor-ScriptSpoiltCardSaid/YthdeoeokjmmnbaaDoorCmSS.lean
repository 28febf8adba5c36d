/-
  Jobs as texts: a job that comes in as an argument.
-/
import Derived.Test.YthdeoeokjmmnbaaDoorCmSR
import Derived.Test.YthdeoeokjmmnbaaDoorCmE
import Derived.Lib.SmallJoins
import Derived.Test.YthdeoeokjmmnbaaDoorCmZ
namespace Go.Proofs.YthdeoeokjmmnbaaDoor.Cm
open Go.RowKit Go.IntWalk Go.ChangeShapes Go.WideShapes

section
variable {H : Type} {enc : TypeId × Value → H} {P : Program} {w : World}

/-- A row of numbers inside a record. -/
theorem row_at {t e : TypeId} {fuel : Nat} {c : Value} {y : DataW H × List MemPlace} (ht : P.underlying t = some (.slice e)) (he : P.underlying e = some (.int .i64)) (hc : P.cellsOf e = 1)
    (h : DataW.trod enc P w 0 (fun _ => true) true fuel t [c] = some y) : ∃ a len cap zs, c = .slice a len cap ∧ IsRow' w a len cap zs := by
  rcases open_ints ht he hc h with ⟨hcs, _⟩ | ⟨a, len, cap, zs, hcs, _, hl, _, hz, hx, hcell, hwz⟩
  · simp only [List.cons.injEq, and_true] at hcs
    subst hcs
    exact ⟨none, 0, 0, [], rfl, .inl ⟨rfl, rfl, rfl, rfl⟩⟩
  · simp only [List.cons.injEq, and_true] at hcs
    subst hcs
    simp only [if_true] at hz
    exact ⟨some a, len, cap, zs, rfl, .inr ⟨a, rfl, hl, hz, hcell, hwz⟩⟩

/-- A job that came in: how it lies. -/
structure IsJob (w : World) (v : Value) (j : Job) : Prop where
  lies : ∃ a₂ l₂ c₂ z₂ a₃ l₃ c₃ z₃, v = .agg #[.bool j.cl, .int .i64 j.p, .int .i64 j.st, .int .i64 j.so, .slice a₂ l₂ c₂, .slice a₃ l₃ c₃] ∧ IsRow' w a₂ l₂ c₂ z₂ ∧ IsRow' w a₃ l₃ c₃ z₃ ∧ j.ins = z₂.take l₂ ∧ j.pk = z₃.take l₃
  lim : I64 j.lim

theorem i64_of_wf {n : Int} (h : (Lit.int .i64 n).wf = true) : -9223372036854775808 ≤ n ∧ n ≤ 9223372036854775807 := by
  have w2 : (decide (IntKind.i64.min ≤ n) && decide (n ≤ IntKind.i64.max)) = true := h
  rw [Bool.and_eq_true, decide_eq_true_eq, decide_eq_true_eq] at w2
  have e1 : IntKind.i64.min = -9223372036854775808 := by decide
  have e2 : IntKind.i64.max = 9223372036854775807 := by decide
  omega

theorem job_in {r : Reach} {base : Nat} {t tb tl ti tr : TypeId} {f₀ f₁ f₂ f₃ g₀ g₁ g₂ : Field} {v : Value} {x : DataW H × List MemPlace}
    (ht : P.underlying t = some (.struct #[f₀, f₁, f₂, f₃])) (hC : P.cellsOf t = 6)
    (h₀ : f₀.type = tb ∧ f₀.offset = 0) (h₁ : f₁.type = tl ∧ f₁.offset = 1) (h₂ : f₂.type = tr ∧ f₂.offset = 4) (h₃ : f₃.type = tr ∧ f₃.offset = 5)
    (htb : P.underlying tb = some .bool) (ctb : P.cellsOf tb = 1) (htl : P.underlying tl = some (.struct #[g₀, g₁, g₂])) (ctl : P.cellsOf tl = 3)
    (k₀ : g₀.type = ti ∧ g₀.offset = 0) (k₁ : g₁.type = ti ∧ g₁.offset = 1) (k₂ : g₂.type = ti ∧ g₂.offset = 2)
    (hti : P.underlying ti = some (.int .i64)) (cti : P.cellsOf ti = 1) (htr : P.underlying tr = some (.slice ti)) (ctr : P.cellsOf tr = 1)
    (hv : Value.okWide P w r base t v) (h : ∃ m, DataW.trod enc P w 0 (fun _ => true) true m t v.cells.toList = some x) : ∃ j : Job, IsJob w v j := by
  obtain ⟨cs, rfl, hsz⟩ := okWide_struct ht hv
  obtain ⟨m, hf⟩ := h
  obtain ⟨y0, y1, y2, y3, n, _, hl, t0, t1, t2, t3⟩ := Go.Joins.trod_struct4 ht hf
  rw [h₀.1, h₀.2, ctb] at t0
  rw [h₁.1, h₁.2, ctl] at t1
  rw [h₂.1, h₂.2, ctr] at t2
  rw [h₃.1, h₃.2, ctr] at t3
  obtain ⟨l⟩ := cs
  change l.length = P.cellsOf t at hsz
  rw [hC] at hsz
  match l, hsz with
  | [u0, u1, u2, u3, u4, u5], _ =>
    simp only [Value.cells, List.drop_zero, List.take_succ_cons, List.take_zero, List.drop_succ_cons] at t0 t1 t2 t3
    obtain ⟨b, e0, _⟩ := DataW.trod_bool htb t0
    obtain ⟨z0, z1, z2, n', _, _, q0, q1, q2⟩ := Go.Deep.trod_struct3 htl t1
    rw [k₀.1, k₀.2, cti] at q0
    rw [k₁.1, k₁.2, cti] at q1
    rw [k₂.1, k₂.2, cti] at q2
    simp only [List.drop_zero, List.take_succ_cons, List.take_zero, List.drop_succ_cons] at q0 q1 q2
    obtain ⟨p0, e1, _, w0⟩ := DataW.trod_int hti q0
    obtain ⟨p1, e2, _, w1⟩ := DataW.trod_int hti q1
    obtain ⟨p2, e3, _, w2⟩ := DataW.trod_int hti q2
    simp only [List.cons.injEq, and_true] at e0 e1 e2 e3
    obtain ⟨a2, l2, c2, z2, e4, r2⟩ := row_at htr hti cti t2
    obtain ⟨a3, l3, c3, z3, e5, r3⟩ := row_at htr hti cti t3
    subst e0 e1 e2 e3 e4 e5
    refine ⟨⟨b, p0, p1, p2, z2.take l2, z3.take l3⟩, ⟨⟨a2, l2, c2, z2, a3, l3, c3, z3, rfl, r2, r3, rfl, rfl⟩, fun q hq => ?_⟩⟩
    simp only [Job.lim, List.mem_cons, List.not_mem_nil, or_false] at hq
    rcases hq with rfl | rfl | rfl
    · exact i64_of_wf w0
    · exact i64_of_wf w1
    · exact i64_of_wf w2
end

section
variable {K : Ctx} {ι : Emb} {h : Heap} {w : World}
theorem ArgSl.rin {h : Heap} {v : CVal} {len : Nat} {zs : List Int} (s : ArgSl h v .i64 len zs) : RIn h v (zs.take len) ∧ I64 (zs.take len) := by
  obtain ⟨h1, h2, h3⟩ := s
  have hl : (zs.take len).length = len := by rw [List.length_take]; omega
  refine ⟨?_, fun n hn => i64_of_wf (h2 n (List.mem_of_mem_take hn))⟩
  rcases h3 with ⟨rfl, rfl⟩ | ⟨i, rfl, hi, h4⟩
  · exact .inl ⟨rfl, by simp⟩
  · refine .inr ⟨i, 0, zs.length, by rw [hl], hi, ?_⟩
    rcases h4 with rfl | g
    · exact .inl (by simp)
    · exact .inr ⟨_, _, _, g, fun j hj => by
        rw [hl] at hj
        rw [Nat.zero_add, List.getElem?_map, List.getElem?_eq_getElem (by omega), List.getElem_take]
        rfl⟩
theorem open_job (H : Inv K ι h w) (ro : Ro h) (hg : ∀ b, ¬ K.G b) {b₀ : Nat} (hb : b₀ < w.heap.size) {v : Value} {j : Job} (r : IsJob w v j) :
    ∃ ι' h' vi vp, ι.le ι' ∧ Inv K ι' h' w ∧ Exd h h' ∧ Ro h' ∧ VR ι' (.agg (j.cs vi vp)) v ∧ RIn h' vi j.ins ∧ RIn h' vp j.pk ∧ I64 j.lim ∧ I64 j.ins ∧ I64 j.pk := by
  obtain ⟨⟨a2, l2, c2, z2, a3, l3, c3, z3, rfl, r2, r3, e2, e3⟩, hl⟩ := r
  obtain ⟨ι1, h1, v1, le1, H1, x1, ro1, q1, s1⟩ := open_arg' H ro hg hb r2
  obtain ⟨ι2, h2, v2, le2, H2, x2, ro2, q2, s2⟩ := open_arg' H1 ro1 hg hb r3
  refine ⟨ι2, h2, v1, v2, le1.trans le2, H2, x1.trans x2, ro2, ?_, ?_, ?_, hl, ?_, ?_⟩
  · exact .agg _ _ (.cons _ _ _ _ (.bool _) (.cons _ _ _ _ (.int _ _) (.cons _ _ _ _ (.int _ _) (.cons _ _ _ _ (.int _ _) (.cons _ _ _ _ (q1.mono le2) (.cons _ _ _ _ q2 .nil))))))
  · rw [e2]; exact (s1.exd x2).rin.1
  · rw [e3]; exact s2.rin.1
  · rw [e2]; exact s1.rin.2
  · rw [e3]; exact s2.rin.2
end
theorem heap_pos {W : World} (h : facts W) : 0 < W.heap.size := by
  obtain ⟨_, ⟨t, p, hv⟩, _⟩ := h
  unfold World.var? at hv
  cases hg : prog.globalNamed "strconv.ErrSyntax" with
  | none => simp [hg] at hv
  | some g =>
    simp only [hg, Option.bind_some] at hv
    rcases Nat.lt_or_ge g W.heap.size with h1 | h1
    · omega
    · rw [Array.getElem?_eq_none h1] at hv; simp at hv
end Go.Proofs.YthdeoeokjmmnbaaDoor.Cm
