/-
  Instructions: what the rows list of package variables tells what is asked of them.
-/
import Derived.Test.YtaipbioapbgcnaaDoorCmIA
import Derived.Test.YtaipbioapbgcnaaDoorRows
import Derived.Stop.LaidErr
import Derived.MakeChecks
namespace Go.Proofs.YtaipbioapbgcnaaDoor.Cm
open Go.RowKit Go.ChangeShapes

theorem star96 : "*" ++ "errors.errorString" = "*errors.errorString" := by decide
theorem row96 (u : TypeId) (h : prog.typeName? 3 u = some "*errors.errorString") : u = 96 :=
  typeName_ptr_named (nm := "errors.errorString") (by rw [star96]; kernel_rfl) (by kernel_rfl) (by decide) u (by rw [star96]; exact h)

abbrev laidIn : List (String × DataW Unit) := YtaipbioapbgcnaaDoor.Rows.instrAsksRow.laid
abbrev laidTail : List (String × DataW Unit) := [("strconv.ErrSyntax", YtaipbioapbgcnaaDoor.Rows.laid_strconv_ErrSyntax), ("signalbox/instr.names", YtaipbioapbgcnaaDoor.Rows.laid_signalbox_instr_names), ("signalbox/instr.operands", YtaipbioapbgcnaaDoor.Rows.laid_signalbox_instr_operands), ("signalbox/instr.pops", YtaipbioapbgcnaaDoor.Rows.laid_signalbox_instr_pops), ("signalbox/instr.pushes", YtaipbioapbgcnaaDoor.Rows.laid_signalbox_instr_pushes), ("unicode/utf8.first", YtaipbioapbgcnaaDoor.Rows.laid_unicode_utf8_first)]

theorem laid_plain {W : World} (L : laidMetH prog laidIn W) : laidMet prog laidIn W := by
  rw [MakeChecks.laidMetH_plain _ _ _ (by kernel_rfl)] at L; exact L

theorem facts_laid {W : World} (L : laidMetH prog laidIn W) (S : W.ShapedOpen prog) : facts W := by
  have L0 := laid_plain L
  have L1 : laidMet prog (("internal/strconv.uint64pow10", Lib.tabData .u64 Lib.pow10Tab) :: ("unicode/utf8.acceptRanges", YtaipbioapbgcnaaDoor.Rows.laid_unicode_utf8_acceptRanges) :: ("strconv.ErrRange", YtaipbioapbgcnaaDoor.Rows.laid_strconv_ErrRange) :: laidTail) W := L0.tail.tail
  obtain ⟨_, _, v2, _⟩ := laid_sentinel (g := 5) L1.tail.tail (by kernel_rfl) (by kernel_rfl) Tryd.underlying47 row96 Tryd.underlying96 Tryd.underlying98 rfl rfl Tryd.underlying9 (by kernel_rfl) (by kernel_rfl)
  obtain ⟨_, _, v3, _⟩ := laid_sentinel (g := 4) L1.tail.tail.tail (by kernel_rfl) (by kernel_rfl) Tryd.underlying47 row96 Tryd.underlying96 Tryd.underlying98 rfl rfl Tryd.underlying9 (by kernel_rfl) (by kernel_rfl)
  exact ⟨Lib.tabIs_of_head (g := 6) (by kernel_rfl) (by kernel_rfl) Tryd.underlying91 Tryd.underlying72 (by kernel_rfl) (by kernel_rfl) L1, ⟨_, _, v3⟩, ⟨_, _, v2⟩, Tryd.laysM146.s1_3 W S⟩

theorem facts_later {W W' : World} (h : facts W) (k : Keeps (fun b => b < W.heap.size) W W') : facts W' := by
  have var : ∀ {n : String} {cs : Array Value}, W.var? prog n = some cs → W'.var? prog n = some cs := by
    intro n cs hv
    unfold World.var? at hv ⊢
    cases hg : prog.globalNamed n with
    | none => simp [hg] at hv
    | some g =>
      simp only [hg, Option.bind_some] at hv ⊢
      have hlt : g < W.heap.size := by
        rcases Nat.lt_or_ge g W.heap.size with h1 | h1
        · exact h1
        · rw [Array.getElem?_eq_none h1] at hv; simp at hv
      rw [k.block g hlt]
      exact hv
  obtain ⟨h1, ⟨t1, p1, h2⟩, ⟨t2, p2, h3⟩, m, h4⟩ := h
  refine ⟨var h1, ⟨t1, p1, var h2⟩, ⟨t2, p2, var h3⟩, m, ?_⟩
  unfold World.cell? at h4 ⊢
  simp only at h4 ⊢
  have hlt : 7 < W.heap.size := by
    rcases Nat.lt_or_ge 7 W.heap.size with h5 | h5
    · exact h5
    · rw [Array.getElem?_eq_none h5] at h4; simp at h4
  rw [k.block 7 hlt]
  exact h4

theorem names_laid : (YtaipbioapbgcnaaDoor.Rows.laid_signalbox_instr_names : DataW Unit) = .agg (opNames.map fun z => .lit (.string z)) := by kernel_rfl
theorem operands_laid : (YtaipbioapbgcnaaDoor.Rows.laid_signalbox_instr_operands : DataW Unit) = .agg (opOperands.map fun z => .lit (.int .i64 z)) := by kernel_rfl
theorem pops_laid : (YtaipbioapbgcnaaDoor.Rows.laid_signalbox_instr_pops : DataW Unit) = .agg (opPops.map fun z => .lit (.int .i64 z)) := by kernel_rfl
theorem pushes_laid : (YtaipbioapbgcnaaDoor.Rows.laid_signalbox_instr_pushes : DataW Unit) = .agg (opPushes.map fun z => .lit (.int .i64 z)) := by kernel_rfl

theorem start_in {W : World} (L : laidMetH prog laidIn W) (S : W.ShapedOpen prog) : Inv (Ctx.all W glb) (Emb.globs glb.n) (globHeap glb.n tabs) W := by
  obtain ⟨ps, LV, _⟩ := laid_plain L
  have a := laid_ints (glb := 4) LV (name := "signalbox/instr.operands") (zs := opOperands) (k := .i64) (by rw [← operands_laid]; exact .tail _ (.tail _ (.tail _ (.tail _ (.tail _ (.tail _ (.tail _ (.head _)))))))) (g := 0) (by kernel_rfl) (by kernel_rfl) Tryd.underlying36 Tryd.underlying3 (by kernel_rfl)
  have b := laid_ints (glb := 4) LV (name := "signalbox/instr.pops") (zs := opPops) (k := .i64) (by rw [← pops_laid]; exact .tail _ (.tail _ (.tail _ (.tail _ (.tail _ (.tail _ (.tail _ (.tail _ (.head _))))))))) (g := 1) (by kernel_rfl) (by kernel_rfl) Tryd.underlying36 Tryd.underlying3 (by kernel_rfl)
  have c := laid_ints (glb := 4) LV (name := "signalbox/instr.pushes") (zs := opPushes) (k := .i64) (by rw [← pushes_laid]; exact .tail _ (.tail _ (.tail _ (.tail _ (.tail _ (.tail _ (.tail _ (.tail _ (.tail _ (.head _)))))))))) (g := 2) (by kernel_rfl) (by kernel_rfl) Tryd.underlying36 Tryd.underlying3 (by kernel_rfl)
  have d := laid_strs (glb := 4) LV (name := "signalbox/instr.names") (zs := opNames) (by rw [← names_laid]; exact .tail _ (.tail _ (.tail _ (.tail _ (.tail _ (.tail _ (.head _))))))) (g := 3) (by kernel_rfl) (by kernel_rfl) Tryd.underlying37 Tryd.underlying9 (by kernel_rfl)
  have sz : glb.n ≤ W.heap.size := by
    obtain ⟨C, el, fz, h, _⟩ := d
    have := (Array.getElem?_eq_some_iff.1 h).1
    exact this
  refine Inv.globs sz (fun _ k => facts_later (facts_laid L S) k) fun x hx => ?_
  have pl := tabs_plain x hx
  refine ⟨pl.1, pl.2, ?_⟩
  simp only [tabs, List.mem_cons, List.not_mem_nil, or_false] at hx
  rcases hx with rfl | rfl | rfl | rfl
  · exact a
  · exact b
  · exact c
  · exact d

theorem i64_range {k : Int} (w : (Lit.int .i64 k).wf = true) : -9223372036854775808 ≤ k ∧ k ≤ 9223372036854775807 := by
  have w2 : (decide (IntKind.i64.min ≤ k) && decide (k ≤ IntKind.i64.max)) = true := w
  rw [Bool.and_eq_true, decide_eq_true_eq, decide_eq_true_eq] at w2
  have e1 : IntKind.i64.min = -9223372036854775808 := by decide
  have e2 : IntKind.i64.max = 9223372036854775807 := by decide
  omega
end Go.Proofs.YtaipbioapbgcnaaDoor.Cm
