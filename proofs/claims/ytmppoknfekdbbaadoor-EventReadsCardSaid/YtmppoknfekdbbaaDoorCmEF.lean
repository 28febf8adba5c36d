/-
  Event: what the rows list of package variables tells what the library's functions ask.
-/
import Derived.Test.YtmppoknfekdbbaaDoorCmEA
import Derived.Test.YtmppoknfekdbbaaDoorRows
import Derived.Stop.LaidErr
import Derived.MakeChecks
namespace Go.Proofs.YtmppoknfekdbbaaDoor.Cm
open Go.RowKit Go.ChangeShapes

theorem star88 : "*" ++ "errors.errorString" = "*errors.errorString" := by decide
theorem row88 (u : TypeId) (h : prog.typeName? 3 u = some "*errors.errorString") : u = 88 :=
  typeName_ptr_named (nm := "errors.errorString") (by rw [star88]; kernel_rfl) (by kernel_rfl) (by decide) u (by rw [star88]; exact h)

abbrev laidEv : List (String × DataW Unit) := [("math/bits.deBruijn32tab", YtmppoknfekdbbaaDoor.Rows.laid_math_bits_deBruijn32tab), ("math/bits.deBruijn64tab", YtmppoknfekdbbaaDoor.Rows.laid_math_bits_deBruijn64tab), ("internal/strconv.uint64pow10", YtmppoknfekdbbaaDoor.Rows.laid_internal_strconv_uint64pow10), ("strconv.ErrRange", YtmppoknfekdbbaaDoor.Rows.laid_strconv_ErrRange), ("strconv.ErrSyntax", YtmppoknfekdbbaaDoor.Rows.laid_strconv_ErrSyntax)]

theorem pow10_laid : (YtmppoknfekdbbaaDoor.Rows.laid_internal_strconv_uint64pow10 : DataW Unit) = Lib.tabData .u64 Lib.pow10Tab := rfl

theorem facts_laid {W : World} (L : laidMetH prog laidEv W) : facts W := by
  have L0 : laidMet prog laidEv W := by rw [MakeChecks.laidMetH_plain _ _ _ (by rfl)] at L; exact L
  have L1 : laidMet prog (("internal/strconv.uint64pow10", Lib.tabData .u64 Lib.pow10Tab) :: [("strconv.ErrRange", YtmppoknfekdbbaaDoor.Rows.laid_strconv_ErrRange), ("strconv.ErrSyntax", YtmppoknfekdbbaaDoor.Rows.laid_strconv_ErrSyntax)]) W := L0.tail.tail
  obtain ⟨_, _, v2, _⟩ := laid_sentinel (g := 3) L1.tail (by kernel_rfl) (by kernel_rfl) Tryd.underlying50 row88 Tryd.underlying88 Tryd.underlying90 rfl rfl Tryd.underlying9 (by kernel_rfl) (by kernel_rfl)
  obtain ⟨_, _, v3, _⟩ := laid_sentinel (g := 2) L1.tail.tail (by kernel_rfl) (by kernel_rfl) Tryd.underlying50 row88 Tryd.underlying88 Tryd.underlying90 rfl rfl Tryd.underlying9 (by kernel_rfl) (by kernel_rfl)
  exact ⟨Lib.tabIs_of_head (g := 1) (by kernel_rfl) (by kernel_rfl) Tryd.underlying77 Tryd.underlying63 (by kernel_rfl) (by kernel_rfl) L1, ⟨_, _, v3⟩, ⟨_, _, v2⟩⟩

theorem facts_later {W W' : World} (h : facts W) (k : Keeps (fun b => b < W.heap.size) W W') : facts W' := by
  have var : ∀ {n : String} {cs : Array Value}, W.var? prog n = some cs → W'.var? prog n = some cs := by
    intro n cs hv
    unfold World.var? at hv ⊢
    cases hg : prog.globalNamed n with
    | none => simp [hg] at hv
    | some g =>
      simp only [hg, Option.bind_some] at hv ⊢
      have hlt : g < W.heap.size := by
        rcases Nat.lt_or_ge g W.heap.size with h1 | h1
        · exact h1
        · rw [Array.getElem?_eq_none h1] at hv; simp at hv
      rw [k.block g hlt]
      exact hv
  obtain ⟨h1, ⟨t1, p1, h2⟩, t2, p2, h3⟩ := h
  exact ⟨var h1, ⟨t1, p1, var h2⟩, t2, p2, var h3⟩

theorem start_ev {W : World} (L : laidMetH prog laidEv W) : Inv (Ctx.all W glb) (Emb.globs glb.n) (Heap.empty glb.n) W :=
  Inv.start (Nat.zero_le _) fun _ k => facts_later (facts_laid L) k

theorem i64_range {k : Int} (w : (Lit.int .i64 k).wf = true) : -9223372036854775808 ≤ k ∧ k ≤ 9223372036854775807 := by
  have w2 : (decide (IntKind.i64.min ≤ k) && decide (k ≤ IntKind.i64.max)) = true := w
  rw [Bool.and_eq_true, decide_eq_true_eq, decide_eq_true_eq] at w2
  have e1 : IntKind.i64.min = -9223372036854775808 := by decide
  have e2 : IntKind.i64.max = 9223372036854775807 := by decide
  omega
end Go.Proofs.YtmppoknfekdbbaaDoor.Cm
