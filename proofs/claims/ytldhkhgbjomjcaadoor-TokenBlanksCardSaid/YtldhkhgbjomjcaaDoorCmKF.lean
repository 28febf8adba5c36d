/-
  Tokens: what the row lists of package variables tells what the library's functions ask.
-/
import Derived.Test.YtldhkhgbjomjcaaDoorCmKA
import Derived.Test.YtldhkhgbjomjcaaDoorRows
import Derived.Stop.LaidErr
import Derived.MakeChecks
import Derived.Test.YtldhkhgbjomjcaaDoorCmZ
namespace Go.Proofs.YtldhkhgbjomjcaaDoor.Cm
open Go.RowKit Go.ChangeShapes

theorem star126 : "*" ++ "errors.errorString" = "*errors.errorString" := by decide
theorem row126 (u : TypeId) (h : prog.typeName? 3 u = some "*errors.errorString") : u = 126 :=
  typeName_ptr_named (nm := "errors.errorString") (by rw [star126]; kernel_rfl) (by kernel_rfl) (by decide) u (by rw [star126]; exact h)

abbrev laidTk : List (String × DataW Unit) := YtldhkhgbjomjcaaDoor.Rows.tokenAllRow.laid
abbrev laidTail : List (String × DataW Unit) := [("strconv.ErrRange", YtldhkhgbjomjcaaDoor.Rows.laid_strconv_ErrRange), ("strconv.ErrSyntax", YtldhkhgbjomjcaaDoor.Rows.laid_strconv_ErrSyntax), ("unicode.White_Space", YtldhkhgbjomjcaaDoor.Rows.laid_unicode_White_Space), ("strings.asciiSpace", Lib.tabData .u8 Lib.asciiSpaceTab)]

theorem pow10_laid : (YtldhkhgbjomjcaaDoor.Rows.laid_internal_strconv_uint64pow10 : DataW Unit) = Lib.tabData .u64 Lib.pow10Tab := rfl
theorem laidTk_eq : laidTk = ("math/bits.deBruijn32tab", YtldhkhgbjomjcaaDoor.Rows.laid_math_bits_deBruijn32tab) :: ("math/bits.deBruijn64tab", YtldhkhgbjomjcaaDoor.Rows.laid_math_bits_deBruijn64tab) :: ("internal/strconv.uint64pow10", Lib.tabData .u64 Lib.pow10Tab) :: laidTail := by kernel_rfl

theorem laid_plain {W : World} (L : laidMetH prog laidTk W) : laidMet prog laidTk W := by
  rw [MakeChecks.laidMetH_plain _ _ _ (by kernel_rfl)] at L; exact L

theorem facts_laid {W : World} (L : laidMetH prog laidTk W) : facts W := by
  have L0 := laid_plain L
  rw [laidTk_eq] at L0
  have L2 : laidMet prog (("internal/strconv.uint64pow10", Lib.tabData .u64 Lib.pow10Tab) :: laidTail) W := L0.tail.tail
  have L1 : laidMet prog laidTail W := L2.tail
  obtain ⟨_, _, v2, _⟩ := laid_sentinel (g := 5) L1 (by kernel_rfl) (by kernel_rfl) Tryd.underlying72 row126 Tryd.underlying126 Tryd.underlying128 rfl rfl Tryd.underlying9 (by kernel_rfl) (by kernel_rfl)
  obtain ⟨_, _, v3, _⟩ := laid_sentinel (g := 4) L1.tail (by kernel_rfl) (by kernel_rfl) Tryd.underlying72 row126 Tryd.underlying126 Tryd.underlying128 rfl rfl Tryd.underlying9 (by kernel_rfl) (by kernel_rfl)
  exact ⟨Lib.tabIs_of_head (g := 0) (by kernel_rfl) (by kernel_rfl) Tryd.underlying68 Tryd.underlying5 (by kernel_rfl) (by kernel_rfl) L1.tail.tail.tail, ⟨_, _, v3⟩, ⟨_, _, v2⟩, Lib.tabIs_of_head (g := 3) (by kernel_rfl) (by kernel_rfl) Tryd.underlying110 Tryd.underlying87 (by kernel_rfl) (by kernel_rfl) L2⟩

theorem facts_later {W W' : World} (h : facts W) (k : Keeps (fun b => b < W.heap.size) W W') : facts W' := by
  have var : ∀ {n : String} {cs : Array Value}, W.var? prog n = some cs → W'.var? prog n = some cs := by
    intro n cs hv
    unfold World.var? at hv ⊢
    cases hg : prog.globalNamed n with
    | none => simp [hg] at hv
    | some g =>
      simp only [hg, Option.bind_some] at hv ⊢
      have hlt : g < W.heap.size := by
        rcases Nat.lt_or_ge g W.heap.size with h1 | h1
        · exact h1
        · rw [Array.getElem?_eq_none h1] at hv; simp at hv
      rw [k.block g hlt]
      exact hv
  obtain ⟨h1, ⟨t1, p1, h2⟩, ⟨t2, p2, h3⟩, h4⟩ := h
  exact ⟨var h1, ⟨t1, p1, var h2⟩, ⟨t2, p2, var h3⟩, var h4⟩

theorem start_tk {W : World} (L : laidMetH prog laidTk W) : Inv (Ctx.all W glb) (Emb.globs glb.n) (Heap.empty glb.n) W :=
  Inv.start (Nat.zero_le _) fun _ k => facts_later (facts_laid L) k
end Go.Proofs.YtldhkhgbjomjcaaDoor.Cm
