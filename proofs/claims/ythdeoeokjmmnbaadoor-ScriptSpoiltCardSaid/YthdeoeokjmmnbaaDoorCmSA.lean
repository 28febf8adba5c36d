/-
  Jobs as texts: the library's functions as known from the shelf; what the row lists of package variables; the table with what is known of 'awake'.
-/
import Derived.Test.YthdeoeokjmmnbaaDoorCmE
import Derived.Test.YthdeoeokjmmnbaaDoorCmS2
import Derived.Test.YthdeoeokjmmnbaaDoorShelf
import Derived.Test.YthdeoeokjmmnbaaDoorRows
import Derived.Stop.LaidErr
import Derived.MakeChecks
import Derived.Lib.LaidU8
import Derived.Test.YthdeoeokjmmnbaaDoorCmZ
namespace Go.Proofs.YthdeoeokjmmnbaaDoor.Cm
open Go.RowKit Go.ChangeShapes

theorem fieldsK : PrimOk prog glb 27 fieldsA := fieldsA_ok ⟨_, Tryd.func27, by kernel_rfl, by kernel_rfl⟩ fun s w hs hw => Tryd.strings_Fields_any s w hs hw.1 hw.2.2.2.2
theorem indexK : PrimOk prog glb 21 indexP := index_ok ⟨_, Tryd.func21, by kernel_rfl, by kernel_rfl⟩ Tryd.strings_IndexByte
theorem atoiK : PrimOk prog glb 28 (atoiE 80) := atoiE_ok ⟨_, Tryd.func28, by kernel_rfl, by kernel_rfl⟩
  (fun s v w hs h _ => Tryd.strconv_Atoi_ok s (by omega) v h w)
  (fun s w hs h1 h2 hw => by
    obtain ⟨t, p, hv⟩ := hw.2.1
    cases hq : Lib.atoiAll s.data.toList with
    | ok v => exact absurd hq (h1 v)
    | range => exact absurd hq h2
    | _ => exact (Any.strconv_Atoi_syntax_var Tryd.laysC172 s hs hq t p w hv).mono fun e w' ⟨_, he, _, _, hb⟩ => ⟨⟨_, he⟩, hb⟩)
  (fun s w hs h hw => by
    obtain ⟨t, p, hv⟩ := hw.2.2.1
    exact (Tryd.strconv_Atoi_range_var s hs h t p w hv).mono fun e w' ⟨N, he, _, _, hb⟩ => ⟨⟨_, he⟩, hb⟩)
theorem itoaK : PrimOk prog glb 19 itoaP := itoa_ok ⟨_, Tryd.func19, by kernel_rfl, by kernel_rfl⟩ fun n h0 h1 w hw => Tryd.strconv_Itoa n h0 h1 w hw.2.2.2.1

def tl : Tab := (((tab0.with 27 fieldsA).with 21 indexP).with 28 (atoiE 80)).with 19 itoaP
theorem tl_ok : TabOk prog glb tl := (((tabOk.with fieldsK).with indexK).with atoiK).with itoaK
theorem awakeK : isTrue (callF tl 6000 (fId 6) [] (Heap.empty 0)) = true := by kernel_rfl
theorem isTrue_of {x : Option (CVal × Heap)} (h : isTrue x = true) : ∃ h', x = some (.bool true, h') := by
  unfold isTrue at h
  split at h
  · exact ⟨_, rfl⟩
  · simp at h
def tt : Tab := tl.with 6 (closedP (.bool true))
theorem tt_ok : TabOk prog glb tt := by
  obtain ⟨h1, e1⟩ := isTrue_of awakeK
  exact tl_ok.with (closed_ok (callF_ok tl_ok 6000) e1)
theorem awake_cal {h : Heap} {Q : CVal → Heap → Prop} (q : Q (.bool true) h) : Cal tt 6 [] h Q := Cal.prim (p := closedP (.bool true)) rfl rfl q
theorem fields_cal {s : List UInt8} {h : Heap} {Q : CVal → Heap → Prop} (hs : s.length ≤ 1000000) (q : Q (.slice h.next 0 (Lib.fieldsD s).length (Lib.fieldsD s).length) (h.new (.cells ((Lib.fieldsD s).map .str) true none))) : Cal tt 27 [.str s] h Q :=
  Cal.prim (p := fieldsA) rfl (by simp only [fieldsA]; rw [if_pos hs]) q
theorem itoa_cal {n : Int} {h : Heap} {Q : CVal → Heap → Prop} (hn : -9223372036854775808 ≤ n ∧ n ≤ 9223372036854775807) (q : Q (.str (Lib.itoa n)) h) : Cal tt 19 [.int .i64 n] h Q :=
  Cal.prim (p := itoaP) rfl (by simp only [itoaP]; rw [if_pos hn, itoaC_eq hn.1 hn.2]) q
theorem index_cal {s : List UInt8} {h : Heap} {Q : CVal → Heap → Prop} (q : Q (.int .i64 (Lib.indexByte s 10)) h) : Cal tt 21 [.str s, .int .u8 10] h Q :=
  Cal.prim (p := indexP) rfl rfl q
/-- What strconv.Atoi makes of a text, and how it says that it failed. -/
def atoiV (s : List UInt8) : Int := match Lib.atoiAll s with
  | .ok v => v
  | .range => Lib.atoiSat s
  | _ => 0
theorem atoi_cal {s : List UInt8} {h : Heap} {Q : CVal → Heap → Prop} (hs : s.length ≤ 281474976710656) (q : ∀ e, e = .nilIface ∨ e = .iface 80 .undef → Q (.tuple [.int .i64 (atoiV s), e]) h) : Cal tt 28 [.str s] h Q := by
  cases e : Lib.atoiAll s with
  | ok v => have := q .nilIface (.inl rfl); simp only [atoiV, e] at this; exact Cal.prim (p := atoiE 80) rfl (by simp only [atoiE, if_pos hs, e]) this
  | range => have := q (.iface 80 .undef) (.inr rfl); simp only [atoiV, e] at this; exact Cal.prim (p := atoiE 80) rfl (by simp only [atoiE, if_pos hs, e]) this
  | _ => have := q (.iface 80 .undef) (.inr rfl); simp only [atoiV, e] at this; exact Cal.prim (p := atoiE 80) rfl (by simp only [atoiE, if_pos hs, e]) this

theorem starE : "*" ++ "errors.errorString" = "*errors.errorString" := by decide
theorem rowE (u : TypeId) (h : prog.typeName? 3 u = some "*errors.errorString") : u = 112 :=
  typeName_ptr_named (nm := "errors.errorString") (by rw [starE]; kernel_rfl) (by kernel_rfl) (by decide) u (by rw [starE]; exact h)

abbrev laidSc : List (String × DataW Unit) := YthdeoeokjmmnbaaDoor.Rows.scriptTextsRow.laid
abbrev laidTail : List (String × DataW Unit) := [("strconv.ErrRange", YthdeoeokjmmnbaaDoor.Rows.laid_strconv_ErrRange), ("strconv.ErrSyntax", YthdeoeokjmmnbaaDoor.Rows.laid_strconv_ErrSyntax), ("unicode.White_Space", Lib.whiteData), ("strings.asciiSpace", Lib.tabData .u8 Lib.asciiSpaceTab)]
theorem laidSc_eq : laidSc = ("math/bits.deBruijn32tab", YthdeoeokjmmnbaaDoor.Rows.laid_math_bits_deBruijn32tab) :: ("math/bits.deBruijn64tab", YthdeoeokjmmnbaaDoor.Rows.laid_math_bits_deBruijn64tab) :: ("internal/strconv.uint64pow10", Lib.tabData .u64 Lib.pow10Tab) :: laidTail := by kernel_rfl

theorem laid_plain {W : World} (L : laidMetH prog laidSc W) : laidMet prog laidSc W := by
  rw [MakeChecks.laidMetH_plain _ _ _ (by kernel_rfl)] at L; exact L

theorem white_of {W : World} (h : Lib.VarReads prog W "unicode.White_Space" Lib.whiteData) : Lib.WhiteTab 2 W :=
  Go.Proofs.whiteTab_of_reads (ρ := Tryd.lays157_ren) { Tryd.lays157 with } ⟨by kernel_rfl, by kernel_rfl, by kernel_rfl, by kernel_rfl, by kernel_rfl, by kernel_rfl, by kernel_rfl, by kernel_rfl⟩ h

theorem facts_laid {W : World} (L : laidMetH prog laidSc W) : facts W := by
  have L0 := laid_plain L
  rw [laidSc_eq] at L0
  have L2 : laidMet prog (("internal/strconv.uint64pow10", Lib.tabData .u64 Lib.pow10Tab) :: laidTail) W := L0.tail.tail
  have L1 : laidMet prog laidTail W := L2.tail
  obtain ⟨_, _, v2, _⟩ := laid_sentinel (g := 5) L1 (by kernel_rfl) (by kernel_rfl) Tryd.underlying56 rowE Tryd.underlying112 Tryd.underlying114 rfl rfl Tryd.underlying9 (by kernel_rfl) (by kernel_rfl)
  obtain ⟨_, _, v3, _⟩ := laid_sentinel (g := 4) L1.tail (by kernel_rfl) (by kernel_rfl) Tryd.underlying56 rowE Tryd.underlying112 Tryd.underlying114 rfl rfl Tryd.underlying9 (by kernel_rfl) (by kernel_rfl)
  exact ⟨Lib.tabIs_of_head (g := 0) (by kernel_rfl) (by kernel_rfl) Tryd.underlying60 Tryd.underlying5 (by kernel_rfl) (by kernel_rfl) L1.tail.tail.tail, ⟨_, _, v3⟩, ⟨_, _, v2⟩, Lib.tabIs_of_head (g := 3) (by kernel_rfl) (by kernel_rfl) Tryd.underlying85 Tryd.underlying65 (by kernel_rfl) (by kernel_rfl) L2, white_of (Lib.laidMet.reads L1 (by simp))⟩

theorem facts_later {W W' : World} (h : facts W) (k : Keeps (fun b => b < W.heap.size) W W') : facts W' := by
  have var : ∀ {n : String} {cs : Array Value}, W.var? prog n = some cs → W'.var? prog n = some cs := by
    intro n cs hv
    unfold World.var? at hv ⊢
    cases hg : prog.globalNamed n with
    | none => simp [hg] at hv
    | some g =>
      simp only [hg, Option.bind_some] at hv ⊢
      have hlt : g < W.heap.size := by
        rcases Nat.lt_or_ge g W.heap.size with h1 | h1
        · exact h1
        · rw [Array.getElem?_eq_none h1] at hv; simp at hv
      rw [k.block g hlt]
      exact hv
  obtain ⟨h1, ⟨t1, p1, h2⟩, ⟨t2, p2, h3⟩, h4, h5⟩ := h
  exact ⟨var h1, ⟨t1, p1, var h2⟩, ⟨t2, p2, var h3⟩, var h4, WhiteTab_below h5 ⟨k.os, k.tape, k.output, k.size, k.block⟩⟩

theorem start_sc {W : World} (L : laidMetH prog laidSc W) : Inv (Ctx.all W glb) (Emb.globs glb.n) (Heap.empty glb.n) W :=
  Inv.start (Nat.zero_le _) fun _ k => facts_later (facts_laid L) k
end Go.Proofs.YthdeoeokjmmnbaaDoor.Cm
