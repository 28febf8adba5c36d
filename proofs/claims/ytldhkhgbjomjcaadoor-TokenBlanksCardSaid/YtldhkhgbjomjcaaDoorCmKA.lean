/-
  Tokens: the library's functions as known from the shelf; the table with what is known of 'awake'.
-/
import Derived.Test.YtldhkhgbjomjcaaDoorCmE
import Derived.Test.YtldhkhgbjomjcaaDoorCmK2
import Derived.Test.YtldhkhgbjomjcaaDoorShelf
import Derived.Test.YtldhkhgbjomjcaaDoorCmZ
namespace Go.Proofs.YtldhkhgbjomjcaaDoor.Cm
open Go.RowKit

theorem fieldsK : PrimOk prog glb 29 fieldsP := fields_ok ⟨_, Tryd.func29, by kernel_rfl, by kernel_rfl⟩ fun s w hs ha hw => Tryd.strings_Fields s w hs ha hw.1
theorem indexK : PrimOk prog glb 31 indexP := index_ok ⟨_, Tryd.func31, by kernel_rfl, by kernel_rfl⟩ Tryd.strings_IndexByte
theorem atoiK : PrimOk prog glb 46 (atoiE 106) := atoiE_ok ⟨_, Tryd.func46, by kernel_rfl, by kernel_rfl⟩
  (fun s v w hs h _ => Tryd.strconv_Atoi_ok s (by omega) v h w)
  (fun s w hs h1 h2 hw => by
    obtain ⟨t, p, hv⟩ := hw.2.1
    cases hq : Lib.atoiAll s.data.toList with
    | ok v => exact absurd hq (h1 v)
    | range => exact absurd hq h2
    | _ => exact (Any.strconv_Atoi_syntax_var Tryd.laysC172 s hs hq t p w hv).mono fun e w' ⟨_, he, _, _, hb⟩ => ⟨⟨_, he⟩, hb⟩)
  (fun s w hs h hw => by
    obtain ⟨t, p, hv⟩ := hw.2.2.1
    exact (Tryd.strconv_Atoi_range_var s hs h t p w hv).mono fun e w' ⟨N, he, _, _, hb⟩ => ⟨⟨_, he⟩, hb⟩)

theorem itoaK : PrimOk prog glb 24 itoaP := itoa_ok ⟨_, Tryd.func24, by kernel_rfl, by kernel_rfl⟩ fun n h0 h1 w hw => Tryd.strconv_Itoa n h0 h1 w hw.2.2.2

def tl : Tab := (((ft.tab.with 29 fieldsP).with 31 indexP).with 46 (atoiE 106)).with 24 itoaP
theorem tl_ok : TabOk prog glb tl := (((tabOk.with fieldsK).with indexK).with atoiK).with itoaK
theorem awakeK : isTrue (callF tl 6000 6 [] (Heap.empty 0)) = true := by kernel_rfl
theorem isTrue_of {x : Option (CVal × Heap)} (h : isTrue x = true) : ∃ h', x = some (.bool true, h') := by
  unfold isTrue at h
  split at h
  · exact ⟨_, rfl⟩
  · simp at h
def tt : Tab := tl.with 6 (closedP (.bool true))
theorem tt_ok : TabOk prog glb tt := by
  obtain ⟨h1, e1⟩ := isTrue_of awakeK
  exact tl_ok.with (closed_ok (callF_ok tl_ok 6000) e1)
theorem awake_cal {h : Heap} {Q : CVal → Heap → Prop} (q : Q (.bool true) h) : Cal tt 6 [] h Q := Cal.prim (p := closedP (.bool true)) rfl rfl q
theorem fields_cal {s : List UInt8} {h : Heap} {Q : CVal → Heap → Prop} (ha : asciiB s = true) (hs : s.length ≤ 1000000) (q : Q (.slice h.next 0 (Lib.fields s).length (Lib.fields s).length) (h.new (.cells ((Lib.fields s).map .str) true none))) : Cal tt 29 [.str s] h Q :=
  Cal.prim (p := fieldsP) rfl (by simp only [fieldsP]; rw [if_pos ⟨ha, hs⟩]) q
theorem itoa_cal {n : Int} {h : Heap} {Q : CVal → Heap → Prop} (hn : -9223372036854775808 ≤ n ∧ n ≤ 9223372036854775807) (q : Q (.str (Lib.itoa n)) h) : Cal tt 24 [.int .i64 n] h Q :=
  Cal.prim (p := itoaP) rfl (by simp only [itoaP]; rw [if_pos hn, itoaC_eq hn.1 hn.2]) q
theorem index_cal {s : List UInt8} {h : Heap} {Q : CVal → Heap → Prop} (q : Q (.int .i64 (Lib.indexByte s 125)) h) : Cal tt 31 [.str s, .int .u8 125] h Q :=
  Cal.prim (p := indexP) rfl rfl q
theorem atoi_cal {s : List UInt8} {v : Int} {h : Heap} {Q : CVal → Heap → Prop} (hs : s.length ≤ 281474976710656) (e : Lib.atoiAll s = .ok v) (q : Q (.tuple [.int .i64 v, .nilIface]) h) : Cal tt 46 [.str s] h Q :=
  Cal.prim (p := atoiE 106) rfl (by simp only [atoiE, if_pos hs, e]) q
theorem atoiR_cal {s : List UInt8} {h : Heap} {Q : CVal → Heap → Prop} (hs : s.length ≤ 281474976710656) (e : Lib.atoiAll s = .range) (q : Q (.tuple [.int .i64 (Lib.atoiSat s), .iface 106 .undef]) h) : Cal tt 46 [.str s] h Q :=
  Cal.prim (p := atoiE 106) rfl (by simp only [atoiE, if_pos hs, e]) q
end Go.Proofs.YtldhkhgbjomjcaaDoor.Cm
