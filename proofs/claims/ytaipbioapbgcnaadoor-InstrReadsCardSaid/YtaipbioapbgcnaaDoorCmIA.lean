/-
  Instructions: the library's functions as known from the shelf; the table with what is known of 'awake'.
-/
import Derived.Test.YtaipbioapbgcnaaDoorCmIP
import Derived.Test.YtaipbioapbgcnaaDoorCmI2
import Derived.Test.YtaipbioapbgcnaaDoorShelf
namespace Go.Proofs.YtaipbioapbgcnaaDoor.Cm
open Go.RowKit

theorem join25 : PrimOk prog glb 25 joinP := join_ok ⟨_, Tryd.func25, by kernel_rfl, by kernel_rfl⟩ Tryd.strings_Join_none Tryd.strings_Join
theorem itoa24 : PrimOk prog glb 24 itoaP := itoa_ok ⟨_, Tryd.func24, by kernel_rfl, by kernel_rfl⟩ fun n h0 h1 w hw => Tryd.strconv_Itoa n h0 h1 w hw.1
theorem split26 : PrimOk prog glb 26 splitP := split_ok ⟨_, Tryd.func26, by kernel_rfl, by kernel_rfl⟩ fun s w hs hw => by
  obtain ⟨m, hm⟩ := hw.2.2.2
  exact Tryd.strings_Split s ⟨#[32]⟩ m w hs hm (by decide)
theorem atoi27 : PrimOk prog glb 27 atoiP := atoi_ok ⟨_, Tryd.func27, by kernel_rfl, by kernel_rfl⟩
  (fun s v w hs h _ => Tryd.strconv_Atoi_ok s (by omega) v h w)
  (fun s w hs h1 h2 hw => by
    obtain ⟨t, p, hv⟩ := hw.2.1
    exact Tryd.atoi_none s hs h1 h2 t p w hv)
  (fun s w hs h hw => by
    obtain ⟨t, p, hv⟩ := hw.2.2.1
    exact (Tryd.strconv_Atoi_range_var s hs h t p w hv).mono fun e w' ⟨N, he, _, _, hb⟩ => ⟨⟨_, he⟩, hb⟩)

/-- The tables. -/
def tabs : List (Nat × List CVal) := [(0, opOperands.map (.int .i64)), (1, opPops.map (.int .i64)), (2, opPushes.map (.int .i64)), (3, opNames.map .str)]
theorem tabs_plain : ∀ x ∈ tabs, x.1 < glb.n ∧ x.2.all CVal.plain = true := by
  intro x hx
  simp only [tabs, List.mem_cons, List.not_mem_nil, or_false] at hx
  rcases hx with rfl | rfl | rfl | rfl <;> exact ⟨by decide, by decide +kernel⟩

def tl : Tab := (((ft.tab.with 24 itoaP).with 25 joinP).with 26 splitP).with 27 atoiP
theorem tl_ok : TabOk prog glb tl := (((tabOk.with itoa24).with join25).with split26).with atoi27
theorem awake5 : isTrue (callF tl 3000 16 [] (globHeap 4 tabs)) = true := by kernel_rfl
theorem isTrue_of {x : Option (CVal × Heap)} (h : isTrue x = true) : ∃ h', x = some (.bool true, h') := by
  unfold isTrue at h
  split at h
  · exact ⟨_, rfl⟩
  · simp at h
noncomputable def tt : Tab := tl.with 16 (closedG tabs (.bool true))
theorem tt_ok : TabOk prog glb tt := by
  obtain ⟨h1, e1⟩ := isTrue_of awake5
  exact tl_ok.with (closedG_ok (callF_ok tl_ok 3000) tabs_plain e1)

/-- The tables lie in the heap. -/
structure Tabs (h : Heap) : Prop where
  a : h.get 0 = some (.cells (opOperands.map (.int .i64)) false none)
  b : h.get 1 = some (.cells (opPops.map (.int .i64)) false none)
  c : h.get 2 = some (.cells (opPushes.map (.int .i64)) false none)
  d : h.get 3 = some (.cells (opNames.map .str) false none)
  n : 4 ≤ h.next
theorem Tabs.exd {h h' : Heap} (t : Tabs h) (e : Exd h h') : Tabs h' := by
  have n := t.n
  exact ⟨(e.get 0 (by omega)).trans t.a, (e.get 1 (by omega)).trans t.b, (e.get 2 (by omega)).trans t.c, (e.get 3 (by omega)).trans t.d, Nat.le_trans n e.le⟩
theorem Tabs.has {h : Heap} (t : Tabs h) : HasGlobs h tabs := by
  intro x hx
  simp only [tabs, List.mem_cons, List.not_mem_nil, or_false] at hx
  rcases hx with rfl | rfl | rfl | rfl
  · exact t.a
  · exact t.b
  · exact t.c
  · exact t.d
theorem Tabs.start : Tabs (globHeap 4 tabs) := by
  have n : (globHeap 4 tabs).next = 4 := globHeap_next 4 tabs
  refine ⟨?_, ?_, ?_, ?_, by omega⟩
  · exact Heap.get_set_same _ _ _
  · rw [tabs, globHeap, Heap.get_set_ne _ _ _ _ (by decide)]
    exact Heap.get_set_same _ _ _
  · rw [tabs, globHeap, Heap.get_set_ne _ _ _ _ (by decide), globHeap, Heap.get_set_ne _ _ _ _ (by decide)]
    exact Heap.get_set_same _ _ _
  · rw [tabs, globHeap, Heap.get_set_ne _ _ _ _ (by decide), globHeap, Heap.get_set_ne _ _ _ _ (by decide), globHeap, Heap.get_set_ne _ _ _ _ (by decide)]
    exact Heap.get_set_same _ _ _

open Classical in
theorem awake_cal {h : Heap} {Q : CVal → Heap → Prop} (t : Tabs h) (q : Q (.bool true) h) : Cal tt 16 [] h Q := Cal.prim (p := closedG tabs (.bool true)) rfl (by simp only [closedG]; rw [if_pos t.has]) q
theorem itoa_cal {n : Int} {h : Heap} {Q : CVal → Heap → Prop} (hn : -9223372036854775808 ≤ n ∧ n ≤ 9223372036854775807) (q : Q (.str (Lib.itoa n)) h) : Cal tt 24 [.int .i64 n] h Q :=
  Cal.prim (p := itoaP) rfl (by simp only [itoaP]; rw [if_pos hn, itoaC_eq hn.1 hn.2]) q
theorem atoi_cal {s : List UInt8} {h : Heap} {Q : CVal → Heap → Prop} (hs : s.length ≤ 281474976710656) (q : Q (.tuple [.int .i64 (parseV s), .undef]) h) : Cal tt 27 [.str s] h Q :=
  Cal.prim (p := atoiP) rfl (by simp only [atoiP]; rw [if_pos hs]) q
theorem split_cal {s : List UInt8} {h : Heap} {Q : CVal → Heap → Prop} (hs : s.length ≤ 1000000) (q : Q (.slice h.next 0 (splitB s).length (splitB s).length) (h.new (.cells ((splitB s).map .str) true none))) : Cal tt 26 [.str s, .str [32]] h Q :=
  Cal.prim (p := splitP) rfl (by simp only [splitP]; rw [if_pos ⟨trivial, hs⟩]) q
theorem join_cal {i n : Nat} {vs : List CVal} {wr : Bool} {opn : Option Nat} {xs : List (List UInt8)} {s : List UInt8} {c : Nat} {h : Heap} {Q : CVal → Heap → Prop} (g : h.get i = some (.cells vs wr opn)) (h0 : n ≠ 0) (hn : n ≤ 140737488355328) (hx : strsC (vs.take n) = some xs) (hl : xs.length = n) (hb : (Lib.join xs s).length ≤ 140737488355328) (q : Q (.str (Lib.join xs s)) h) :
    Cal tt 25 [.slice i 0 n c, .str s] h Q := Cal.prim (p := joinP) rfl (by simp only [joinP, if_neg h0, g, List.drop_zero, hx]; rw [if_pos ⟨hl, hn, hb⟩]) q
end Go.Proofs.YtaipbioapbgcnaaDoor.Cm
