/-
  Event: the library's functions as known from the shelf; the table with what is known of 'awake'.
-/
import Derived.Test.YtmppoknfekdbbaaDoorCmYH
import Derived.Test.YtmppoknfekdbbaaDoorCmE2
import Derived.Test.YtmppoknfekdbbaaDoorShelf
namespace Go.Proofs.YtmppoknfekdbbaaDoor.Cm
open Go.RowKit

theorem join20 : PrimOk prog glb 20 joinP := join_ok ⟨_, Tryd.func20, by kernel_rfl, by kernel_rfl⟩ Tryd.strings_Join_none Tryd.strings_Join
theorem itoa21 : PrimOk prog glb 21 itoaP := itoa_ok ⟨_, Tryd.func21, by kernel_rfl, by kernel_rfl⟩ fun n h0 h1 w hw => Tryd.strconv_Itoa n h0 h1 w hw.1
theorem parse32 : PrimOk prog glb 32 parseP := parse_ok ⟨_, Tryd.func32, by kernel_rfl, by kernel_rfl⟩
  (fun s v w hs h _ => Tryd.strconv_ParseInt_10_at64_ok s (by omega) v h w)
  (fun s w hs h1 h2 hw => by
    obtain ⟨t, p, hv⟩ := hw.2.1
    exact Tryd.parse64_none s hs h1 h2 t p w hv)
  (fun s w hs h hw => by
    obtain ⟨t, p, hv⟩ := hw.2.2
    exact (Tryd.strconv_ParseInt_10_at64_range_var s hs h t p w hv).mono fun e w' ⟨N, he, _, _, hb⟩ => ⟨⟨_, he⟩, hb⟩)

def tl : Tab := ((ft.tab.with 20 joinP).with 21 itoaP).with 32 parseP
theorem tl_ok : TabOk prog glb tl := ((tabOk.with join20).with itoa21).with parse32
theorem awake17 : isTrue (callF tl 2000 11 [] (Heap.empty 0)) = true := by kernel_rfl
theorem isTrue_of {x : Option (CVal × Heap)} (h : isTrue x = true) : ∃ h', x = some (.bool true, h') := by
  unfold isTrue at h
  split at h
  · exact ⟨_, rfl⟩
  · simp at h
def tt : Tab := tl.with 11 (closedP (.bool true))
theorem tt_ok : TabOk prog glb tt := by
  obtain ⟨h1, e1⟩ := isTrue_of awake17
  exact tl_ok.with (closed_ok (callF_ok tl_ok 2000) e1)

theorem awake_cal {h : Heap} {Q : CVal → Heap → Prop} (q : Q (.bool true) h) : Cal tt 11 [] h Q := Cal.prim (p := closedP (.bool true)) rfl rfl q
theorem itoa_cal {n : Int} {h : Heap} {Q : CVal → Heap → Prop} (hn : -9223372036854775808 ≤ n ∧ n ≤ 9223372036854775807) (q : Q (.str (Lib.itoa n)) h) : Cal tt 21 [.int .i64 n] h Q :=
  Cal.prim (p := itoaP) rfl (by simp only [itoaP]; rw [if_pos hn, itoaC_eq hn.1 hn.2]) q
theorem parse_cal {s : List UInt8} {h : Heap} {Q : CVal → Heap → Prop} (hs : s.length ≤ 281474976710656) (q : Q (.tuple [.int .i64 (parseV s), .undef]) h) : Cal tt 32 [.str s, .int .i64 10, .int .i64 64] h Q :=
  Cal.prim (p := parseP) rfl (by simp only [parseP]; rw [if_pos ⟨trivial, trivial, hs⟩]) q
theorem join_cal {i n : Nat} {vs : List CVal} {wr : Bool} {opn : Option Nat} {xs : List (List UInt8)} {s : List UInt8} {h : Heap} {Q : CVal → Heap → Prop} (g : h.get i = some (.cells vs wr opn)) (h0 : n ≠ 0) (hn : n ≤ 140737488355328) (hx : strsC (vs.take n) = some xs) (hl : xs.length = n) (hb : (Lib.join xs s).length ≤ 140737488355328) (q : Q (.str (Lib.join xs s)) h) :
    Cal tt 20 [.slice i 0 n n, .str s] h Q := Cal.prim (p := joinP) rfl (by simp only [joinP, if_neg h0, g, List.drop_zero, hx]; rw [if_pos ⟨hl, hn, hb⟩]) q
end Go.Proofs.YtmppoknfekdbbaaDoor.Cm
