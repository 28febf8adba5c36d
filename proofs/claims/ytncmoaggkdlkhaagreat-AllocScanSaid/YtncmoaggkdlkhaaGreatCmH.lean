/-
  The clean machine, and what the law's functions do in it: part H of this claim's own texts. No conditions.
-/
import Derived.Test.YtncmoaggkdlkhaaGreatCmG
import Derived.Test.YtncmoaggkdlkhaaGreatCmC
import Derived.Test.YtncmoaggkdlkhaaGreatCmE
import Derived.WalkKit
import Derived.Maps.RangeWalk
import Derived.Test.YtncmoaggkdlkhaaGreatShelf
import Derived.DeepKeys4
import Derived.Test.YtncmoaggkdlkhaaGreatCmF
namespace Go.Proofs.YtncmoaggkdlkhaaGreat.Cm
set_option maxRecDepth 100000 in
def ft : FT := (.node 55 c55 (.node 28 c28 (.node 15 c15 (.node 9 c9 (.node 6 c6 (.node 4 c4 (.node 3 c3 .leaf .leaf) (.node 5 c5 .leaf .leaf)) (.node 8 c8 (.node 7 c7 .leaf .leaf) .leaf)) (.node 12 c12 (.node 11 c11 (.node 10 c10 .leaf .leaf) .leaf) (.node 14 c14 (.node 13 c13 .leaf .leaf) .leaf))) (.node 22 c22 (.node 19 c19 (.node 17 c17 (.node 16 c16 .leaf .leaf) (.node 18 c18 .leaf .leaf)) (.node 21 c21 (.node 20 c20 .leaf .leaf) .leaf)) (.node 25 c25 (.node 24 c24 (.node 23 c23 .leaf .leaf) .leaf) (.node 27 c27 (.node 26 c26 .leaf .leaf) .leaf)))) (.node 41 c41 (.node 35 c35 (.node 32 c32 (.node 30 c30 (.node 29 c29 .leaf .leaf) (.node 31 c31 .leaf .leaf)) (.node 34 c34 (.node 33 c33 .leaf .leaf) .leaf)) (.node 38 c38 (.node 37 c37 (.node 36 c36 .leaf .leaf) .leaf) (.node 40 c40 (.node 39 c39 .leaf .leaf) .leaf))) (.node 47 c47 (.node 44 c44 (.node 43 c43 (.node 42 c42 .leaf .leaf) .leaf) (.node 46 c46 (.node 45 c45 .leaf .leaf) .leaf)) (.node 50 c50 (.node 49 c49 (.node 48 c48 .leaf .leaf) .leaf) (.node 54 c54 (.node 53 c53 .leaf .leaf) .leaf))))) (.node 81 c81 (.node 68 c68 (.node 62 c62 (.node 59 c59 (.node 57 c57 (.node 56 c56 .leaf .leaf) (.node 58 c58 .leaf .leaf)) (.node 61 c61 (.node 60 c60 .leaf .leaf) .leaf)) (.node 65 c65 (.node 64 c64 (.node 63 c63 .leaf .leaf) .leaf) (.node 67 c67 (.node 66 c66 .leaf .leaf) .leaf))) (.node 75 c75 (.node 72 c72 (.node 71 c71 (.node 69 c69 .leaf .leaf) .leaf) (.node 74 c74 (.node 73 c73 .leaf .leaf) .leaf)) (.node 78 c78 (.node 77 c77 (.node 76 c76 .leaf .leaf) .leaf) (.node 80 c80 (.node 79 c79 .leaf .leaf) .leaf)))) (.node 97 c97 (.node 91 c91 (.node 88 c88 (.node 86 c86 (.node 85 c85 .leaf .leaf) (.node 87 c87 .leaf .leaf)) (.node 90 c90 (.node 89 c89 .leaf .leaf) .leaf)) (.node 94 c94 (.node 93 c93 (.node 92 c92 .leaf .leaf) .leaf) (.node 96 c96 (.node 95 c95 .leaf .leaf) .leaf))) (.node 107 c107 (.node 103 c103 (.node 102 c102 (.node 101 c101 .leaf .leaf) .leaf) (.node 106 c106 (.node 105 c105 .leaf .leaf) .leaf)) (.node 122 c122 (.node 120 c120 (.node 119 c119 .leaf .leaf) .leaf) (.node 136 c136 (.node 133 c133 .leaf .leaf) .leaf))))))
set_option maxRecDepth 100000 in
theorem ft_ok : ft.Ok prog glb := ⟨compFunc_R mixed rfl ok55, ⟨compFunc_R mixed rfl ok28, ⟨compFunc_R mixed rfl ok15, ⟨compFunc_R mixed rfl ok9, ⟨compFunc_R mixed rfl ok6, ⟨compFunc_R mixed rfl ok4, ⟨compFunc_R mixed rfl ok3, trivial, trivial⟩, ⟨compFunc_R mixed rfl ok5, trivial, trivial⟩⟩, ⟨compFunc_R mixed rfl ok8, ⟨compFunc_R mixed rfl ok7, trivial, trivial⟩, trivial⟩⟩, ⟨compFunc_R mixed rfl ok12, ⟨compFunc_R mixed rfl ok11, ⟨compFunc_R mixed rfl ok10, trivial, trivial⟩, trivial⟩, ⟨compFunc_R mixed rfl ok14, ⟨compFunc_R mixed rfl ok13, trivial, trivial⟩, trivial⟩⟩⟩, ⟨compFunc_R mixed rfl ok22, ⟨compFunc_R mixed rfl ok19, ⟨compFunc_R mixed rfl ok17, ⟨compFunc_R mixed rfl ok16, trivial, trivial⟩, ⟨compFunc_R mixed rfl ok18, trivial, trivial⟩⟩, ⟨compFunc_R mixed rfl ok21, ⟨compFunc_R mixed rfl ok20, trivial, trivial⟩, trivial⟩⟩, ⟨compFunc_R mixed rfl ok25, ⟨compFunc_R mixed rfl ok24, ⟨compFunc_R mixed rfl ok23, trivial, trivial⟩, trivial⟩, ⟨compFunc_R mixed rfl ok27, ⟨compFunc_R mixed rfl ok26, trivial, trivial⟩, trivial⟩⟩⟩⟩, ⟨compFunc_R mixed rfl ok41, ⟨compFunc_R mixed rfl ok35, ⟨compFunc_R mixed rfl ok32, ⟨compFunc_R mixed rfl ok30, ⟨compFunc_R mixed rfl ok29, trivial, trivial⟩, ⟨compFunc_R mixed rfl ok31, trivial, trivial⟩⟩, ⟨compFunc_R mixed rfl ok34, ⟨compFunc_R mixed rfl ok33, trivial, trivial⟩, trivial⟩⟩, ⟨compFunc_R mixed rfl ok38, ⟨compFunc_R mixed rfl ok37, ⟨compFunc_R mixed rfl ok36, trivial, trivial⟩, trivial⟩, ⟨compFunc_R mixed rfl ok40, ⟨compFunc_R mixed rfl ok39, trivial, trivial⟩, trivial⟩⟩⟩, ⟨compFunc_R mixed rfl ok47, ⟨compFunc_R mixed rfl ok44, ⟨compFunc_R mixed rfl ok43, ⟨compFunc_R mixed rfl ok42, trivial, trivial⟩, trivial⟩, ⟨compFunc_R mixed rfl ok46, ⟨compFunc_R mixed rfl ok45, trivial, trivial⟩, trivial⟩⟩, ⟨compFunc_R mixed rfl ok50, ⟨compFunc_R mixed rfl ok49, ⟨compFunc_R mixed rfl ok48, trivial, trivial⟩, trivial⟩, ⟨compFunc_R mixed rfl ok54, ⟨compFunc_R mixed rfl ok53, trivial, trivial⟩, trivial⟩⟩⟩⟩⟩, ⟨compFunc_R mixed rfl ok81, ⟨compFunc_R mixed rfl ok68, ⟨compFunc_R mixed rfl ok62, ⟨compFunc_R mixed rfl ok59, ⟨compFunc_R mixed rfl ok57, ⟨compFunc_R mixed rfl ok56, trivial, trivial⟩, ⟨compFunc_R mixed rfl ok58, trivial, trivial⟩⟩, ⟨compFunc_R mixed rfl ok61, ⟨compFunc_R mixed rfl ok60, trivial, trivial⟩, trivial⟩⟩, ⟨compFunc_R mixed rfl ok65, ⟨compFunc_R mixed rfl ok64, ⟨compFunc_R mixed rfl ok63, trivial, trivial⟩, trivial⟩, ⟨compFunc_R mixed rfl ok67, ⟨compFunc_R mixed rfl ok66, trivial, trivial⟩, trivial⟩⟩⟩, ⟨compFunc_R mixed rfl ok75, ⟨compFunc_R mixed rfl ok72, ⟨compFunc_R mixed rfl ok71, ⟨compFunc_R mixed rfl ok69, trivial, trivial⟩, trivial⟩, ⟨compFunc_R mixed rfl ok74, ⟨compFunc_R mixed rfl ok73, trivial, trivial⟩, trivial⟩⟩, ⟨compFunc_R mixed rfl ok78, ⟨compFunc_R mixed rfl ok77, ⟨compFunc_R mixed rfl ok76, trivial, trivial⟩, trivial⟩, ⟨compFunc_R mixed rfl ok80, ⟨compFunc_R mixed rfl ok79, trivial, trivial⟩, trivial⟩⟩⟩⟩, ⟨compFunc_R mixed rfl ok97, ⟨compFunc_R mixed rfl ok91, ⟨compFunc_R mixed rfl ok88, ⟨compFunc_R mixed rfl ok86, ⟨compFunc_R mixed rfl ok85, trivial, trivial⟩, ⟨compFunc_R mixed rfl ok87, trivial, trivial⟩⟩, ⟨compFunc_R mixed rfl ok90, ⟨compFunc_R mixed rfl ok89, trivial, trivial⟩, trivial⟩⟩, ⟨compFunc_R mixed rfl ok94, ⟨compFunc_R mixed rfl ok93, ⟨compFunc_R mixed rfl ok92, trivial, trivial⟩, trivial⟩, ⟨compFunc_R mixed rfl ok96, ⟨compFunc_R mixed rfl ok95, trivial, trivial⟩, trivial⟩⟩⟩, ⟨compFunc_R mixed rfl ok107, ⟨compFunc_R mixed rfl ok103, ⟨compFunc_R mixed rfl ok102, ⟨compFunc_R mixed rfl ok101, trivial, trivial⟩, trivial⟩, ⟨compFunc_R mixed rfl ok106, ⟨compFunc_R mixed rfl ok105, trivial, trivial⟩, trivial⟩⟩, ⟨compFunc_R mixed rfl ok122, ⟨compFunc_R mixed rfl ok120, ⟨compFunc_R mixed rfl ok119, trivial, trivial⟩, trivial⟩, ⟨compFunc_R mixed rfl ok136, ⟨compFunc_R mixed rfl ok133, trivial, trivial⟩, trivial⟩⟩⟩⟩⟩⟩
def rounds : List (Nat × Nat × RoundC) := [(61, 0, r61_0)]
abbrev tab0 : Tab := ft.tabR rounds
set_option maxRecDepth 100000 in
theorem tabOk : TabOk prog glb tab0 := FT.tabR_ok ft_ok ⟨compRound_R mixed rfl okr61_0, trivial⟩
def isTrue : Option (CVal × Heap) → Bool
 | some (.bool true, _) => true
 | _ => false
end Go.Proofs.YtncmoaggkdlkhaaGreat.Cm
namespace Go.Proofs.YtncmoaggkdlkhaaGreat.Cm
open Go Go.RowKit Go.Maps Go.WideElems
theorem Come.entry {P : Program} {w0 w : World} {b r clock : Nat} {E : Array MapEntry} {pd : MapEntry → Bool} {seen : Array Nat} {e : MapEntry} (h : Come w0 b r E clock pd seen e w) (hn : (E.toList.map (·.born)).Nodup) :
 (Instr.entry (.pointer (some ⟨r, 0, none⟩))).run P w = .ok (.tuple #[e.key, e.val]) w := by
 obtain ⟨hm, hs, E', hb, hE, hr, hg⟩ := h
 refine run_entry_at (P := P) w r b clock seen E' clock e hr hb ?_ ?_
 ·rw [hE]; exact List.mem_filter.2 ⟨hm, by rw [hs]; rfl⟩
 ·rw [hE]; exact (List.filter_sublist.map _).nodup hn
theorem Strk.less {w0 w w' : World} {b r clock : Nat} {E : Array MapEntry} {pd : MapEntry → Bool} {seen : Array Nat} {x : MapEntry} (h : Strk w0 b r E clock pd seen w) (h' : Strk w0 b r E clock pd (seen.push x.born) w') (hm : x ∈ E.toList) (hs : seen.contains x.born = false) :
 w'.rangeLeft b r < w.rangeLeft b r := by
 rw [h.left, h'.left]
 have e1 : (E.toList.filter fun e => !(seen.push x.born).contains e.born) = (E.toList.filter fun e => !seen.contains e.born).filter fun e => !(e.born == x.born) := by
  rw [List.filter_filter]
  refine List.filter_congr fun e _ => ?_
  rw [contains_push]
  cases seen.contains e.born <;> cases e.born == x.born <;> rfl
 rw [e1]
 exact List.length_filter_lt_length_iff_exists.2 ⟨x, List.mem_filter.2 ⟨hm, by rw [hs]; rfl⟩, by simp⟩
theorem cell_kept {w1 w2 : World} {cs : Array Value} {ty : TypeId} (hg : (w1.alloc (.cells cs ty)).grownBy w2 none) {i : Nat} {v : Value} (h : cs[i]? = some v) : w2.cell? ⟨w1.heap.size, i, none⟩ = some v := by
 have h1 : w2.heap[w1.heap.size]? = some (.cells cs ty (0, 0)) := by
  rw [hg.block w1.heap.size (by simp) (by simp)]
  exact (MapKept.heap_alloc w1 _).1
 simp [World.cell?, h1, h]
section
variable {P : Program} {ops : Array Oper} {rest : List Oper} {o : Oper} {a : Act} {Q : Exit → Act → World → Prop} {w w0 : World} {b r clock : Nat} {E : Array MapEntry} {pd : MapEntry → Bool} {seen : Array Nat} {k e : TypeId}
theorem wpL_range (hg : o.guard = none) (m : Operand) (t : TypeId) (hop : o.op = Op.range t m) (ht : P.underlying t = some (.map k e)) (hm : a.eval m = .map (some b)) (hb : w.heap[b]? = some (.map E clock)) (pd : MapEntry → Bool)
 (hK : ∀ w', Strk w b w.heap.size E clock pd #[] w' → wpList P ops Q rest (a.put o.dst (.pointer (some ⟨w.heap.size, 0, none⟩))) w') : wpList P ops Q (o :: rest) a w := by
 refine wpList_plain hg fun K' hK' => ?_
 obtain ⟨w', hrun, r1⟩ := Strk.start (pd := pd) ht hb
 unfold Oper.wp
 simp [execOp, hop, hm, hrun, Result.andThen]
 exact hK' _ _ (hK w' r1)
theorem wpL_next (hg : o.guard = none) (it : Operand) (hop : o.op = Op.next it false) (hit : a.eval it = .pointer (some ⟨r, 0, none⟩)) (h : Strk w0 b r E clock pd seen w) (hrb : r ≠ b) (hr0 : w0.heap.size ≤ r) (hold : ∀ x ∈ E.toList, x.born < clock)
 (hDone : (∀ x ∈ E.toList, seen.contains x.born = true) → wpList P ops Q rest (a.put o.dst (.tuple #[.bool false])) w)
 (hMore : ∀ (x : MapEntry) (w' : World), Come w0 b r E clock pd seen x w' → wpList P ops Q rest (a.put o.dst (.tuple #[.bool true, x.key, x.val])) w') : wpList P ops Q (o :: rest) a w := by
 refine wpList_plain hg fun K' hK' => ?_
 unfold Oper.wp
 rcases h.next (P := P) hrb hr0 hold o.type with ⟨hall, hrun⟩ | ⟨x, w', hrun, hc⟩
 ·simp [execOp, hop, hit, hrun, Result.andThen]
  exact hK' _ _ (hDone hall)
 ·simp [execOp, hop, hit, hrun, Result.andThen]
  exact hK' _ _ (hMore x w' hc)
theorem wpL_delete {H : Type} {R : Value → Option (DataW H × List MemPlace)} {kl : Lit} {x : MapEntry} (hg : o.guard = none) (m y : Operand) (t : TypeId) (hop : o.op = Op.call { callee := Callee.builtin Builtin.delete, args := #[m, y], argTypes := #[t, k] })
 (K : Keyed P k) (ht : P.underlying t = some (.map k e)) (hm : a.eval m = .map (some b)) (h : Come w0 b r E clock pd seen x w) (hrb : r ≠ b) (F : Fit P k R E clock) (hy : a.eval y = x.key) (hkey : keyOf P k x.key = some kl) (hp : pd x = true)
 (hK : ∀ w', Strk w0 b r E clock pd (seen.push x.born) w' → wpList P ops Q rest (a.put o.dst (.tuple #[])) w') : wpList P ops Q (o :: rest) a w := by
 refine wpList_plain hg fun K' hK' => ?_
 obtain ⟨w', hrun, r1⟩ := h.drop hrb K ht F hkey hp o.type
 unfold Oper.wp
 simp [execOp, hop, resolve, invoke, builtin, hm, hy, hrun, Result.andThen]
 exact hK' _ _ (hK w' r1)
end
set_option maxRecDepth 100000 in
set_option maxHeartbeats 1000000 in
theorem del_raw (g : Nat) (cb : Array Value) (b clock : Nat) (E : Array MapEntry) (pd : MapEntry → Bool) (w : World) (K : Keyed Tryz.prog 93) (hb : w.heap[b]? = some (.map E clock)) (F : Fit Tryz.prog 93 (fun _ => some ((.nil : DataW Unit), [])) E clock)
 (hk : ∀ x ∈ E.toList, ∃ p q : Int, x.key = .agg #[.int .i64 p, .int .i64 q]) (hv : ∀ x ∈ E.toList, ∃ n : Int, x.val = .int .i64 n)
 {kl : MapEntry → Lit} (hkey : ∀ x ∈ E.toList, keyOf Tryz.prog 93 x.key = some (kl x))
 (eg : ∀ args w, (callFunc g args).run Tryz.prog w = .ok (.enter g args) w)
 (hdel : ∀ (W : World) (x : MapEntry), x ∈ E.toList → w.grownBy W (some b) → Calls Tryz.prog g (#[x.key, x.val] ++ cb) W fun e w' => e = .returned (.bool (pd x)) ∧ W.grownBy w' none) :
 Calls Tryz.prog 70 #[.map (some b), .func (.func g) #[] cb] w fun e w' => e = .returned (.tuple #[]) ∧ ∃ E' : Array MapEntry, w'.heap[b]? = some (.map E' clock) ∧ E'.toList = E.toList.filter (fun x => !pd x) ∧ w.grownBy w' (some b) := by
 have hst := (MapKept.stamped_iff E clock).1 F.stamped
 have hblt : b < w.heap.size := (Array.getElem?_eq_some_iff.1 hb).1
 go_enter Tryz.func70, Tryz.ntmps70
 go_wp2_with (first
  | (at_range; refine wpL_range rfl _ 81 rfl Tryz.underlying81 rfl hb pd ?_; intro w0 hs0)
  | go_in)
 go_frame
 go_loopw [8] (fun _ wr => ∃ seen, Strk w b w.heap.size E clock pd seen wr) (fun _ wr => wr.rangeLeft b w.heap.size)
 case atStart => exact ⟨_, hs0⟩
 case round =>
  obtain ⟨seen, hS⟩ := hrel
  go_wp2_with (first
   | (at_next; refine wpL_next rfl _ rfl rfl hS (by omega) (Nat.le_refl _) hst.1 ?_ ?_)
   | go_in)
  ·intro hall
   go_wp2
   go_end0
   exact ⟨rfl, hS.done (by simpa using hall)⟩
  ·intro x w1 hC
   have hen := hC.entry (P := Tryz.prog) hst.2.1
   have hm := hC.1
   obtain ⟨p, q, ekey⟩ := hk x hm
   obtain ⟨n, eval⟩ := hv x hm
   have hc := fun W => hdel W x hm
   rw [ekey, eval] at hen hc
   rw [ekey, eval]
   have hgw : w.grownBy w1 (some b) := by obtain ⟨_, _, _, _, _, _, hg⟩ := hC; exact hg
   cases hp : pd x <;> rw [hp] at hc
   ·go_wp2_with (first
     | (go_at_fn g; refine (hc _ ?_).mono ?_; rotate_left; rintro e w2 ⟨rfl, hg2⟩)
     | go_in)
    ·have hC2 := (hC.kept (World.grownBy_alloc w1 _ none)).kept hg2
     have hS2 := hC2.stay hst.2.1 hp
     exact ⟨⟨_, hS2⟩, hS.less hS2 hm hC.2.1⟩
    ·exact hgw.andThen (World.grownBy_alloc w1 _ none) (fun j hj => by cases hj)
   ·go_wp2_with (first
     | (go_at_fn g; refine (hc _ ?_).mono ?_; rotate_left; rintro e w2 ⟨rfl, hg2⟩; have c0 := cell_kept hg2 (i := 0) rfl; have c1 := cell_kept hg2 (i := 1) rfl)
     | (at_delete; refine wpL_delete rfl _ _ 81 rfl K Tryz.underlying81 rfl ((hC.kept (World.grownBy_alloc w1 _ none)).kept hg2) (by omega) F ekey.symm (hkey x hm) hp ?_; intro w3 hS3; go_frame)
     | go_in)
    ·exact ⟨⟨_, hS3⟩, hS.less hS3 hm hC.2.1⟩
    ·exact hgw.andThen (World.grownBy_alloc w1 _ none) (fun j hj => by cases hj)
end Go.Proofs.YtncmoaggkdlkhaaGreat.Cm
namespace Go.Proofs.YtncmoaggkdlkhaaGreat.Cm
open Go Go.RowKit Go.Maps Go.WideElems Go.Sort Go.Shelf
theorem keysK : PrimOk prog glb 52 (keysP 84) := keys_ok ⟨_, Tryz.func52, by kernel_rfl, by kernel_rfl⟩ (T := 82) fun b w =>
 callsIn_wide.1 (AnyZI.keys_in Tryz.keysA Fence.wide 5 trivial rfl (some b) w)
theorem sortsK (m : Nat) : AnyZI.SortsIn Tryz.prog Tryz.sortedA_ren Fence.wide m :=
 ⟨fun blk off cap ss W hH hblk hsz => callsIn_wide.2 (AnyM.slices_Sort_int Tryz.sortA blk off cap ss W hH hblk hsz),
  fun p cap W => callsIn_wide.2 (AnyM.slices_Sort_int_none Tryz.sortA p cap W)⟩
theorem sortedK : PrimOk prog glb 51 (sortedP 84) := sorted_ok ⟨_, Tryz.func51, by kernel_rfl, by kernel_rfl⟩ (T := 3) fun A b clock E ks w hA hb keys hr nd bn bc hs => by
 obtain ⟨D, hown, hp, hsz⟩ := ownsMap_ints (k := 3) Tryz.underlying3 hb keys hr nd bn bc hs
 have hAlt : A < w.heap.size := by
  unfold World.cell? at hA
  split at hA
  ·next hb => exact (Array.getElem?_eq_some_iff.1 hb).1
  ·simp at hA
 have hseq : SeqGives Fence.wide 2 Tryz.prog 84 #[.pointer (some ⟨A, 0, none⟩)] encZ (fun ss => ss.Perm (intKeys D)) (Maps.size D) w :=
  AnyZI.keys_gives (ρ := Tryz.keysA_ren) { Tryz.keysA with } Fence.wide _ trivial rfl (by omega) A b E.size D _ hAlt hA hown
 have mx : Maps.size D ≤ maxLen := by have : (1000000 : Nat) ≤ maxLen := by decide
                                      omega
 have cS := AnyZI.sorted_in Tryz.sortedA Fence.wide 5 trivial trivial trivial trivial rfl (by omega) (sortsK _) (enters_of Tryz.func83 (by kernel_rfl) rfl) 84 #[.pointer (some ⟨A, 0, none⟩)] trivial (enters_of Tryz.func84 (by kernel_rfl) rfl) _ _ mx (by omega) _ hseq
 refine (callsIn_wide.1 cS).mono ?_
 rintro e w' ⟨v, ss, rfl, hS, hrow, hnil, hbl⟩
 have hpk := hS.trans hp
 rw [isort_merge hpk, hpk.length_eq] at hrow
 exact ⟨v, rfl, hrow, hnil.trans ⟨fun e => by subst e; exact List.nil_perm.1 hpk, fun e => by subst e; exact List.perm_nil.1 hpk⟩, hbl⟩
theorem laidOutK : laidOutB Tryz.prog = true := by kernel_rfl
theorem holdKeyed : Keyed Tryz.prog 93 := Keyed.of_law (deep_law_laid laidOutK (m := 2) (by omega) (of_decide_eq_true (by kernel_rfl)) (by kernel_rfl) (by kernel_rfl))
theorem wf_i64 {n : Int} (h : -9223372036854775808 ≤ n ∧ n ≤ 9223372036854775807) : (Lit.int .i64 n).wf = true := by
 show (decide (IntKind.i64.min ≤ n) && decide (n ≤ IntKind.i64.max)) = true
 have e1 : IntKind.i64.min = -9223372036854775808 := by decide
 have e2 : IntKind.i64.max = 9223372036854775807 := by decide
 rw [Bool.and_eq_true, decide_eq_true_eq, decide_eq_true_eq]
 omega
theorem keyLits_i64 {d : Nat} {n : Int} (h : (Lit.int .i64 n).wf = true) : Tryz.prog.keyLits (d + 1) 3 [.int .i64 n] = some [.int .i64 n] := by
 unfold Program.keyLits
 rw [Tryz.underlying3]
 simp [h]
theorem sizeK : ∃ m, Tryz.prog.types.size = m + 1 := ⟨_, (by kernel_rfl : Tryz.prog.types.size = (Tryz.prog.types.size - 1) + 1)⟩
theorem holdKey {p q : Int} (hp : (Lit.int .i64 p).wf = true) (hq : (Lit.int .i64 q).wf = true) : ∃ kl, keyOf Tryz.prog 93 (.agg #[.int .i64 p, .int .i64 q]) = some kl := by
 obtain ⟨m, hm⟩ := sizeK
 have hk : Tryz.prog.keyType 93 = true := by kernel_rfl
 have hc : Tryz.prog.cellsOf 93 = 2 := by kernel_rfl
 have hi : Tryz.prog.cellsOf 3 = 1 := by kernel_rfl
 have hf : (Value.agg #[.int .i64 p, .int .i64 q]).formed Tryz.prog 93 = true := by
  simp [Value.formed, Tryz.underlying93, hc]
 have hl : Tryz.prog.keyLits (Tryz.prog.types.size + 1) 93 [.int .i64 p, .int .i64 q] = some [.int .i64 p, .int .i64 q] := by
  rw [hm]
  unfold Program.keyLits
  rw [Tryz.underlying93]
  simp [hc, hi, keyLits_i64 hp, keyLits_i64 hq]
 refine ⟨.string (keyBytes [.int .i64 p, .int .i64 q]), ?_⟩
 unfold keyOf
 rw [Tryz.underlying93]
 simp only [hk, hf, Bool.and_self, if_true]
 rw [show (Value.agg #[.int .i64 p, .int .i64 q]).cells.toList = [.int .i64 p, .int .i64 q] from rfl, hl]
 rfl
set_option maxHeartbeats 400000 in
theorem leaveC_raw (p q n pid : Int) (bx o : Nat) (W : World) (hx : W.cell? ⟨bx, o, none⟩ = some (.int .i64 pid)) :
 Calls Tryz.prog 71 (#[.agg #[.int .i64 p, .int .i64 q], .int .i64 n] ++ #[.pointer (some ⟨bx, o, none⟩)]) W fun e w' => e = .returned (.bool (p == pid)) ∧ W.grownBy w' none := by
 have hlt : bx < W.heap.size := by
  unfold World.cell? at hx
  split at hx
  ·next hb => exact (Array.getElem?_eq_some_iff.1 hb).1
  ·simp at hx
 have hx2 : ∀ ob, (W.alloc ob).cell? ⟨bx, o, none⟩ = some (.int .i64 pid) := fun ob => (World.cell?_of_block (a := ⟨bx, o, none⟩) ((MapKept.heap_alloc W ob).2 bx hlt)).trans hx
 go_enter Tryz.func71, Tryz.ntmps71
 go_wp2
 go_ret
 exact ⟨rfl, World.grownBy_alloc W _ none⟩
theorem delK : PrimOk prog glb 70 (delP 71) := del_ok ⟨_, Tryz.func70, by kernel_rfl, by kernel_rfl⟩ fun b clock bx o pid E ks w hb hpe hr hnd bn bc hs hx hne => by
 obtain ⟨hkeys, hmem⟩ := hpe.get
 have hkey : ∀ x ∈ E.toList, ∃ kl, keyOf Tryz.prog 93 x.key = some kl := fun x hx => by
  obtain ⟨k, hk, e, _⟩ := hmem x hx
  rw [e]
  exact holdKey (wf_i64 (hr k hk).1) (wf_i64 (hr k hk).2)
 have hmax : (1000000 : Nat) ≤ maxLen := by decide
 have hbl : bx < w.heap.size := by
  unfold World.cell? at hx
  split at hx
  ·next hb => exact (Array.getElem?_eq_some_iff.1 hb).1
  ·simp at hx
 refine del_raw 71 #[.pointer (some ⟨bx, o, none⟩)] b clock E (pdPid pid) w holdKeyed hb ⟨by omega, ⟨bc, bn, ?_⟩, fun x hx => ?_⟩ (fun x hx => ?_) (fun x hx => ?_) (kl := fun x => (keyOf Tryz.prog 93 x.key).getD (.bool false)) (fun x hx => ?_) (enters_of Tryz.func71 (by kernel_rfl) rfl) (fun W x hxm hgr => ?_)
 ·rw [hkeys]
  exact List.Pairwise.map _ (fun a b h e => h (by simpa [Prod.ext_iff] using e)) hnd
 ·obtain ⟨kl, e⟩ := hkey x hx
  exact ⟨(kl, .nil), by simp only [WideElems.rd, e, Option.bind_some, Option.map_some]⟩
 ·obtain ⟨k, hk, e, _⟩ := hmem x hx
  exact ⟨_, _, e⟩
 ·obtain ⟨k, hk, _, n, e⟩ := hmem x hx
  exact ⟨n, e⟩
 ·obtain ⟨kl, e⟩ := hkey x hx
  rw [e]; rfl
 ·obtain ⟨k, hk, e1, n, e2⟩ := hmem x hxm
  have hx' : W.cell? ⟨bx, o, none⟩ = some (.int .i64 pid) := (World.cell?_of_block (a := ⟨bx, o, none⟩) (hgr.block bx hbl (fun e => hne (by simpa using e)))).trans hx
  have ep : pdPid pid x = (k.1 == pid) := by unfold pdPid; rw [e1]; rfl
  rw [e1, e2, ep]
  exact leaveC_raw k.1 k.2 n pid bx o W hx'
def tl : Tab := ((tab0.with 52 (keysP 84)).with 51 (sortedP 84)).with 70 (delP 71)
theorem tl_ok : TabOk prog glb tl := ((tabOk.with keysK).with sortedK).with delK
end Go.Proofs.YtncmoaggkdlkhaaGreat.Cm
namespace Go.Proofs.YtncmoaggkdlkhaaGreat.Cm
open Go Go.RowKit
theorem awakeK : isTrue (callF tl 6000 (fId 10) [] (Heap.empty 0)) = true := by kernel_rfl
theorem isTrue_of {x : Option (CVal × Heap)} (h : isTrue x = true) : ∃ h', x = some (.bool true, h') := by
 unfold isTrue at h
 split at h
 ·exact ⟨_, rfl⟩
 ·simp at h
def tt : Tab := tl.with 10 (closedP (.bool true))
theorem tt_ok : TabOk prog glb tt := by
 obtain ⟨h1, e1⟩ := isTrue_of awakeK
 exact tl_ok.with (closed_ok (callF_ok tl_ok 6000) e1)
theorem awake_cal {h : Heap} {Q : CVal → Heap → Prop} (q : Q (.bool true) h) : Cal tt 10 [] h Q := Cal.prim (p := closedP (.bool true)) rfl rfl q
end Go.Proofs.YtncmoaggkdlkhaaGreat.Cm
namespace Go.Proofs.YtncmoaggkdlkhaaGreat.Cm
open Go.RowKit Go.IntWalk
attribute [local irreducible] Heap.set Heap.new Heap.kill Heap.get Heap.room Cal WP
theorem RIn.head {h : Heap} {v : CVal} {R : List Int} (s : RIn h v R) : (v = .nilSlice ∧ R = []) ∨ ∃ i o l c, v = .slice i o l c := by
 rcases s with ⟨s, e⟩ | ⟨i, o, c, s, _⟩
 ·exact .inl ⟨s, e⟩
 ·exact .inr ⟨i, o, _, c, s⟩
theorem RIn.len {h : Heap} {v : CVal} {R : List Int} (s : RIn h v R) : (v = .nilSlice ∧ R.length = 0) ∨ ∃ i o c, v = .slice i o R.length c := by
 rcases s with ⟨s, e⟩ | ⟨i, o, c, s, _⟩
 ·exact .inl ⟨s, by rw [e]; rfl⟩
 ·exact .inr ⟨i, o, c, s⟩
theorem i64_of_wf {n : Int} (h : (Lit.int .i64 n).wf = true) : -9223372036854775808 ≤ n ∧ n ≤ 9223372036854775807 := by
 have w2 : (decide (IntKind.i64.min ≤ n) && decide (n ≤ IntKind.i64.max)) = true := h
 rw [Bool.and_eq_true, decide_eq_true_eq, decide_eq_true_eq] at w2
 have e1 : IntKind.i64.min = -9223372036854775808 := by decide
 have e2 : IntKind.i64.max = 9223372036854775807 := by decide
 omega
def I64 (R : List Int) : Prop := ∀ n ∈ R, -9223372036854775808 ≤ n ∧ n ≤ 9223372036854775807
theorem ArgSl.rin {h : Heap} {v : CVal} {len : Nat} {zs : List Int} (s : ArgSl h v .i64 len zs) : RIn h v (zs.take len) ∧ I64 (zs.take len) := by
 obtain ⟨h1, h2, h3⟩ := s
 have hl : (zs.take len).length = len := by rw [List.length_take]; omega
 refine ⟨?_, fun n hn => i64_of_wf (h2 n (List.mem_of_mem_take hn))⟩
 rcases h3 with ⟨rfl, rfl⟩ | ⟨i, rfl, hi, h4⟩
 ·exact .inl ⟨rfl, by simp⟩
 ·refine .inr ⟨i, 0, zs.length, by rw [hl], hi, ?_⟩
  rcases h4 with rfl | g
  ·exact .inl (by simp)
  ·exact .inr ⟨_, _, _, g, fun j hj => by
    rw [hl] at hj
    rw [Nat.zero_add, List.getElem?_map, List.getElem?_eq_getElem (by omega), List.getElem_take]
    rfl⟩
def mayU (R : List Int) : Bool := R.all fun n => decide (0 ≤ n) && decide (n ≤ 1000)
theorem mayU_iff {R : List Int} : mayU R = true ↔ ∀ n ∈ R, 0 ≤ n ∧ n ≤ 1000 := by simp [mayU]
theorem mayU_at {R : List Int} {j : Nat} (hj : j < R.length) (h : ¬ (0 ≤ R[j] ∧ R[j] ≤ 1000)) : mayU R = false := by
 cases e : mayU R
 ·rfl
 ·exact absurd (mayU_iff.1 e _ (List.getElem_mem hj)) h
theorem umay_cal {v : CVal} {R : List Int} {h : Heap} {Q : CVal → Heap → Prop} (hr : RIn h v R) (hl : R.length ≤ 1000000000) (k : Q (.bool (mayU R)) h) : Cal tt 72 [v] h Q := by
 refine Cal.run rfl rfl rfl rfl ?_
 rcases hr with ⟨rfl, rfl⟩ | ⟨i, o, c, rfl, hi, ra⟩
 ·(repeat' first | refine go ?_ | refine idxS_ fun _ _ _ => ?_ | refine sp (fun _ => ?_) fun _ => ?_ | fail)
  refine loop1 ?_
  (repeat' first | refine go ?_ | refine idxS_ fun _ _ _ => ?_ | refine sp (fun _ => ?_) fun _ => ?_ | fail)
  exact k
 ·(repeat' first | refine go ?_ | refine idxS_ fun _ _ _ => ?_ | refine sp (fun _ => ?_) fun _ => ?_ | fail)
  refine loopC (fun j : Nat => [(0, .slice i o R.length c), (2, .bool false), (5, .slice i o R.length c), (6, .int .i64 R.length), (7, .int .i64 j)]) (fun j h' => h' = h ∧ j ≤ R.length ∧ ∀ p (hp : p < j) (hp' : p < R.length), 0 ≤ R[p] ∧ R[p] ≤ 1000) (fun j => R.length - j) 0 ⟨rfl, rfl, rfl, rfl, rfl, trivial⟩ ⟨rfl, Nat.zero_le _, fun p hp => by omega⟩ ?_
  rintro j ρ h' ⟨rfl, hj, ha⟩
  by_cases hjl : j < R.length
  rotate_left
  ·(repeat' first | refine go ?_ | refine idxS_ fun _ _ _ => ?_ | refine sp (fun _ => ?_) fun _ => ?_ | fail)
   have : mayU R = true := mayU_iff.2 fun n hn => by
    obtain ⟨p, hp, rfl⟩ := List.getElem_of_mem hn
    exact ha p (by omega) hp
   rw [this] at k
   exact k
  rcases ra with rfl | ⟨cs, wr, opn, ga, fa⟩
  ·simp at hjl
  have a1 := fa j hjl
  (repeat' first | refine go ?_ | (refine AT.of (by simpa using a1) ?_) | refine idxS_ fun _ _ _ => ?_ | refine sp (fun _ => ?_) fun _ => ?_ | fail)
  all_goals first
   | (rw [mayU_at hjl (by omega)] at k; exact k)
   | (refine ⟨rfl, j + 1, ⟨rfl, rfl, rfl, rfl, rfl, trivial⟩, ⟨rfl, by omega, fun p hp hp' => ?_⟩, by omega⟩
      rcases Nat.lt_or_ge p j with h1 | h1
      ·exact ha p h1 hp'
      ·obtain rfl : p = j := by omega
       omega)
theorem is_cal {v : CVal} {R : List Int} {n : Int} {h : Heap} {Q : CVal → Heap → Prop} (hr : RIn h v R) (hl : R.length ≤ 1000000000) (k : Q (.bool (decide ((R.length : Int) = n) && mayU R)) h) : Cal tt 38 [v, .int .i64 n] h Q := by
 refine Cal.run rfl rfl rfl rfl ?_
 have hr' := hr
 rcases hr.len with ⟨rfl, e⟩ | ⟨i, o, c, rfl⟩
 all_goals
 (repeat' first | refine go ?_ | (refine CALLN.of (umay_cal hr' hl ?_)) | refine idxS_ fun _ _ _ => ?_ | refine sp (fun _ => ?_) fun _ => ?_ | fail)
 all_goals first
  | (rw [decide_eq_true (by omega), Bool.true_and] at k; exact k)
  | (rw [decide_eq_false (by omega), Bool.false_and] at k; exact k)
theorem idxInt_cal {v : CVal} {R : List Int} {x : Int} {h : Heap} {Q : CVal → Heap → Prop} (hr : RIn h v R) (hl : R.length ≤ 1000000000) (k : ∀ r : Int, -1 ≤ r → (0 ≤ r ↔ x ∈ R) → Q (.int .i64 r) h) : Cal tt 73 [v, .int .i64 x] h Q := by
 refine Cal.run rfl rfl rfl rfl ?_
 rcases hr with ⟨rfl, rfl⟩ | ⟨i, o, c, rfl, hi, ra⟩
 ·(repeat' first | refine go ?_ | refine idxS_ fun _ _ _ => ?_ | refine sp (fun _ => ?_) fun _ => ?_ | fail)
  refine loop1 ?_
  (repeat' first | refine go ?_ | refine idxS_ fun _ _ _ => ?_ | refine sp (fun _ => ?_) fun _ => ?_ | fail)
  exact k (-1) (by omega) (by simp)
 ·(repeat' first | refine go ?_ | refine idxS_ fun _ _ _ => ?_ | refine sp (fun _ => ?_) fun _ => ?_ | fail)
  refine loopC (fun j : Nat => [(0, .slice i o R.length c), (1, .int .i64 x), (7, .int .i64 R.length), (8, .int .i64 j)]) (fun j h' => h' = h ∧ j ≤ R.length ∧ ∀ p (hp : p < j) (hp' : p < R.length), R[p] ≠ x) (fun j => R.length - j) 0 ⟨rfl, rfl, rfl, rfl, trivial⟩ ⟨rfl, Nat.zero_le _, fun p hp => by omega⟩ ?_
  rintro j ρ h' ⟨rfl, hj, ha⟩
  by_cases hjl : j < R.length
  rotate_left
  ·(repeat' first | refine go ?_ | refine idxS_ fun _ _ _ => ?_ | refine sp (fun _ => ?_) fun _ => ?_ | fail)
   refine k (-1) (by omega) ⟨fun h => by omega, fun hx => ?_⟩
   obtain ⟨p, hp, e⟩ := List.getElem_of_mem hx
   exact absurd e (ha p (by omega) hp)
  rcases ra with rfl | ⟨cs, wr, opn, ga, fa⟩
  ·simp at hjl
  have a1 := fa j hjl
  (repeat' first | refine go ?_ | (refine AT.of (by simpa using a1) ?_) | refine idxS_ fun _ _ _ => ?_ | refine sp (fun _ => ?_) fun _ => ?_ | fail)
  ·exact k j (by omega) ⟨fun _ => by have := List.getElem_mem hjl; rwa [← ‹x = R[j]›] at this, fun _ => by omega⟩
  ·refine ⟨rfl, j + 1, ⟨rfl, rfl, rfl, rfl, trivial⟩, ⟨rfl, by omega, fun p hp hp' => ?_⟩, by omega⟩
   rcases Nat.lt_or_ge p j with h1 | h1
   ·exact ha p h1 hp'
   ·obtain rfl : p = j := by omega
    exact fun e => ‹¬ x = R[p]› e.symm
theorem hasInt_cal {v : CVal} {R : List Int} {x : Int} {h : Heap} {Q : CVal → Heap → Prop} (hr : RIn h v R) (hl : R.length ≤ 1000000000) (k : Q (.bool (decide (x ∈ R))) h) : Cal tt 39 [v, .int .i64 x] h Q := by
 refine Cal.run rfl rfl rfl rfl ?_
 have hr' := hr
 rcases hr.head with ⟨rfl, _⟩ | ⟨i, o, l, c, rfl⟩
 all_goals
 (repeat' first | refine go ?_ | (refine CALLN.of (idxInt_cal hr' hl fun r h1 h2 => ?_)) | refine idxS_ fun _ _ _ => ?_ | refine sp (fun _ => ?_) fun _ => ?_ | fail)
 all_goals first
  | (rw [decide_eq_true (h2.1 (by omega))] at k; exact k)
  | (rw [decide_eq_false (fun hx => by have := h2.2 hx; omega)] at k; exact k)
theorem inR_cal {x lo hi : Int} {h : Heap} {Q : CVal → Heap → Prop} (k : Q (.bool (decide (lo ≤ x ∧ x ≤ hi))) h) : Cal tt 74 [.int .i64 x, .int .i64 lo, .int .i64 hi] h Q := by
 refine Cal.run rfl rfl rfl rfl ?_
 by_cases hx : lo ≤ x ∧ x ≤ hi
 ·rw [decide_eq_true hx] at k
  (repeat' first | refine go ?_ | refine idxS_ fun _ _ _ => ?_ | refine sp (fun _ => ?_) fun _ => ?_ | fail)
  exact k
 ·rw [decide_eq_false hx] at k
  (repeat' first | refine go ?_ | refine idxS_ fun _ _ _ => ?_ | refine sp (fun _ => ?_) fun _ => ?_ | fail)
  all_goals first
   | (exfalso; omega)
   | exact k
theorem isR_cal {v : CVal} {R : List Int} {n : Int} {h : Heap} {Q : CVal → Heap → Prop} (hr : RIn h v R) (hl : R.length ≤ 1000000000) (k : Q (.bool (decide ((R.length : Int) = n) && mayU R)) h) : Cal tt 41 [v, .int .i64 n] h Q := by
 refine Cal.run rfl rfl rfl rfl ?_
 by_cases hn : (R.length : Int) = n
 rotate_left
 ·rw [decide_eq_false hn, Bool.false_and] at k
  rcases hr.len with ⟨rfl, e⟩ | ⟨i, o, c, rfl⟩
  all_goals
  (repeat' first | refine go ?_ | refine idxS_ fun _ _ _ => ?_ | refine sp (fun _ => ?_) fun _ => ?_ | fail)
  exact k
 rw [decide_eq_true hn, Bool.true_and] at k
 rcases hr with ⟨rfl, rfl⟩ | ⟨i, o, c, rfl, hi, ra⟩
 ·(repeat' first | refine go ?_ | refine idxS_ fun _ _ _ => ?_ | refine sp (fun _ => ?_) fun _ => ?_ | fail)
  refine loop1 ?_
  (repeat' first | refine go ?_ | refine idxS_ fun _ _ _ => ?_ | refine sp (fun _ => ?_) fun _ => ?_ | fail)
  exact k
 ·(repeat' first | refine go ?_ | refine idxS_ fun _ _ _ => ?_ | refine sp (fun _ => ?_) fun _ => ?_ | fail)
  refine loopC (fun j : Nat => [(0, .slice i o R.length c), (4, .bool false), (5, .int .i64 j)]) (fun j h' => h' = h ∧ j ≤ R.length ∧ ∀ p (hp : p < j) (hp' : p < R.length), 0 ≤ R[p] ∧ R[p] ≤ 1000) (fun j => R.length - j) 0 ⟨rfl, rfl, rfl, trivial⟩ ⟨rfl, Nat.zero_le _, fun p hp => by omega⟩ ?_
  rintro j ρ h' ⟨rfl, hj, ha⟩
  by_cases hjl : j < R.length
  rotate_left
  ·(repeat' first | refine go ?_ | refine idxS_ fun _ _ _ => ?_ | refine sp (fun _ => ?_) fun _ => ?_ | fail)
   have : mayU R = true := mayU_iff.2 fun n hn => by
    obtain ⟨p, hp, rfl⟩ := List.getElem_of_mem hn
    exact ha p (by omega) hp
   rw [this] at k
   exact k
  rcases ra with rfl | ⟨cs, wr, opn, ga, fa⟩
  ·simp at hjl
  have a1 := fa j hjl
  by_cases hx : 0 ≤ R[j] ∧ R[j] ≤ 1000
  ·(repeat' first | refine go ?_ | (refine AT.of (by simpa using a1) ?_) | (refine CALLN.of (inR_cal ?_)) | (refine BC.yes (decide_eq_true hx) ?_) | refine idxS_ fun _ _ _ => ?_ | refine sp (fun _ => ?_) fun _ => ?_ | fail)
   refine ⟨rfl, j + 1, ⟨rfl, rfl, rfl, trivial⟩, ⟨rfl, by omega, fun p hp hp' => ?_⟩, by omega⟩
   rcases Nat.lt_or_ge p j with h1 | h1
   ·exact ha p h1 hp'
   ·obtain rfl : p = j := by omega
    exact hx
  ·rw [mayU_at hjl hx] at k
   (repeat' first | refine go ?_ | (refine AT.of (by simpa using a1) ?_) | (refine CALLN.of (inR_cal ?_)) | (refine BC.no (decide_eq_false hx) ?_) | refine idxS_ fun _ _ _ => ?_ | refine sp (fun _ => ?_) fun _ => ?_ | fail)
   exact k
theorem hasR_cal {v : CVal} {R : List Int} {x : Int} {h : Heap} {Q : CVal → Heap → Prop} (hr : RIn h v R) (hl : R.length ≤ 1000000000) (k : Q (.bool (decide (x ∈ R))) h) : Cal tt 42 [v, .int .i64 x] h Q := by
 refine Cal.run rfl rfl rfl rfl ?_
 rcases hr with ⟨rfl, rfl⟩ | ⟨i, o, c, rfl, hi, ra⟩
 ·(repeat' first | refine go ?_ | refine idxS_ fun _ _ _ => ?_ | refine sp (fun _ => ?_) fun _ => ?_ | fail)
  refine loop1 ?_
  (repeat' first | refine go ?_ | refine idxS_ fun _ _ _ => ?_ | refine sp (fun _ => ?_) fun _ => ?_ | fail)
  exact k
 ·(repeat' first | refine go ?_ | refine idxS_ fun _ _ _ => ?_ | refine sp (fun _ => ?_) fun _ => ?_ | fail)
  refine loopC (fun j : Nat => [(0, .slice i o R.length c), (1, .int .i64 x), (4, .bool false), (5, .int .i64 j)]) (fun j h' => h' = h ∧ j ≤ R.length ∧ ∀ p (hp : p < j) (hp' : p < R.length), R[p] ≠ x) (fun j => R.length - j) 0 ⟨rfl, rfl, rfl, rfl, trivial⟩ ⟨rfl, Nat.zero_le _, fun p hp => by omega⟩ ?_
  rintro j ρ h' ⟨rfl, hj, ha⟩
  by_cases hjl : j < R.length
  rotate_left
  ·(repeat' first | refine go ?_ | refine idxS_ fun _ _ _ => ?_ | refine sp (fun _ => ?_) fun _ => ?_ | fail)
   rw [decide_eq_false fun hx => by
    obtain ⟨p, hp, e⟩ := List.getElem_of_mem hx
    exact ha p (by omega) hp e] at k
   exact k
  rcases ra with rfl | ⟨cs, wr, opn, ga, fa⟩
  ·simp at hjl
  have a1 := fa j hjl
  by_cases hx : R[j] = x
  ·rw [decide_eq_true (hx ▸ List.getElem_mem hjl)] at k
   (repeat' first | refine go ?_ | (refine AT.of (by simpa using a1) ?_) | refine idxS_ fun _ _ _ => ?_ | refine sp (fun _ => ?_) fun _ => ?_ | fail)
   exact k
  ·(repeat' first | refine go ?_ | (refine AT.of (by simpa using a1) ?_) | refine idxS_ fun _ _ _ => ?_ | refine sp (fun _ => ?_) fun _ => ?_ | fail)
   refine ⟨rfl, j + 1, ⟨rfl, rfl, rfl, rfl, trivial⟩, ⟨rfl, by omega, fun p hp hp' => ?_⟩, by omega⟩
   rcases Nat.lt_or_ge p j with h1 | h1
   ·exact ha p h1 hp'
   ·obtain rfl : p = j := by omega
    exact hx
def allJ (n : Nat) (p : Nat → Bool) : Bool := (List.range n).all p
theorem allJ_iff {n : Nat} {p : Nat → Bool} : allJ n p = true ↔ ∀ j, j < n → p j = true := by simp [allJ]
theorem allJ_no {n j : Nat} {p : Nat → Bool} (hj : j < n) (hp : p j = false) : allJ n p = false := by
 cases e : allJ n p
 ·rfl
 ·rw [allJ_iff.1 e j hj] at hp; exact absurd hp (by decide)
def atU (R : List Int) (j : Nat) : Int := R.getD j 0
theorem getD_at {R : List Int} {j : Nat} (hj : j < R.length) : atU R j = R[j] := by simp [atU, List.getD, hj]
def fitsU (A B : List Int) : Bool := decide (A.length = B.length) && allJ A.length fun j => decide (atU A j ≤ atU B j)
def needU (w c h : List Int) : Bool := allJ w.length fun j => decide (atU c j - atU h j ≤ atU w j)
def noneU (R : List Int) : Bool := allJ R.length fun j => decide (atU R j = 0)
theorem RIn.cell {h : Heap} {v : CVal} {R : List Int} (s : RIn h v R) {j : Nat} (hj : j < R.length) : ∃ i o c cs wr opn, v = .slice i o R.length c ∧ i < h.next ∧ h.get i = some (.cells cs wr opn) ∧ cs[o + j]? = some (.int .i64 R[j]) := by
 rcases s with ⟨_, rfl⟩ | ⟨i, o, c, e, hi, ra⟩
 ·simp at hj
 ·rcases ra with rfl | ⟨cs, wr, opn, g, a⟩
  ·simp at hj
  ·exact ⟨i, o, c, cs, wr, opn, e, hi, g, a j hj⟩
theorem ints_cal {va vb : CVal} {A B : List Int} {h : Heap} {Q : CVal → Heap → Prop} (ha : RIn h va A) (hb : RIn h vb B) (la : A.length ≤ 1000000000) (k : Q (.bool (decide (A = B))) h) : Cal tt 21 [va, vb] h Q := by
 refine Cal.run rfl rfl rfl rfl ?_
 have ha' := ha
 have hb' := hb
 rcases ha.len with ⟨rfl, ea⟩ | ⟨i, o, c, rfl⟩
 all_goals
 rcases hb.len with ⟨rfl, eb⟩ | ⟨i', o', c', rfl⟩
 all_goals
 by_cases hl : A.length = B.length
 rotate_left
 ·rw [decide_eq_false (fun e => hl (by rw [e]))] at k
  first
  | (exfalso; omega)
  | ((repeat' first | refine go ?_ | refine idxS_ fun _ _ _ => ?_ | refine sp (fun _ => ?_) fun _ => ?_ | fail)
     exact k)
 (repeat' first | refine go ?_ | refine idxS_ fun _ _ _ => ?_ | refine sp (fun _ => ?_) fun _ => ?_ | fail)
 refine loopC (fun j : Nat => [(0, _), (1, _), (5, .int .i64 j)]) (fun j h' => h' = h ∧ j ≤ A.length ∧ ∀ p (_ : p < j) (_ : p < A.length) (_ : p < B.length), A[p] = B[p]) (fun j => A.length - j) 0 ⟨rfl, rfl, rfl, trivial⟩ ⟨rfl, Nat.zero_le _, fun p hp => by omega⟩ ?_
 rintro j ρ h' ⟨rfl, hj, hx⟩
 by_cases hjl : j < A.length
 rotate_left
 ·rw [decide_eq_true (List.ext_getElem hl fun p h1 h2 => hx p (by omega) h1 h2)] at k
  (repeat' first | refine go ?_ | refine idxS_ fun _ _ _ => ?_ | refine sp (fun _ => ?_) fun _ => ?_ | fail)
  exact k
 obtain ⟨_, _, _, cs, _, _, e1, _, g1, a1⟩ := ha'.cell hjl
 obtain ⟨_, _, _, ds, _, _, e2, _, g2, a2⟩ := hb'.cell (j := j) (by omega)
 simp only [CVal.slice.injEq, reduceCtorEq] at e1 e2
 all_goals
  obtain ⟨rfl, rfl, _, rfl⟩ := e1
  obtain ⟨rfl, rfl, _, rfl⟩ := e2
  by_cases hxy : A[j] = B[j]'(by omega)
  ·(repeat' first | refine go ?_ | (refine AT.of (by simpa using a1) ?_) | (refine AT.of (by simpa using a2) ?_) | (refine LOOKN.mk (QV.load rfl g1 (by simpa using a1)) ?_) | (refine LOOKN.mk (QV.load rfl g2 (by simpa using a2)) ?_) | refine idxS_ fun _ _ _ => ?_ | refine sp (fun _ => ?_) fun _ => ?_ | fail)
   exact ⟨rfl, j + 1, ⟨rfl, rfl, rfl, trivial⟩, ⟨rfl, by omega, fun p h1 h2 h3 => by
    rcases Nat.lt_or_ge p j with h4 | h4
    ·exact hx p h4 h2 h3
    ·obtain rfl : p = j := by omega
     exact hxy⟩, by omega⟩
  ·rw [decide_eq_false (fun e => hxy (by subst e; rfl))] at k
   (repeat' first | refine go ?_ | (refine AT.of (by simpa using a1) ?_) | (refine AT.of (by simpa using a2) ?_) | (refine LOOKN.mk (QV.load rfl g1 (by simpa using a1)) ?_) | (refine LOOKN.mk (QV.load rfl g2 (by simpa using a2)) ?_) | refine idxS_ fun _ _ _ => ?_ | refine sp (fun _ => ?_) fun _ => ?_ | fail)
   exact k
theorem fitsR_cal {va vb : CVal} {A B : List Int} {h : Heap} {Q : CVal → Heap → Prop} (ha : RIn h va A) (hb : RIn h vb B) (la : A.length ≤ 1000000000) (k : Q (.bool (fitsU A B)) h) : Cal tt 76 [va, vb] h Q := by
 refine Cal.run rfl rfl rfl rfl ?_
 have ha' := ha
 have hb' := hb
 rcases ha.len with ⟨rfl, ea⟩ | ⟨i, o, c, rfl⟩
 all_goals
 rcases hb.len with ⟨rfl, eb⟩ | ⟨i', o', c', rfl⟩
 all_goals
 by_cases hl : A.length = B.length
 rotate_left
 ·rw [fitsU, decide_eq_false hl, Bool.false_and] at k
  first
  | (exfalso; omega)
  | ((repeat' first | refine go ?_ | refine idxS_ fun _ _ _ => ?_ | refine sp (fun _ => ?_) fun _ => ?_ | fail)
     exact k)
 rw [fitsU, decide_eq_true hl, Bool.true_and] at k
 (repeat' first | refine go ?_ | refine idxS_ fun _ _ _ => ?_ | refine sp (fun _ => ?_) fun _ => ?_ | fail)
 refine loopC (fun j : Nat => [(0, _), (1, _), (5, .int .i64 j)]) (fun j h' => h' = h ∧ j ≤ A.length ∧ ∀ p, p < j → atU A p ≤ atU B p) (fun j => A.length - j) 0 ⟨rfl, rfl, rfl, trivial⟩ ⟨rfl, Nat.zero_le _, fun p hp => by omega⟩ ?_
 rintro j ρ h' ⟨rfl, hj, hx⟩
 by_cases hjl : j < A.length
 rotate_left
 ·rw [allJ_iff.2 fun p hp => decide_eq_true (hx p (by omega))] at k
  (repeat' first | refine go ?_ | refine idxS_ fun _ _ _ => ?_ | refine sp (fun _ => ?_) fun _ => ?_ | fail)
  exact k
 obtain ⟨_, _, _, cs, _, _, e1, _, g1, a1⟩ := ha'.cell hjl
 obtain ⟨_, _, _, ds, _, _, e2, _, g2, a2⟩ := hb'.cell (j := j) (by omega)
 rw [← getD_at hjl] at a1
 rw [← getD_at (by omega)] at a2
 simp only [CVal.slice.injEq, reduceCtorEq] at e1 e2
 all_goals
  obtain ⟨rfl, rfl, _, rfl⟩ := e1
  obtain ⟨rfl, rfl, _, rfl⟩ := e2
  by_cases hxy : atU A j ≤ atU B j
  ·(repeat' first | refine go ?_ | (refine AT.of (by simpa using a1) ?_) | (refine AT.of (by simpa using a2) ?_) | (refine LOOKN.mk (QV.load rfl g1 (by simpa using a1)) ?_) | (refine LOOKN.mk (QV.load rfl g2 (by simpa using a2)) ?_) | refine idxS_ fun _ _ _ => ?_ | refine sp (fun _ => ?_) fun _ => ?_ | fail)
   exact ⟨rfl, j + 1, ⟨rfl, rfl, rfl, trivial⟩, ⟨rfl, by omega, fun p h1 => by
    rcases Nat.lt_or_ge p j with h4 | h4
    ·exact hx p h4
    ·obtain rfl : p = j := by omega
     exact hxy⟩, by omega⟩
  ·rw [allJ_no hjl (decide_eq_false hxy)] at k
   (repeat' first | refine go ?_ | (refine AT.of (by simpa using a1) ?_) | (refine AT.of (by simpa using a2) ?_) | (refine LOOKN.mk (QV.load rfl g1 (by simpa using a1)) ?_) | (refine LOOKN.mk (QV.load rfl g2 (by simpa using a2)) ?_) | refine idxS_ fun _ _ _ => ?_ | refine sp (fun _ => ?_) fun _ => ?_ | fail)
   exact k
theorem noneR_cal {v : CVal} {R : List Int} {h : Heap} {Q : CVal → Heap → Prop} (hr : RIn h v R) (hl : R.length ≤ 1000000000) (k : Q (.bool (noneU R)) h) : Cal tt 29 [v] h Q := by
 refine Cal.run rfl rfl rfl rfl ?_
 have hr' := hr
 rcases hr.len with ⟨rfl, e⟩ | ⟨i, o, c, rfl⟩
 all_goals
 (repeat' first | refine go ?_ | refine idxS_ fun _ _ _ => ?_ | refine sp (fun _ => ?_) fun _ => ?_ | fail)
 refine loopC (fun j : Nat => [(0, _), (3, .int .i64 j)]) (fun j h' => h' = h ∧ j ≤ R.length ∧ ∀ p, p < j → atU R p = 0) (fun j => R.length - j) 0 ⟨rfl, rfl, trivial⟩ ⟨rfl, Nat.zero_le _, fun p hp => by omega⟩ ?_
 rintro j ρ h' ⟨rfl, hj, hx⟩
 by_cases hjl : j < R.length
 rotate_left
 ·rw [noneU, allJ_iff.2 fun p hp => decide_eq_true (hx p (by omega))] at k
  (repeat' first | refine go ?_ | refine idxS_ fun _ _ _ => ?_ | refine sp (fun _ => ?_) fun _ => ?_ | fail)
  exact k
 obtain ⟨_, _, _, cs, _, _, e1, _, g1, a1⟩ := hr'.cell hjl
 rw [← getD_at hjl] at a1
 simp only [CVal.slice.injEq, reduceCtorEq] at e1
 all_goals
  obtain ⟨rfl, rfl, _, rfl⟩ := e1
  by_cases hxy : atU R j = 0
  ·(repeat' first | refine go ?_ | (refine AT.of (by simpa using a1) ?_) | refine idxS_ fun _ _ _ => ?_ | refine sp (fun _ => ?_) fun _ => ?_ | fail)
   exact ⟨rfl, j + 1, ⟨rfl, rfl, trivial⟩, ⟨rfl, by omega, fun p h1 => by
    rcases Nat.lt_or_ge p j with h4 | h4
    ·exact hx p h4
    ·obtain rfl : p = j := by omega
     exact hxy⟩, by omega⟩
  ·rw [noneU, allJ_no hjl (decide_eq_false hxy)] at k
   (repeat' first | refine go ?_ | (refine AT.of (by simpa using a1) ?_) | refine idxS_ fun _ _ _ => ?_ | refine sp (fun _ => ?_) fun _ => ?_ | fail)
   exact k
theorem unone_cal {v : CVal} {R : List Int} {h : Heap} {Q : CVal → Heap → Prop} (hr : RIn h v R) (hl : R.length ≤ 1000000000) (k : Q (.bool (noneU R)) h) : Cal tt 103 [v] h Q := by
 refine Cal.run rfl rfl rfl rfl ?_
 have hr' := hr
 rcases hr with ⟨rfl, rfl⟩ | ⟨i, o, c, rfl, _, _⟩
 ·rw [show noneU [] = true from rfl] at k
  (repeat' first | refine go ?_ | refine idxS_ fun _ _ _ => ?_ | refine sp (fun _ => ?_) fun _ => ?_ | fail)
  refine loop1 ?_
  (repeat' first | refine go ?_ | refine idxS_ fun _ _ _ => ?_ | refine sp (fun _ => ?_) fun _ => ?_ | fail)
  exact k
 (repeat' first | refine go ?_ | refine idxS_ fun _ _ _ => ?_ | refine sp (fun _ => ?_) fun _ => ?_ | fail)
 refine loopC (fun j : Nat => [(5, .slice i o R.length c), (6, .int .i64 R.length), (7, .int .i64 j)]) (fun j h' => h' = h ∧ j ≤ R.length ∧ ∀ p, p < j → atU R p = 0) (fun j => R.length - j) 0 ⟨rfl, rfl, rfl, trivial⟩ ⟨rfl, Nat.zero_le _, fun p hp => by omega⟩ ?_
 rintro j ρ h' ⟨rfl, hj, hx⟩
 by_cases hjl : j < R.length
 rotate_left
 ·rw [noneU, allJ_iff.2 fun p hp => decide_eq_true (hx p (by omega))] at k
  (repeat' first | refine go ?_ | refine idxS_ fun _ _ _ => ?_ | refine sp (fun _ => ?_) fun _ => ?_ | fail)
  exact k
 obtain ⟨_, _, _, cs, _, _, e1, _, g1, a1⟩ := hr'.cell hjl
 rw [← getD_at hjl] at a1
 simp only [CVal.slice.injEq] at e1
 obtain ⟨rfl, rfl, _, rfl⟩ := e1
 by_cases hxy : atU R j = 0
 ·(repeat' first | refine go ?_ | (refine AT.of (by simpa using a1) ?_) | refine idxS_ fun _ _ _ => ?_ | refine sp (fun _ => ?_) fun _ => ?_ | fail)
  exact ⟨rfl, j + 1, ⟨rfl, rfl, rfl, trivial⟩, ⟨rfl, by omega, fun p h1 => by
   rcases Nat.lt_or_ge p j with h4 | h4
   ·exact hx p h4
   ·obtain rfl : p = j := by omega
    exact hxy⟩, by omega⟩
 ·rw [noneU, allJ_no hjl (decide_eq_false hxy)] at k
  (repeat' first | refine go ?_ | (refine AT.of (by simpa using a1) ?_) | refine idxS_ fun _ _ _ => ?_ | refine sp (fun _ => ?_) fun _ => ?_ | fail)
  exact k
theorem atU_out {R : List Int} {j : Nat} (hj : ¬ j < R.length) : atU R j = 0 := by simp [atU, List.getD, List.getElem?_eq_none (Nat.le_of_not_lt hj)]
theorem mayU_atU {R : List Int} (hm : mayU R = true) (j : Nat) : 0 ≤ atU R j ∧ atU R j ≤ 1000 := by
 by_cases hj : j < R.length
 ·rw [getD_at hj]; exact mayU_iff.1 hm _ (List.getElem_mem hj)
 ·rw [atU_out hj]; omega
def ofJ (n : Nat) (f : Nat → Int) : List Int := (List.range n).map f
theorem ofJ_length (n : Nat) (f : Nat → Int) : (ofJ n f).length = n := by simp [ofJ]
theorem ofJ_get? {n : Nat} {f : Nat → Int} {j : Nat} (hj : j < n) : (ofJ n f)[j]? = some (f j) := by simp [ofJ, hj]
theorem atU_ofJ {n : Nat} {f : Nat → Int} {j : Nat} (hj : j < n) : atU (ofJ n f) j = f j := by rw [atU, List.getD, ofJ_get? hj]; rfl
theorem ofJ_atU (R : List Int) : ofJ R.length (atU R) = R := by
 refine List.ext_getElem? fun j => ?_
 by_cases hj : j < R.length
 ·rw [ofJ_get? hj, getD_at hj, List.getElem?_eq_getElem hj]
 ·rw [List.getElem?_eq_none (by rw [ofJ_length]; omega), List.getElem?_eq_none (by omega)]
theorem ofJ_congr {n : Nat} {f g : Nat → Int} (h : ∀ j, j < n → f j = g j) : ofJ n f = ofJ n g := List.map_congr_left fun j hj => h j (List.mem_range.1 hj)
def upTo (j : Nat) (f g : Nat → Int) : Nat → Int := fun p => if p < j then f p else g p
theorem upTo_zero (n : Nat) (f g : Nat → Int) : ofJ n (upTo 0 f g) = ofJ n g := ofJ_congr fun j _ => by simp [upTo]
theorem upTo_all (n : Nat) (f g : Nat → Int) : ofJ n (upTo n f g) = ofJ n f := ofJ_congr fun j hj => by simp [upTo, hj]
theorem upTo_set {n j : Nat} {f g : Nat → Int} (hj : j < n) : ((ofJ n (upTo j f g)).map (CVal.int .i64)).set j (.int .i64 (f j)) = (ofJ n (upTo (j + 1) f g)).map (CVal.int .i64) := by
 refine List.ext_getElem? fun p => ?_
 rw [List.getElem?_set, List.getElem?_map, List.getElem?_map]
 by_cases hp : p < n
 ·rw [ofJ_get? hp, ofJ_get? hp, List.length_map, ofJ_length]
  by_cases e : j = p
  ·subst e; simp [upTo, hj]
  ·rw [if_neg e]
   simp only [Option.map_some, upTo]
   by_cases h1 : p < j
   ·rw [if_pos h1, if_pos (by omega)]
   ·rw [if_neg h1, if_neg (by omega)]
 ·rw [if_neg (by omega), List.getElem?_eq_none (by rw [ofJ_length]; omega), List.getElem?_eq_none (by rw [ofJ_length]; omega)]
theorem upTo_get {n j : Nat} {f g : Nat → Int} (hj : j < n) : ((ofJ n (upTo j f g)).map (CVal.int .i64))[j]? = some (.int .i64 (g j)) := by
 rw [List.getElem?_map, ofJ_get? hj]; simp [upTo]
theorem repC_int (n : Nat) : repC n [.int .i64 0] = (ofJ n fun _ => 0).map (CVal.int .i64) := by
 induction n with
 | zero => rfl
 | succ n ih => rw [repC, ih, ofJ, ofJ, List.range_succ_eq_map]; simp
def addU (A B : List Int) : List Int := ofJ A.length fun j => atU A j + atU B j
def subU (A B : List Int) : List Int := ofJ A.length fun j => atU A j - atU B j
theorem needR_cal {vw vc vh : CVal} {W C H : List Int} {h : Heap} {Q : CVal → Heap → Prop} (hw : RIn h vw W) (hc : RIn h vc C) (hh : RIn h vh H) (lw : W.length ≤ 1000000000) (lc : W.length ≤ C.length) (lh : W.length ≤ H.length) (mc : mayU C = true) (mh : mayU H = true)
 (k : Q (.bool (needU W C H)) h) : Cal tt 86 [vw, vc, vh] h Q := by
 refine Cal.run rfl rfl rfl rfl ?_
 have hw' := hw
 have hc' := hc
 have hh' := hh
 rcases hw.head with ⟨rfl, e1⟩ | ⟨i, o, l, c, rfl⟩
 all_goals
 rcases hc.head with ⟨rfl, e2⟩ | ⟨i', o', l', c', rfl⟩
 all_goals
 rcases hh.head with ⟨rfl, e3⟩ | ⟨i2, o2, l2, c2, rfl⟩
 all_goals
 (repeat' first | refine go ?_ | refine idxS_ fun _ _ _ => ?_ | refine sp (fun _ => ?_) fun _ => ?_ | fail)
 refine loopC (fun j : Nat => [(0, _), (1, _), (2, _), (7, .int .i64 j)]) (fun j h' => h' = h ∧ j ≤ W.length ∧ ∀ p, p < j → atU C p - atU H p ≤ atU W p) (fun j => W.length - j) 0 ⟨rfl, rfl, rfl, rfl, trivial⟩ ⟨rfl, Nat.zero_le _, fun p hp => by omega⟩ ?_
 rintro j ρ h' ⟨rfl, hj, hx⟩
 have hlw := hw'.len
 simp only [CVal.slice.injEq, reduceCtorEq, false_and, exists_false, or_false, false_or, true_and, exists_and_left] at hlw
 by_cases hjl : j < W.length
 rotate_left
 ·rw [needU, allJ_iff.2 fun p hp => decide_eq_true (hx p (by omega))] at k
  first
  | ((repeat' first | refine go ?_ | (refine LTN.no (by omega) ?_) | refine idxS_ fun _ _ _ => ?_ | refine sp (fun _ => ?_) fun _ => ?_ | fail)
     exact k)
  | (obtain ⟨_, _, rfl, _, _⟩ := hlw
     (repeat' first | refine go ?_ | refine idxS_ fun _ _ _ => ?_ | refine sp (fun _ => ?_) fun _ => ?_ | fail)
     exact k)
 obtain ⟨_, _, _, cs, _, _, e1, _, g1, a1⟩ := hw'.cell hjl
 obtain ⟨_, _, _, ds, _, _, e2, _, g2, a2⟩ := hc'.cell (j := j) (by omega)
 obtain ⟨_, _, _, es, _, _, e3, _, g3, a3⟩ := hh'.cell (j := j) (by omega)
 rw [← getD_at (by omega)] at a1 a2 a3
 simp only [CVal.slice.injEq, reduceCtorEq] at e1 e2 e3
 all_goals
  obtain ⟨rfl, rfl, rfl, rfl⟩ := e1
  obtain ⟨rfl, rfl, rfl, rfl⟩ := e2
  obtain ⟨rfl, rfl, rfl, rfl⟩ := e3
  have b1 := mayU_atU mc j
  have b2 := mayU_atU mh j
  by_cases hxy : atU C j - atU H j ≤ atU W j
  ·(repeat' first | refine go ?_ | (refine AT.of (by simpa using a1) ?_) | (refine AT.of (by simpa using a2) ?_) | (refine AT.of (by simpa using a3) ?_) | (refine LOOKN.mk (QV.load rfl g1 (by simpa using a1)) ?_) | (refine LOOKN.mk (QV.load rfl g2 (by simpa using a2)) ?_) | (refine LOOKN.mk (QV.load rfl g3 (by simpa using a3)) ?_) | refine idxS_ fun _ _ _ => ?_ | refine sp (fun _ => ?_) fun _ => ?_ | fail)
   exact ⟨rfl, j + 1, ⟨rfl, rfl, rfl, rfl, trivial⟩, ⟨rfl, by omega, fun p h1 => by
    rcases Nat.lt_or_ge p j with h4 | h4
    ·exact hx p h4
    ·obtain rfl : p = j := by omega
     exact hxy⟩, by omega⟩
  ·rw [needU, allJ_no hjl (decide_eq_false hxy)] at k
   (repeat' first | refine go ?_ | (refine AT.of (by simpa using a1) ?_) | (refine AT.of (by simpa using a2) ?_) | (refine AT.of (by simpa using a3) ?_) | (refine LOOKN.mk (QV.load rfl g1 (by simpa using a1)) ?_) | (refine LOOKN.mk (QV.load rfl g2 (by simpa using a2)) ?_) | (refine LOOKN.mk (QV.load rfl g3 (by simpa using a3)) ?_) | refine idxS_ fun _ _ _ => ?_ | refine sp (fun _ => ?_) fun _ => ?_ | fail)
   exact k
def OwnW (h₀ h : Heap) (i : Nat) (cs : List CVal) : Prop := h₀.next ≤ i ∧ i < h.next ∧ ∃ opn, h.get i = some (.cells cs true opn) ∧ (opn = none ∨ opn = some 1)
theorem OwnW.exd {h₀ h h' : Heap} {i : Nat} {cs : List CVal} (O : OwnW h₀ h i cs) (x : Exd h h') : OwnW h₀ h' i cs := by
 obtain ⟨h1, h2, opn, g, ho⟩ := O
 exact ⟨h1, Nat.lt_of_lt_of_le h2 x.le, opn, (x.get i h2).trans g, ho⟩
theorem OwnW.rin {h₀ h : Heap} {i m : Nat} {R : List Int} (O : OwnW h₀ h i (R.map (.int .i64))) (hm : R.length = m) : RIn h (.slice i 0 m m) R := by
 subst hm
 obtain ⟨_, h2, opn, g, _⟩ := O
 exact .inr ⟨i, 0, _, rfl, h2, .inr ⟨_, _, _, g, fun j hj => by simp [hj]⟩⟩
theorem copyW_cal {v : CVal} {R : List Int} {h : Heap} {Q : CVal → Heap → Prop} (hr : RIn h v R) (hl : R.length ≤ 1000000000) (k : ∀ i h', Exd h h' → OwnW h h' i (R.map (.int .i64)) → Q (.slice i 0 R.length R.length) h') : Cal tt 43 [v] h Q := by
 obtain ⟨N, hN⟩ : ∃ N, h.next = N := ⟨_, rfl⟩
 refine Cal.run rfl rfl rfl rfl ?_
 have O : Own h (h.new (.cells [] true none)) (.slice N 0 0 0) 1 0 [] := Own.new (wr := true) (Heap.new_at rfl hN.symm) (by omega) (by rw [Heap.next_new]; omega)
 by_cases h0 : R.length = 0
 ·obtain rfl : R = [] := by simpa using h0
  have src : srcC (h.new (.cells [] true none)) 1 v = some (0, []) := by
   rcases hr with ⟨rfl, _⟩ | ⟨i, o, c, rfl, _⟩ <;> rfl
  rcases hr.head with ⟨rfl, _⟩ | ⟨i, o, l, c, rfl⟩
  all_goals
  (repeat' first | refine go ?_ | (refine SOMEN.mk (appendC_none src (.inr ⟨_, _, _, _, rfl⟩)) ?_) | refine idxS_ fun _ _ _ => ?_ | refine sp (fun _ => ?_) fun _ => ?_ | fail)
  exact k _ _ (Exd.new (Exd.refl _)) ⟨by omega, by rw [Heap.next_new]; omega, _, Heap.new_at rfl hN.symm, .inl rfl⟩
 ·rcases hr with ⟨rfl, rfl⟩ | ⟨i, o, c, rfl, hi, ra⟩
  ·simp at h0
  rcases ra with rfl | ⟨cs, wr, opn, ga, fa⟩
  ·simp at h0
  have src : srcC (h.new (.cells [] true none)) 1 (.slice i o R.length c) = some (R.length, R.map (.int .i64)) := by
   have e1 : (cs.drop o).take R.length = R.map (.int .i64) := by
    refine List.ext_getElem? fun j => ?_
    rw [List.getElem?_take]
    split
    ·next hj => rw [List.getElem?_drop, fa j hj]; simp [hj]
    ·next hj => rw [List.getElem?_eq_none (by simpa using hj)]
   have g' : (h.new (.cells [] true none)).get i = some (.cells cs wr opn) := Exd.skip (Exd.new (Exd.refl _)) hi ga
   simp only [srcC, if_neg h0, g', Nat.mul_one, e1, List.length_map, if_true]
  obtain ⟨h2, ea, en, eg, ef⟩ := appendC_sl (bytes := 8) O.1 src (by omega) (by simp [CVal.one]) (by omega)
  have ex : Exd h h2 := ⟨by rw [en, Heap.next_new]; omega, fun p hp => by rw [ef p (by rw [Heap.next_new]; omega) (fun o l c e => by simp only [CVal.slice.injEq] at e; omega)]; exact Heap.get_new_ne _ _ _ (by omega)⟩
  (repeat' first | refine go ?_ | (refine SOMEN.mk ea ?_) | refine idxS_ fun _ _ _ => ?_ | refine sp (fun _ => ?_) fun _ => ?_ | fail)
  simp only [Nat.zero_add, List.nil_append] at eg ⊢
  exact k _ _ ex ⟨by rw [Heap.next_new]; omega, by omega, _, eg, .inr rfl⟩
theorem moreR_cal {va vb : CVal} {A B : List Int} {h : Heap} {Q : CVal → Heap → Prop} (ha : RIn h va A) (hb : RIn h vb B) (la : A.length ≤ 1000000000) (lb : A.length ≤ B.length) (ma : ∀ j, -1000000000 ≤ atU A j ∧ atU A j ≤ 1000000000) (mb : ∀ j, -1000000000 ≤ atU B j ∧ atU B j ≤ 1000000000)
 (k : ∀ i h', Exd h h' → OwnW h h' i ((addU A B).map (.int .i64)) → Q (.slice i 0 A.length A.length) h') : Cal tt 78 [va, vb] h Q := by
 refine Cal.run rfl rfl rfl rfl ?_
 have ha' := ha
 have hb' := hb
 rcases ha.head with ⟨rfl, e1⟩ | ⟨i, o, l, c, rfl⟩
 all_goals
 rcases hb.head with ⟨rfl, e2⟩ | ⟨i', o', l', c', rfl⟩
 all_goals
 (repeat' first | refine go ?_ | refine idxS_ fun _ _ _ => ?_ | refine sp (fun _ => ?_) fun _ => ?_ | fail)
 refine CALLN.of (copyW_cal ha' la fun p h1 x1 O1 => ?_)
 have l1 := x1.le
 (repeat' first | refine go ?_ | refine idxS_ fun _ _ _ => ?_ | refine sp (fun _ => ?_) fun _ => ?_ | fail)
 refine loopC (fun j : Nat => [(1, _), (5, .slice p 0 A.length A.length), (6, .int .i64 j)]) (fun j h' => Exd h h' ∧ j ≤ A.length ∧ OwnW h h' p ((ofJ A.length (upTo j (fun j => atU A j + atU B j) (atU A))).map (.int .i64))) (fun j => A.length - j) 0 ⟨rfl, rfl, rfl, trivial⟩ ⟨x1, Nat.zero_le _, by rw [upTo_zero, ofJ_atU]; exact O1⟩ ?_
 rintro j ρ h' ⟨xk, hj, O⟩
 by_cases hjl : j < A.length
 rotate_left
 ·obtain rfl : j = A.length := by omega
  rw [upTo_all] at O
  (repeat' first | refine go ?_ | refine idxS_ fun _ _ _ => ?_ | refine sp (fun _ => ?_) fun _ => ?_ | fail)
  exact k _ _ xk O
 obtain ⟨_, _, _, ds, _, _, e2, hi2, g2, a2⟩ := hb'.cell (j := j) (by omega)
 have g2 := xk.skip hi2 g2
 rw [← getD_at (by omega)] at a2
 have u1 := upTo_get (f := fun j => atU A j + atU B j) (g := atU A) hjl
 have u2 := upTo_set (f := fun j => atU A j + atU B j) (g := atU A) hjl
 have u3 : ∀ e, e = j → putCells ((ofJ A.length (upTo j (fun j => atU A j + atU B j) (atU A))).map (CVal.int .i64)) e [.int .i64 (atU A j + atU B j)] = (ofJ A.length (upTo (j + 1) (fun j => atU A j + atU B j) (atU A))).map (CVal.int .i64) := fun e h => by rw [h]; exact u2
 have b1 := ma j
 have b2 := mb j
 have e0 : 0 + ((j : Nat) : Int).toNat * 1 = j := by omega
 obtain ⟨w1, w2, opn, g1, ho⟩ := O
 simp only [CVal.slice.injEq, reduceCtorEq] at e2
 all_goals
  obtain ⟨rfl, rfl, rfl, rfl⟩ := e2
  (repeat' first | refine go ?_ | (refine SETN.mk g1 rfl (by rw [List.length_map, ofJ_length]; omega) ?_) | (refine AT.of (by rw [e0]; exact u1) ?_) | (refine AT.of (by simpa using a2) ?_) | (refine LOOKN.mk (QV.load rfl g1 (by rw [e0]; exact u1)) ?_) | (refine LOOKN.mk (QV.load rfl g2 (by simpa using a2)) ?_) | refine idxS_ fun _ _ _ => ?_ | refine sp (fun _ => ?_) fun _ => ?_ | fail)
  all_goals exact ⟨rfl, j + 1, ⟨rfl, rfl, rfl, trivial⟩, ⟨Exd.set xk w1, by omega, w1, by rw [Heap.next_set]; exact w2, opn, by rw [Heap.get_set_same, u3 _ e0], ho⟩, by omega⟩
def lessOk (A B : List Int) : Bool := decide (A.length = B.length) && mayU A && mayU B && mayU (subU A B)
theorem lessR_cal {va vb : CVal} {A B : List Int} {h : Heap} {Q : CVal → Heap → Prop} (ha : RIn h va A) (hb : RIn h vb B) (la : A.length ≤ 1000000000) (lb : B.length ≤ 1000000000)
 (k0 : lessOk A B = false → ∀ h', Exd h h' → Q (.tuple [.nilSlice, .bool false]) h') (k1 : lessOk A B = true → ∀ i h', Exd h h' → OwnW h h' i ((subU A B).map (.int .i64)) → Q (.tuple [.slice i 0 A.length A.length, .bool true]) h') : Cal tt 27 [va, vb] h Q := by
 obtain ⟨N, hN⟩ : ∃ N, h.next = N := ⟨_, rfl⟩
 refine Cal.run rfl rfl rfl rfl ?_
 have ha' := ha
 have hb' := hb
 rcases ha.len with ⟨rfl, e1⟩ | ⟨i, o, c, rfl⟩
 all_goals
 rcases hb.len with ⟨rfl, e2⟩ | ⟨i', o', c', rfl⟩
 all_goals
 by_cases hl : A.length = B.length
 rotate_left
 ·have kk := k0 (by simp [lessOk, hl])
  first
  | (exfalso; omega)
  | ((repeat' first | refine go ?_ | (refine CALLN.of (isR_cal ha' la ?_)) | (refine CALLN.of (isR_cal hb' lb ?_)) | (refine BC.no (by rw [decide_eq_false (by omega), Bool.false_and]) ?_) | refine idxS_ fun _ _ _ => ?_ | refine sp (fun _ => ?_) fun _ => ?_ | fail)
     exact kk _ (Exd.refl _))
 cases ma : mayU A
 ·have kk := k0 (by simp [lessOk, ma])
  (repeat' first | refine go ?_ | (refine CALLN.of (isR_cal ha' la ?_)) | (refine CALLN.of (isR_cal hb' lb ?_)) | (refine BC.no (by rw [ma, Bool.and_false]) ?_) | refine idxS_ fun _ _ _ => ?_ | refine sp (fun _ => ?_) fun _ => ?_ | fail)
  exact kk _ (Exd.refl _)
 have eB : B.length = 0 → mayU B = true := fun e => by rw [List.length_eq_zero_iff.1 e]; rfl
 cases mb : mayU B
 ·have kk := k0 (by simp [lessOk, mb])
  first
  | exact absurd (eB (by omega)) (by rw [mb]; decide)
  | ((repeat' first | refine go ?_ | (refine CALLN.of (isR_cal ha' la ?_)) | (refine CALLN.of (isR_cal hb' lb ?_)) | (refine BC.yes (by rw [ma, Bool.and_true]; exact decide_eq_true (by omega)) ?_) | (refine BC.no (by rw [mb, Bool.and_false]) ?_) | refine idxS_ fun _ _ _ => ?_ | refine sp (fun _ => ?_) fun _ => ?_ | fail)
     exact kk _ (Exd.refl _))
 (repeat' first | refine go ?_ | (refine CALLN.of (isR_cal ha' la ?_)) | (refine CALLN.of (isR_cal hb' lb ?_)) | (refine BC.yes (by rw [ma, Bool.and_true]; exact decide_eq_true (by omega)) ?_) | (refine BC.yes (by rw [mb, Bool.and_true]; exact decide_eq_true (by omega)) ?_) | refine idxS_ fun _ _ _ => ?_ | refine sp (fun _ => ?_) fun _ => ?_ | fail)
 refine loopC (fun j : Nat => [(0, _), (1, _), (6, .slice N 0 A.length A.length), (7, .int .i64 j)]) (fun j h' => Exd h h' ∧ j ≤ A.length ∧ OwnW h h' N ((ofJ A.length (upTo j (fun j => atU A j - atU B j) fun _ => 0)).map (.int .i64))) (fun j => A.length - j) 0 ⟨rfl, rfl, by first | rfl | (rw [e1]; rfl), rfl, trivial⟩ ⟨by exact exd_, Nat.zero_le _, by omega, by exact lt_, none, by rw [upTo_zero, ← repC_int]; first | exact get_ | (rw [e1]; exact get_), .inl rfl⟩ ?_
 rintro j ρ h' ⟨xk, hj, O⟩
 by_cases hjl : j < A.length
 rotate_left
 ·obtain rfl : j = A.length := by omega
  rw [upTo_all] at O
  change OwnW h h' N ((subU A B).map (.int .i64)) at O
  have hr : RIn h' (.slice N 0 A.length A.length) (subU A B) := O.rin (ofJ_length _ _)
  have ln : (subU A B).length = A.length := ofJ_length _ _
  cases mr : mayU (subU A B)
  ·have kk := k0 (by simp [lessOk, mr])
   (repeat' first | refine go ?_ | (refine CALLN.of (isR_cal hr (by omega) ?_)) | (refine BC.no (by rw [mr, Bool.and_false]) ?_) | refine idxS_ fun _ _ _ => ?_ | refine sp (fun _ => ?_) fun _ => ?_ | fail)
   exact kk _ xk
  ·have kk := k1 (by simp [lessOk, ma, mb, mr, hl])
   (repeat' first | refine go ?_ | (refine CALLN.of (isR_cal hr (by omega) ?_)) | (refine BC.yes (by rw [mr, Bool.and_true]; exact decide_eq_true (by omega)) ?_) | refine idxS_ fun _ _ _ => ?_ | refine sp (fun _ => ?_) fun _ => ?_ | fail)
   exact kk _ _ xk O
 obtain ⟨_, _, _, cs, _, _, e3, i3, g3, a3⟩ := ha'.cell hjl
 obtain ⟨_, _, _, ds, _, _, e4, i4, g4, a4⟩ := hb'.cell (j := j) (by omega)
 have g3 := xk.skip i3 g3
 have g4 := xk.skip i4 g4
 rw [← getD_at (by omega)] at a3 a4
 have u2 := upTo_set (f := fun j => atU A j - atU B j) (g := fun _ => 0) hjl
 have u3 : ∀ e, e = j → putCells ((ofJ A.length (upTo j (fun j => atU A j - atU B j) fun _ => 0)).map (CVal.int .i64)) e [.int .i64 (atU A j - atU B j)] = (ofJ A.length (upTo (j + 1) (fun j => atU A j - atU B j) fun _ => 0)).map (CVal.int .i64) := fun e h => by rw [h]; exact u2
 have b1 := mayU_atU ma j
 have b2 := mayU_atU mb j
 have e0 : 0 + ((j : Nat) : Int).toNat * 1 = j := by omega
 have e9 : ∀ o : Nat, o + ((j : Nat) : Int).toNat * 1 = o + j := fun o => by omega
 obtain ⟨w1, w2, opn, g1, ho⟩ := O
 simp only [CVal.slice.injEq, reduceCtorEq] at e3 e4
 all_goals
  obtain ⟨rfl, rfl, _, rfl⟩ := e3
  obtain ⟨rfl, rfl, _, rfl⟩ := e4
  (repeat' first | refine go ?_ | (refine SETN.mk g1 rfl (by rw [List.length_map, ofJ_length]; omega) ?_) | (refine AT.of (by rw [e9]; exact a3) ?_) | (refine AT.of (by rw [e9]; exact a4) ?_) | (refine LOOKN.mk (QV.load rfl g3 (by rw [e9]; exact a3)) ?_) | (refine LOOKN.mk (QV.load rfl g4 (by rw [e9]; exact a4)) ?_) | refine idxS_ fun _ _ _ => ?_ | refine sp (fun _ => ?_) fun _ => ?_ | fail)
  exact ⟨rfl, j + 1, ⟨rfl, rfl, rfl, rfl, trivial⟩, ⟨Exd.set xk w1, by omega, w1, by rw [Heap.next_set]; exact w2, opn, by rw [Heap.get_set_same, u3 _ e0], ho⟩, by omega⟩
def plusOk (A B : List Int) : Bool := decide (A.length = B.length) && mayU A && mayU B && mayU (addU A B)
theorem plusR_cal {va vb : CVal} {A B : List Int} {h : Heap} {Q : CVal → Heap → Prop} (ha : RIn h va A) (hb : RIn h vb B) (la : A.length ≤ 1000000000) (lb : B.length ≤ 1000000000)
 (k0 : plusOk A B = false → ∀ h', Exd h h' → Q (.tuple [.nilSlice, .bool false]) h') (k1 : plusOk A B = true → ∀ i h', Exd h h' → OwnW h h' i ((addU A B).map (.int .i64)) → Q (.tuple [.slice i 0 A.length A.length, .bool true]) h') : Cal tt 30 [va, vb] h Q := by
 obtain ⟨N, hN⟩ : ∃ N, h.next = N := ⟨_, rfl⟩
 refine Cal.run rfl rfl rfl rfl ?_
 have ha' := ha
 have hb' := hb
 rcases ha.len with ⟨rfl, e1⟩ | ⟨i, o, c, rfl⟩
 all_goals
 rcases hb.len with ⟨rfl, e2⟩ | ⟨i', o', c', rfl⟩
 all_goals
 by_cases hl : A.length = B.length
 rotate_left
 ·have kk := k0 (by simp [plusOk, hl])
  first
  | (exfalso; omega)
  | ((repeat' first | refine go ?_ | (refine CALLN.of (isR_cal ha' la ?_)) | (refine CALLN.of (isR_cal hb' lb ?_)) | (refine BC.no (by rw [decide_eq_false (by omega), Bool.false_and]) ?_) | refine idxS_ fun _ _ _ => ?_ | refine sp (fun _ => ?_) fun _ => ?_ | fail)
     exact kk _ (Exd.refl _))
 cases ma : mayU A
 ·have kk := k0 (by simp [plusOk, ma])
  (repeat' first | refine go ?_ | (refine CALLN.of (isR_cal ha' la ?_)) | (refine CALLN.of (isR_cal hb' lb ?_)) | (refine BC.no (by rw [ma, Bool.and_false]) ?_) | refine idxS_ fun _ _ _ => ?_ | refine sp (fun _ => ?_) fun _ => ?_ | fail)
  exact kk _ (Exd.refl _)
 have eB : B.length = 0 → mayU B = true := fun e => by rw [List.length_eq_zero_iff.1 e]; rfl
 cases mb : mayU B
 ·have kk := k0 (by simp [plusOk, mb])
  first
  | exact absurd (eB (by omega)) (by rw [mb]; decide)
  | ((repeat' first | refine go ?_ | (refine CALLN.of (isR_cal ha' la ?_)) | (refine CALLN.of (isR_cal hb' lb ?_)) | (refine BC.yes (by rw [ma, Bool.and_true]; exact decide_eq_true (by omega)) ?_) | (refine BC.no (by rw [mb, Bool.and_false]) ?_) | refine idxS_ fun _ _ _ => ?_ | refine sp (fun _ => ?_) fun _ => ?_ | fail)
     exact kk _ (Exd.refl _))
 (repeat' first | refine go ?_ | (refine CALLN.of (isR_cal ha' la ?_)) | (refine CALLN.of (isR_cal hb' lb ?_)) | (refine BC.yes (by rw [ma, Bool.and_true]; exact decide_eq_true (by omega)) ?_) | (refine BC.yes (by rw [mb, Bool.and_true]; exact decide_eq_true (by omega)) ?_) | refine idxS_ fun _ _ _ => ?_ | refine sp (fun _ => ?_) fun _ => ?_ | fail)
 refine loopC (fun j : Nat => [(0, _), (1, _), (6, .slice N 0 A.length A.length), (7, .int .i64 j)]) (fun j h' => Exd h h' ∧ j ≤ A.length ∧ OwnW h h' N ((ofJ A.length (upTo j (fun j => atU A j + atU B j) fun _ => 0)).map (.int .i64))) (fun j => A.length - j) 0 ⟨rfl, rfl, by first | rfl | (rw [e1]; rfl), rfl, trivial⟩ ⟨by exact exd_, Nat.zero_le _, by omega, by exact lt_, none, by rw [upTo_zero, ← repC_int]; first | exact get_ | (rw [e1]; exact get_), .inl rfl⟩ ?_
 rintro j ρ h' ⟨xk, hj, O⟩
 by_cases hjl : j < A.length
 rotate_left
 ·obtain rfl : j = A.length := by omega
  rw [upTo_all] at O
  change OwnW h h' N ((addU A B).map (.int .i64)) at O
  have hr : RIn h' (.slice N 0 A.length A.length) (addU A B) := O.rin (ofJ_length _ _)
  have ln : (addU A B).length = A.length := ofJ_length _ _
  cases mr : mayU (addU A B)
  ·have kk := k0 (by simp [plusOk, mr])
   (repeat' first | refine go ?_ | (refine CALLN.of (isR_cal hr (by omega) ?_)) | (refine BC.no (by rw [mr, Bool.and_false]) ?_) | refine idxS_ fun _ _ _ => ?_ | refine sp (fun _ => ?_) fun _ => ?_ | fail)
   exact kk _ xk
  ·have kk := k1 (by simp [plusOk, ma, mb, mr, hl])
   (repeat' first | refine go ?_ | (refine CALLN.of (isR_cal hr (by omega) ?_)) | (refine BC.yes (by rw [mr, Bool.and_true]; exact decide_eq_true (by omega)) ?_) | refine idxS_ fun _ _ _ => ?_ | refine sp (fun _ => ?_) fun _ => ?_ | fail)
   exact kk _ _ xk O
 obtain ⟨_, _, _, cs, _, _, e3, i3, g3, a3⟩ := ha'.cell hjl
 obtain ⟨_, _, _, ds, _, _, e4, i4, g4, a4⟩ := hb'.cell (j := j) (by omega)
 have g3 := xk.skip i3 g3
 have g4 := xk.skip i4 g4
 rw [← getD_at (by omega)] at a3 a4
 have u2 := upTo_set (f := fun j => atU A j + atU B j) (g := fun _ => 0) hjl
 have u3 : ∀ e, e = j → putCells ((ofJ A.length (upTo j (fun j => atU A j + atU B j) fun _ => 0)).map (CVal.int .i64)) e [.int .i64 (atU A j + atU B j)] = (ofJ A.length (upTo (j + 1) (fun j => atU A j + atU B j) fun _ => 0)).map (CVal.int .i64) := fun e h => by rw [h]; exact u2
 have b1 := mayU_atU ma j
 have b2 := mayU_atU mb j
 have e0 : 0 + ((j : Nat) : Int).toNat * 1 = j := by omega
 have e9 : ∀ o : Nat, o + ((j : Nat) : Int).toNat * 1 = o + j := fun o => by omega
 obtain ⟨w1, w2, opn, g1, ho⟩ := O
 simp only [CVal.slice.injEq, reduceCtorEq] at e3 e4
 all_goals
  obtain ⟨rfl, rfl, _, rfl⟩ := e3
  obtain ⟨rfl, rfl, _, rfl⟩ := e4
  (repeat' first | refine go ?_ | (refine SETN.mk g1 rfl (by rw [List.length_map, ofJ_length]; omega) ?_) | (refine AT.of (by rw [e9]; exact a3) ?_) | (refine AT.of (by rw [e9]; exact a4) ?_) | (refine LOOKN.mk (QV.load rfl g3 (by rw [e9]; exact a3)) ?_) | (refine LOOKN.mk (QV.load rfl g4 (by rw [e9]; exact a4)) ?_) | refine idxS_ fun _ _ _ => ?_ | refine sp (fun _ => ?_) fun _ => ?_ | fail)
  exact ⟨rfl, j + 1, ⟨rfl, rfl, rfl, rfl, trivial⟩, ⟨Exd.set xk w1, by omega, w1, by rw [Heap.next_set]; exact w2, opn, by rw [Heap.get_set_same, u3 _ e0], ho⟩, by omega⟩
theorem envL_ext {N : Nat} {ρ ρ' : Env} (h : ∀ t, t < N → ρ t = ρ' t) : envL N ρ = envL N ρ' := List.map_congr_left fun t ht => h t (List.mem_range.1 ht)
theorem DefP.mark {T : Tab} {d : Nat} {h : Heap} {K : Heap → Prop} (g : h.get d = some .dfr) (k : K (h.kill d)) : DefP T [markD d] h K := by
 unfold DefP
 rw [show isMark (markD d) = some d from rfl]
 exact ⟨g, by unfold DefP; exact k⟩
def rhoF (va vb : CVal) (B : Nat) : Env := argsE [va, vb, .un, .un, .ptr B 0, .un, .un, va, vb, .func 102 [] [.ptr (B + 1) 0, .ptr (B + 2) 0]]
structure FS (h₀ : Heap) (va vb : CVal) (B : Nat) (h : Heap) : Prop where
 x : Exd h₀ h
 nb : h₀.next = B
 nx : B + 5 ≤ h.next
 gl : h.get (B + 4) = some (.loop .ready none 61 0 2 (envL 20 (rhoF va vb B)) (B + 3))
 gd : h.get (B + 3) = some .dfr
 g0 : h.get B = some (.cells [.bool false] true none)
 g1 : h.get (B + 1) = some (.cells [va] true none)
 g2 : h.get (B + 2) = some (.cells [vb] true none)
structure FBad (h₀ : Heap) (va vb : CVal) (B : Nat) (h : Heap) : Prop where
 x : Exd h₀ h
 nb : h₀.next = B
 nx : B + 5 ≤ h.next
 gl : h.get (B + 4) = some (.loop .done (some .ret) 61 0 2 (envL 20 (rhoF va vb B)) (B + 3))
 gd : h.get (B + 3) = some .dfr
 g0 : h.get B = some (.cells [.bool false] true none)
theorem fround_cal {h₀ h : Heap} {va vb : CVal} {B : Nat} {a b : Int} {Q : CVal → Heap → Prop} (R : FS h₀ va vb B h) (k1 : a ≤ b → ∀ h', FS h₀ va vb B h' → Q (.bool true) h') (k0 : ¬ a ≤ b → ∀ h', FBad h₀ va vb B h' → Q (.bool false) h') : CalR tt (B + 4) [.int .i64 a, .int .i64 b] h Q := by
 obtain ⟨x, nb, nx, gl, gd, g0, g1, g2⟩ := R
 refine roundC gl rfl rfl ?_
 (repeat' first | refine go ?_ | refine idxS_ fun _ _ _ => ?_ | refine sp (fun _ => ?_) fun _ => ?_ | fail)
 refine ⟨rfl, none, 61, 0, 2, _, B + 3, gl, ?_⟩
 by_cases hab : a ≤ b
 ·have kk := k1 hab
  (repeat' first | refine go ?_ | refine idxS_ fun _ _ _ => ?_ | refine sp (fun _ => ?_) fun _ => ?_ | fail)
  refine ⟨rfl, .busy, none, 61, 0, 2, _, B + 3, by exact get_, ?_⟩
  exact kk _ ⟨by exact exd_, nb, by simp only [Heap.next_set]; omega, Heap.set_at rfl, by exact get_, by exact get_, by exact get_, by exact get_⟩
 ·have kk := k0 hab
  (repeat' first | refine go ?_ | refine idxS_ fun _ _ _ => ?_ | refine sp (fun _ => ?_) fun _ => ?_ | fail)
  refine ⟨rfl, .busy, none, 61, 0, 2, _, B + 3, by exact get_, ?_⟩
  exact kk _ ⟨by exact exd_, nb, by simp only [Heap.next_set]; omega, Heap.set_at rfl, by exact get_, by exact get_⟩
theorem fyields_cal {h₀ h : Heap} {va vb : CVal} {A B : List Int} {N : Nat} {Q : CVal → Heap → Prop} (R : FS h₀ va vb N h) (ha : RIn h₀ va A) (hb : RIn h₀ vb B) (la : A.length ≤ 1000000000) (lb : B.length ≤ 1000000000)
 (k1 : allJ (min A.length B.length) (fun j => decide (atU A j ≤ atU B j)) = true → ∀ h', FS h₀ va vb N h' → Q (.tuple []) h')
 (k0 : allJ (min A.length B.length) (fun j => decide (atU A j ≤ atU B j)) = false → ∀ h', FBad h₀ va vb N h' → Q (.tuple []) h') : Cal tt 102 [.yield (N + 4), .ptr (N + 1) 0, .ptr (N + 2) 0] h Q := by
 refine Cal.run rfl rfl rfl rfl ?_
 have ha' := ha
 have hb' := hb
 have nx := R.nx
 have g1 := R.g1
 have g2 := R.g2
 rcases ha.len with ⟨rfl, e1⟩ | ⟨i, o, c, rfl⟩
 all_goals
 rcases hb.len with ⟨rfl, e2⟩ | ⟨i', o', c', rfl⟩
 all_goals
 (repeat' first | refine go ?_ | refine idxS_ fun _ _ _ => ?_ | refine sp (fun _ => ?_) fun _ => ?_ | fail)
 refine loopC (fun j : Nat => [(0, .yield (N + 4)), (1, .ptr (N + 1) 0), (2, .ptr (N + 2) 0), (9, .int .i64 (min A.length B.length : Nat)), (10, .int .i64 j)]) (fun j h' => FS h₀ _ _ N h' ∧ j ≤ min A.length B.length ∧ ∀ p, p < j → atU A p ≤ atU B p) (fun j => min A.length B.length - j) 0 ⟨rfl, rfl, rfl, congrArg (CVal.int .i64) (by show min _ _ = _; omega), rfl, trivial⟩ ⟨R, Nat.zero_le _, fun p hp => by omega⟩ ?_
 rintro j ρ h' ⟨R', hj, hx⟩
 have nx' := R'.nx
 have g1' := R'.g1
 have g2' := R'.g2
 have nb' := R'.nb
 by_cases hjl : j < min A.length B.length
 rotate_left
 ·have kk := k1 (allJ_iff.2 fun p hp => decide_eq_true (hx p (by omega)))
  (repeat' first | refine go ?_ | refine idxS_ fun _ _ _ => ?_ | refine sp (fun _ => ?_) fun _ => ?_ | fail)
  exact kk _ R'
 obtain ⟨_, _, _, cs, _, _, e3, i3, g3, a3⟩ := ha'.cell (j := j) (by omega)
 obtain ⟨_, _, _, ds, _, _, e4, i4, g4, a4⟩ := hb'.cell (j := j) (by omega)
 have g3 := R'.x.skip i3 g3
 have g4 := R'.x.skip i4 g4
 rw [← getD_at (by omega)] at a3 a4
 have e9 : ∀ o : Nat, o + ((j : Nat) : Int).toNat * 1 = o + j := fun o => by omega
 simp only [CVal.slice.injEq, reduceCtorEq] at e3 e4
 all_goals
  obtain ⟨rfl, rfl, _, rfl⟩ := e3
  obtain ⟨rfl, rfl, _, rfl⟩ := e4
  (repeat' first | refine go ?_ | (refine AT.of (by rw [e9]; exact a3) ?_) | (refine AT.of (by rw [e9]; exact a4) ?_) | (refine LOOKN.mk (QV.load rfl g3 (by rw [e9]; exact a3)) ?_) | (refine LOOKN.mk (QV.load rfl g4 (by rw [e9]; exact a4)) ?_) | refine idxS_ fun _ _ _ => ?_ | refine sp (fun _ => ?_) fun _ => ?_ | fail)
  refine ROUNDN.mk R'.gl rfl (fround_cal R' (fun hab h2 R2 => ?_) (fun hab h2 R2 => ?_))
  ·(repeat' first | refine go ?_ | refine idxS_ fun _ _ _ => ?_ | refine sp (fun _ => ?_) fun _ => ?_ | fail)
   exact ⟨rfl, j + 1, ⟨rfl, rfl, rfl, rfl, rfl, trivial⟩, ⟨R2, by omega, fun p h1 => by
    rcases Nat.lt_or_ge p j with h4 | h4
    ·exact hx p h4
    ·obtain rfl : p = j := by omega
     exact hab⟩, by omega⟩
  ·have kk := k0 (allJ_no hjl (decide_eq_false hab))
   (repeat' first | refine go ?_ | refine idxS_ fun _ _ _ => ?_ | refine sp (fun _ => ?_) fun _ => ?_ | fail)
   exact kk _ R2
set_option maxHeartbeats 4000000 in
theorem fits_cal {va vb : CVal} {A B : List Int} {h : Heap} {Q : CVal → Heap → Prop} (ha : RIn h va A) (hb : RIn h vb B) (la : A.length ≤ 1000000000) (lb : B.length ≤ 1000000000) (k : ∀ h', Exd h h' → Q (.bool (fitsU A B)) h') : Cal tt 61 [va, vb] h Q := by
 obtain ⟨N, hN⟩ : ∃ N, h.next = N := ⟨_, rfl⟩
 refine Cal.run rfl rfl rfl rfl ?_
 have ha' := ha
 have hb' := hb
 obtain ⟨ea, hea⟩ : ∃ w, w = va := ⟨va, rfl⟩
 obtain ⟨eb, heb⟩ : ∃ w, w = vb := ⟨vb, rfl⟩
 rcases ha.len with ⟨rfl, e1⟩ | ⟨i, o, c, rfl⟩
 all_goals
 rcases hb.len with ⟨rfl, e2⟩ | ⟨i', o', c', rfl⟩
 all_goals
 (repeat' first | refine go ?_ | refine idxS_ fun _ _ _ => ?_ | refine sp (fun _ => ?_) fun _ => ?_ | fail)
 refine CALLN.of (Cal.run rfl rfl rfl rfl ?_)
 (repeat' first | refine go ?_ | refine idxS_ fun _ _ _ => ?_ | refine sp (fun _ => ?_) fun _ => ?_ | fail)
 generalize hh : Heap.new (Heap.new (Heap.new _ _) _) _ = h6
 have n6 : h6.next = N + 3 := by rw [← hh]; exact nx_
 have x6 : Exd h h6 := by rw [← hh]; exact exd_
 have g0 : h6.get N = some (.cells [.bool false] true none) := by rw [← hh]; exact get_
 have g1 : h6.get (N + 1) = some (.cells [ea] true none) := by rw [hea, ← hh]; exact get_
 have g2 : h6.get (N + 2) = some (.cells [eb] true none) := by rw [heb, ← hh]; exact get_
 clear hh
 (repeat' first | refine go ?_ | refine idxS_ fun _ _ _ => ?_ | refine sp (fun _ => ?_) fun _ => ?_ | fail)
 refine rangeC rfl ?_
 rw [Heap.next_new, n6]
 generalize hE : envL 20 _ = E
 obtain rfl : E = envL 20 (rhoF ea eb N) := by
  rw [← hE, hea, heb]
  refine envL_ext fun t ht => ?_
  exact match t, ht with | 0, _ => rfl | 1, _ => rfl | 2, _ => rfl | 3, _ => rfl | 4, _ => rfl | 5, _ => rfl | 6, _ => rfl | 7, _ => rfl | 8, _ => rfl | 9, _ => rfl | 10, _ => rfl | 11, _ => rfl | 12, _ => rfl | 13, _ => rfl | 14, _ => rfl | 15, _ => rfl | 16, _ => rfl | 17, _ => rfl | 18, _ => rfl | 19, _ => rfl | t + 20, h => absurd h (by omega)
 clear hE
 generalize hh : Heap.new (Heap.new h6 _) _ = h8
 have R8 : FS h ea eb N h8 := by
  rw [← hh]
  exact ⟨by exact exd_, hN, by simp only [Heap.next_new, n6]; omega, by exact get_, by exact get_, by exact get_, by exact get_, by exact get_⟩
 clear hh g0 g1 g2 n6 x6
 subst hea heb
 refine fyields_cal R8 ha' hb' la lb (fun ok h' R => ?_) (fun no h' R => ?_)
 ·obtain ⟨x, nb, nx, gl, gd, g0, g1, g2⟩ := R
  refine ⟨.ready, none, 61, 0, 2, _, N + 3, gl, by decide, ?_⟩
  by_cases hl : A.length = B.length
  ·rw [show min A.length B.length = A.length by omega] at ok
   rw [show fitsU A B = true by rw [fitsU, decide_eq_true hl, ok]; rfl] at k
   (repeat' first | refine go ?_ | (refine DEFN.mk (DefP.mark (by exact get_) ?_)) | (refine GETN.mk (Heap.kill_skip (by omega) (by exact get_)) ?_) | (refine AT.of rfl ?_) | refine idxS_ fun _ _ _ => ?_ | refine sp (fun _ => ?_) fun _ => ?_ | fail)
   exact k _ (by exact exd_)
  ·rw [show fitsU A B = false by rw [fitsU, decide_eq_false hl, Bool.false_and]] at k
   first
    | (exfalso; omega)
    | ((repeat' first | refine go ?_ | (refine DEFN.mk (DefP.mark (by exact get_) ?_)) | (refine GETN.mk (Heap.kill_skip (by omega) (by exact get_)) ?_) | (refine AT.of rfl ?_) | refine idxS_ fun _ _ _ => ?_ | refine sp (fun _ => ?_) fun _ => ?_ | fail)
       exact k _ (by exact exd_))
 ·obtain ⟨x, nb, nx, gl, gd, g0⟩ := R
  refine ⟨.done, some .ret, 61, 0, 2, _, N + 3, gl, by decide, ?_⟩
  have hf : fitsU A B = false := by
   rw [fitsU]
   by_cases hl : A.length = B.length
   ·rw [show min A.length B.length = A.length by omega] at no
    rw [no, Bool.and_false]
   ·rw [decide_eq_false hl, Bool.false_and]
  rw [hf] at k
  (repeat' first | refine go ?_ | (refine DEFN.mk (DefP.mark (by exact get_) ?_)) | (refine GETN.mk (Heap.kill_skip (by omega) (by exact get_)) ?_) | (refine AT.of rfl ?_) | refine idxS_ fun _ _ _ => ?_ | refine sp (fun _ => ?_) fun _ => ?_ | fail)
  exact k _ (by exact exd_)
def rowU (M : List (List Int)) (j : Nat) : List Int := M.getD j []
theorem rowU_at {M : List (List Int)} {j : Nat} (hj : j < M.length) : rowU M j = M[j] := by simp [rowU, List.getD, hj]
def RRows (h : Heap) (v : CVal) (M : List (List Int)) : Prop :=
 (v = .nilSlice ∧ M = []) ∨ ∃ i o c, v = .slice i o M.length c ∧ i < h.next ∧ (M = [] ∨ ∃ cs wr opn, h.get i = some (.cells cs wr opn) ∧ ∀ j, j < M.length → ∃ w, cs[o + j]? = some w ∧ RIn h w (rowU M j) ∧ (rowU M j).length ≤ 1000000000)
theorem RRows.exd {h h' : Heap} {v : CVal} {M : List (List Int)} (s : RRows h v M) (e : Exd h h') : RRows h' v M := by
 rcases s with s | ⟨i, o, c, s1, s2, s3⟩
 ·exact .inl s
 ·exact .inr ⟨i, o, c, s1, Nat.lt_of_lt_of_le s2 e.le, s3.imp id fun ⟨cs, wr, opn, g, a⟩ => ⟨cs, wr, opn, (e.get i s2).trans g, fun j hj => by
   obtain ⟨w, h1, h2, h3⟩ := a j hj
   exact ⟨w, h1, h2.exd e, h3⟩⟩⟩
theorem RRows.len {h : Heap} {v : CVal} {M : List (List Int)} (s : RRows h v M) : (v = .nilSlice ∧ M.length = 0) ∨ ∃ i o c, v = .slice i o M.length c := by
 rcases s with ⟨s, e⟩ | ⟨i, o, c, s, _⟩
 ·exact .inl ⟨s, by rw [e]; rfl⟩
 ·exact .inr ⟨i, o, c, s⟩
theorem RRows.cell {h : Heap} {v : CVal} {M : List (List Int)} (s : RRows h v M) {j : Nat} (hj : j < M.length) : ∃ i o c cs wr opn w, v = .slice i o M.length c ∧ i < h.next ∧ h.get i = some (.cells cs wr opn) ∧ cs[o + j]? = some w ∧ RIn h w (rowU M j) ∧ (rowU M j).length ≤ 1000000000 := by
 rcases s with ⟨_, rfl⟩ | ⟨i, o, c, e, hi, ra⟩
 ·simp at hj
 ·rcases ra with rfl | ⟨cs, wr, opn, g, a⟩
  ·simp at hj
  ·obtain ⟨w, h1, h2, h3⟩ := a j hj
   exact ⟨i, o, c, cs, wr, opn, w, e, hi, g, h1, h2, h3⟩
def rowOk (n : Nat) (R : List Int) : Bool := decide (R.length = n) && mayU R
def rowsU (A : List Int) (M K : List (List Int)) : Bool := decide (A.length ≤ 6) && mayU A && decide (M.length = K.length) && decide (M.length ≤ 32) && allJ M.length fun j => rowOk A.length (rowU M j) && rowOk A.length (rowU K j)
theorem rowOk_int {n : Int} {m : Nat} (h : n = m) (R : List Int) : (decide ((R.length : Int) = n) && mayU R) = rowOk m R := by
 rw [rowOk]
 congr 1
 exact decide_eq_decide.2 (by omega)
theorem RRows.lenS {h : Heap} {v : CVal} {M : List (List Int)} {K : Int → Prop} (s : RRows h v M) (k : K M.length) : lenS v K := by
 rcases s with ⟨rfl, rfl⟩ | ⟨i, o, c, rfl, _⟩
 ·exact k
 ·exact k
theorem RRows.idxS {h : Heap} {v : CVal} {M : List (List Int)} {i : Int} {K : Nat → Nat → Prop} (s : RRows h v M) (hi : 0 ≤ i ∧ i < M.length) (k : ∀ b o w, RIn h w (rowU M i.toNat) → At1 h b o w → K b o) : idxS 1 v i K := by
 obtain ⟨b, o, c, cs, wr, opn, w, rfl, hb, g, a, r, _⟩ := s.cell (j := i.toNat) (by omega)
 exact ⟨hi, k _ _ w r ⟨hb, cs, wr, opn, g, by rw [Nat.mul_one]; exact a⟩⟩
theorem RRows.row {h : Heap} {v : CVal} {M : List (List Int)} (s : RRows h v M) {j : Nat} (hj : j < M.length) : (rowU M j).length ≤ 1000000000 := by
 obtain ⟨_, _, _, _, _, _, _, _, _, _, _, _, l⟩ := s.cell hj
 exact l
theorem RRows.one {h : Heap} {v : CVal} {M : List (List Int)} (s : RRows h v M) : v.one = true := by
 rcases s with ⟨rfl, rfl⟩ | ⟨i, o, c, rfl, _⟩ <;> rfl
theorem rowsR_cal {va vm vk : CVal} {A : List Int} {M K : List (List Int)} {h : Heap} {Q : CVal → Heap → Prop} (ha : RIn h va A) (hm : RRows h vm M) (hk : RRows h vk K) (la : A.length ≤ 1000000000) (k : Q (.bool (rowsU A M K)) h) : Cal tt 101 [va, vm, vk] h Q := by
 refine Cal.run rfl rfl rfl rfl ?_
 by_cases h6 : A.length ≤ 6
 rotate_left
 ·rw [show rowsU A M K = false by simp [rowsU, h6]] at k
  (repeat' first | refine go ?_ | refine idxS_ fun _ _ _ => ?_ | refine sp (fun _ => ?_) fun _ => ?_ | fail)
  exact k
 cases mA : mayU A
 ·rw [show rowsU A M K = false by simp [rowsU, mA]] at k
  (repeat' first | refine go ?_ | (refine CALLN.of (isR_cal ha la ?_)) | (refine BC.no (by rw [mA, Bool.and_false]) ?_) | refine idxS_ fun _ _ _ => ?_ | refine sp (fun _ => ?_) fun _ => ?_ | fail)
  exact k
 by_cases hl : M.length = K.length
 rotate_left
 ·rw [show rowsU A M K = false by simp [rowsU, hl]] at k
  (repeat' first | refine go ?_ | (refine CALLN.of (isR_cal ha la ?_)) | (refine BC.yes (by rw [mA, Bool.and_true]; exact decide_eq_true (by omega)) ?_) | (refine hm.lenS ?_) | (refine hk.lenS ?_) | refine idxS_ fun _ _ _ => ?_ | refine sp (fun _ => ?_) fun _ => ?_ | fail)
  exact k
 by_cases h32 : M.length ≤ 32
 rotate_left
 ·rw [show rowsU A M K = false by simp [rowsU, h32]] at k
  (repeat' first | refine go ?_ | (refine CALLN.of (isR_cal ha la ?_)) | (refine BC.yes (by rw [mA, Bool.and_true]; exact decide_eq_true (by omega)) ?_) | (refine hm.lenS ?_) | (refine hk.lenS ?_) | refine idxS_ fun _ _ _ => ?_ | refine sp (fun _ => ?_) fun _ => ?_ | fail)
  exact k
 rw [show rowsU A M K = allJ M.length fun j => rowOk A.length (rowU M j) && rowOk A.length (rowU K j) by simp [rowsU, h6, mA, hl, show K.length ≤ 32 by omega]] at k
 (repeat' first | refine go ?_ | (refine CALLN.of (isR_cal ha la ?_)) | (refine BC.yes (by rw [mA, Bool.and_true]; exact decide_eq_true (by omega)) ?_) | (refine hm.lenS ?_) | (refine hk.lenS ?_) | refine idxS_ fun _ _ _ => ?_ | refine sp (fun _ => ?_) fun _ => ?_ | fail)
 refine loopC (fun j : Nat => [(0, va), (1, vm), (2, vk), (7, .int .i64 j)]) (fun j h' => h' = h ∧ j ≤ M.length ∧ ∀ p, p < j → (rowOk A.length (rowU M p) && rowOk A.length (rowU K p)) = true) (fun j => M.length - j) 0 ⟨rfl, rfl, rfl, rfl, trivial⟩ ⟨rfl, Nat.zero_le _, fun p hp => by omega⟩ ?_
 rintro j ρ h' ⟨rfl, hj, hx⟩
 by_cases hjl : j < M.length
 rotate_left
 ·rw [allJ_iff.2 fun p hp => hx p (by omega)] at k
  (repeat' first | refine go ?_ | (refine hm.lenS ?_) | refine idxS_ fun _ _ _ => ?_ | refine sp (fun _ => ?_) fun _ => ?_ | fail)
  exact k
 have l4 := hm.row hjl
 have l5 := hk.row (j := j) (by omega)
 have ej : (j : Int).toNat = j := Int.toNat_natCast j
 (repeat' first | refine go ?_ | (refine hm.lenS ?_) | ((refine hm.idxS (by omega) fun b o w r4 g4 => ?_; rw [ej] at r4)) | refine idxS_ fun _ _ _ => ?_ | refine sp (fun _ => ?_) fun _ => ?_ | fail)
 refine CALLN.of (isR_cal r4 l4 ?_)
 cases c1 : rowOk A.length (rowU M j)
 ·rw [allJ_no hjl (by rw [c1, Bool.false_and])] at k
  (repeat' first | refine go ?_ | (refine BC.no (by rw [rowOk_int (m := A.length) (by omega)]; exact c1) ?_) | refine idxS_ fun _ _ _ => ?_ | refine sp (fun _ => ?_) fun _ => ?_ | fail)
  exact k
 (repeat' first | refine go ?_ | (refine BC.yes (by rw [rowOk_int (m := A.length) (by omega)]; exact c1) ?_) | ((refine hk.idxS (by omega) fun b o w r5 g5 => ?_; rw [ej] at r5)) | refine idxS_ fun _ _ _ => ?_ | refine sp (fun _ => ?_) fun _ => ?_ | fail)
 refine CALLN.of (isR_cal r5 l5 ?_)
 cases c2 : rowOk A.length (rowU K j)
 ·rw [allJ_no hjl (by rw [c2, Bool.and_false])] at k
  (repeat' first | refine go ?_ | (refine BC.no (by rw [rowOk_int (m := A.length) (by omega)]; exact c2) ?_) | refine idxS_ fun _ _ _ => ?_ | refine sp (fun _ => ?_) fun _ => ?_ | fail)
  exact k
 (repeat' first | refine go ?_ | (refine BC.yes (by rw [rowOk_int (m := A.length) (by omega)]; exact c2) ?_) | refine idxS_ fun _ _ _ => ?_ | refine sp (fun _ => ?_) fun _ => ?_ | fail)
 exact ⟨rfl, j + 1, ⟨rfl, rfl, rfl, rfl, trivial⟩, ⟨rfl, by omega, fun p h1 => by
  rcases Nat.lt_or_ge p j with h4 | h4
  ·exact hx p h4
  ·obtain rfl : p = j := by omega
   rw [c1, c2]; rfl⟩, by omega⟩
def bankU (A : List Int) (M K : List (List Int)) : Bool := rowsU A M K && allJ M.length fun j => fitsU (rowU M j) (rowU K j)
theorem rowsU_len {A : List Int} {M K : List (List Int)} (h : rowsU A M K = true) : M.length = K.length ∧ M.length ≤ 32 ∧ A.length ≤ 6 ∧ mayU A = true ∧ ∀ j, j < M.length → rowOk A.length (rowU M j) = true ∧ rowOk A.length (rowU K j) = true := by
 simp only [rowsU, Bool.and_eq_true, decide_eq_true_eq, allJ_iff] at h
 exact ⟨h.1.1.2, h.1.2, h.1.1.1.1, h.1.1.1.2, h.2⟩
set_option maxHeartbeats 4000000 in
theorem mayR_cal {va vm vk : CVal} {A : List Int} {M K : List (List Int)} {h : Heap} {Q : CVal → Heap → Prop} (ha : RIn h va A) (hm : RRows h vm M) (hk : RRows h vk K) (la : A.length ≤ 1000000000) (k : Q (.bool (bankU A M K)) h) : Cal tt 85 [va, vm, vk] h Q := by
 refine Cal.run rfl rfl rfl rfl ?_
 have ha' := ha
 have hm' := hm
 have hk' := hk
 rcases ha.len with ⟨rfl, e1⟩ | ⟨i, o, c, rfl⟩
 all_goals
 rcases hm.len with ⟨rfl, e2⟩ | ⟨i', o', c', rfl⟩
 all_goals
 rcases hk.len with ⟨rfl, e3⟩ | ⟨i2, o2, c2, rfl⟩
 all_goals
 cases hr : rowsU A M K
 ·rw [bankU, hr, Bool.false_and] at k
  (repeat' first | refine go ?_ | (refine CALLN.of (rowsR_cal ha' hm' hk' la ?_)) | (refine BC.no hr ?_) | refine idxS_ fun _ _ _ => ?_ | refine sp (fun _ => ?_) fun _ => ?_ | fail)
  exact k
 rw [bankU, hr, Bool.true_and] at k
 obtain ⟨hl, h32, _⟩ := rowsU_len hr
 (repeat' first | refine go ?_ | (refine CALLN.of (rowsR_cal ha' hm' hk' la ?_)) | (refine BC.yes hr ?_) | refine idxS_ fun _ _ _ => ?_ | refine sp (fun _ => ?_) fun _ => ?_ | fail)
 refine loopC (fun j : Nat => [(1, _), (2, _), (7, .int .i64 j)]) (fun j h' => h' = h ∧ j ≤ M.length ∧ ∀ p, p < j → fitsU (rowU M p) (rowU K p) = true) (fun j => M.length - j) 0 ⟨rfl, rfl, rfl, trivial⟩ ⟨rfl, Nat.zero_le _, fun p hp => by omega⟩ ?_
 rintro j ρ h' ⟨rfl, hj, hx⟩
 by_cases hjl : j < M.length
 rotate_left
 ·rw [allJ_iff.2 fun p hp => hx p (by omega)] at k
  (repeat' first | refine go ?_ | refine idxS_ fun _ _ _ => ?_ | refine sp (fun _ => ?_) fun _ => ?_ | fail)
  exact k
 obtain ⟨_, _, _, cs, _, _, w, e4, i4, g4, a4, r4, l4⟩ := hm'.cell hjl
 obtain ⟨_, _, _, ds, _, _, w', e5, i5, g5, a5, r5, l5⟩ := hk'.cell (j := j) (by omega)
 have e9 : ∀ o : Nat, o + ((j : Nat) : Int).toNat * 1 = o + j := fun o => by omega
 simp only [CVal.slice.injEq, reduceCtorEq] at e4 e5
 all_goals
  obtain ⟨rfl, rfl, _, rfl⟩ := e4
  obtain ⟨rfl, rfl, _, rfl⟩ := e5
  have r4' := r4
  have r5' := r5
  rcases r4.head with ⟨rfl, _⟩ | ⟨_, _, _, _, rfl⟩ <;> rcases r5.head with ⟨rfl, _⟩ | ⟨_, _, _, _, rfl⟩
  all_goals
  cases c1 : fitsU (rowU M j) (rowU K j)
  ·rw [allJ_no hjl c1] at k
   (repeat' first | refine go ?_ | (refine AT.of (by rw [e9]; exact a4) ?_) | (refine AT.of (by rw [e9]; exact a5) ?_) | (refine LOOKN.mk (QV.load rfl g4 (by rw [e9]; exact a4)) ?_) | (refine LOOKN.mk (QV.load rfl g5 (by rw [e9]; exact a5)) ?_) | (refine CALLN.of (fitsR_cal r4' r5' l4 ?_)) | (refine BC.no c1 ?_) | refine idxS_ fun _ _ _ => ?_ | refine sp (fun _ => ?_) fun _ => ?_ | fail)
   exact k
  ·(repeat' first | refine go ?_ | (refine AT.of (by rw [e9]; exact a4) ?_) | (refine AT.of (by rw [e9]; exact a5) ?_) | (refine LOOKN.mk (QV.load rfl g4 (by rw [e9]; exact a4)) ?_) | (refine LOOKN.mk (QV.load rfl g5 (by rw [e9]; exact a5)) ?_) | (refine CALLN.of (fitsR_cal r4' r5' l4 ?_)) | (refine BC.yes c1 ?_) | refine idxS_ fun _ _ _ => ?_ | refine sp (fun _ => ?_) fun _ => ?_ | fail)
   exact ⟨rfl, j + 1, ⟨rfl, rfl, rfl, trivial⟩, ⟨rfl, by omega, fun p h1 => by
    rcases Nat.lt_or_ge p j with h4 | h4
    ·exact hx p h4
    ·obtain rfl : p = j := by omega
     exact c1⟩, by omega⟩
end Go.Proofs.YtncmoaggkdlkhaaGreat.Cm
namespace Go.Proofs.YtncmoaggkdlkhaaGreat.Cm
open Go.RowKit Go.IntWalk
def canU (W : List Int) (D : List Nat) (M K : List (List Int)) (i : Nat) : Bool := !D.contains i && needU W (rowU K i) (rowU M i)
def nextU (W : List Int) (D : List Nat) (M K : List (List Int)) : Option Nat := (List.range M.length).find? (canU W D M K)
theorem nextU_none {W : List Int} {D : List Nat} {M K : List (List Int)} (h : ∀ i, i < M.length → canU W D M K i = false) : nextU W D M K = none := by
 rw [nextU, List.find?_eq_none]
 intro i hi
 rw [h i (List.mem_range.1 hi)]; decide
theorem nextU_some {W : List Int} {D : List Nat} {M K : List (List Int)} {i : Nat} (hi : i < M.length) (hc : canU W D M K i = true) (h : ∀ p, p < i → canU W D M K p = false) : nextU W D M K = some i := by
 rw [nextU, List.find?_range_eq_some]
 exact ⟨hc, List.mem_range.2 hi, fun p hp => by rw [h p hp]; rfl⟩
def orderU (M K : List (List Int)) : Nat → List Int → List Nat → Option (List Nat)
 | 0, _, D => some D
 | n + 1, W, D => match nextU W D M K with
   | none => none
   | some i => orderU M K n (addU W (rowU M i)) (D ++ [i])
theorem orderU_none {M K : List (List Int)} {n : Nat} {W : List Int} {D : List Nat} (h : nextU W D M K = none) : orderU M K (n + 1) W D = none := by rw [orderU, h]
theorem orderU_some {M K : List (List Int)} {n i : Nat} {W : List Int} {D : List Nat} (h : nextU W D M K = some i) : orderU M K (n + 1) W D = orderU M K n (addU W (rowU M i)) (D ++ [i]) := by rw [orderU, h]
def orderB (A : List Int) (M K : List (List Int)) : Option (List Nat) := if bankU A M K then orderU M K M.length A [] else none
def safeU (A : List Int) (M K : List (List Int)) : Bool := (orderB A M K).isSome
theorem addU_len (A B : List Int) : (addU A B).length = A.length := ofJ_length _ _
theorem atU_add {A B : List Int} {j : Nat} (hj : j < A.length) : atU (addU A B) j = atU A j + atU B j := atU_ofJ hj
def Wide (W : List Int) (n : Nat) : Prop := ∀ j, 0 ≤ atU W j ∧ atU W j ≤ 1000 + 1000 * (n : Int)
theorem Wide.zero {A : List Int} (h : mayU A = true) : Wide A 0 := fun j => by have := mayU_atU h j; omega
theorem Wide.add {W R : List Int} {n : Nat} (h : Wide W n) (hr : mayU R = true) : Wide (addU W R) (n + 1) := fun j => by
 by_cases hj : j < W.length
 ·rw [atU_add hj]
  have := h j
  have := mayU_atU hr j
  omega
 ·rw [atU_out (by rw [addU_len]; exact hj)]
  omega
end Go.Proofs.YtncmoaggkdlkhaaGreat.Cm
namespace Go.Proofs.YtncmoaggkdlkhaaGreat.Cm
open Go.RowKit Go.IntWalk
attribute [local irreducible] Heap.set Heap.new Heap.kill Heap.get Heap.room Cal WP
def nats (D : List Nat) : List Int := D.map fun i : Nat => (i : Int)
theorem nats_length (D : List Nat) : (nats D).length = D.length := List.length_map ..
theorem mem_nats {D : List Nat} {i : Nat} : decide ((i : Int) ∈ nats D) = D.contains i := by
 rw [List.contains_eq_mem]
 refine decide_eq_decide.2 ⟨fun h => ?_, fun h => List.mem_map_of_mem h⟩
 obtain ⟨a, ha, e⟩ := List.mem_map.1 h
 obtain rfl : a = i := by omega
 exact ha
theorem rowOk_iff {n : Nat} {R : List Int} (h : rowOk n R = true) : R.length = n ∧ mayU R = true := by
 rw [rowOk, Bool.and_eq_true, decide_eq_true_eq] at h
 exact h
theorem src_int {h : Heap} {N : Nat} {n : Int} {wr : Bool} {opn : Option Nat} (g : h.get N = some (.cells [.int .i64 n] wr opn)) : srcC h 1 (.slice N 0 1 1) = some (1, [.int .i64 n]) := by
 simp [srcC, g]
theorem RIn.frame {h h' : Heap} {v : CVal} {R : List Int} (s : RIn h v R) (e : ∀ i o l c, v = .slice i o l c → i < h.next → i < h'.next ∧ h'.get i = h.get i) : RIn h' v R := by
 rcases s with s | ⟨i, o, c, s1, s2, s3⟩
 ·exact .inl s
 ·have := e _ _ _ _ s1 s2
  exact .inr ⟨i, o, c, s1, this.1, s3.imp id fun ⟨cs, wr, opn, g, a⟩ => ⟨cs, wr, opn, this.2.trans g, a⟩⟩
theorem orderR_cal {va vm vk : CVal} {A : List Int} {M K : List (List Int)} {h : Heap} {Q : CVal → Heap → Prop} (ha : RIn h va A) (hm : RRows h vm M) (hk : RRows h vk K) (la : A.length ≤ 1000000000)
 (k0 : orderB A M K = none → ∀ h', Exd h h' → Q (.tuple [.nilSlice, .bool false]) h')
 (k1 : ∀ L, orderB A M K = some L → ∀ v h', Exd h h' → RIn h' v (nats L) → Q (.tuple [v, .bool true]) h') : Cal tt 54 [va, vm, vk] h Q := by
 obtain ⟨N, hN⟩ : ∃ N, h.next = N := ⟨_, rfl⟩
 refine Cal.run rfl rfl rfl rfl ?_
 cases hb : bankU A M K
 ·have kk := k0 (by rw [orderB, hb]; rfl)
  (repeat' first | refine go ?_ | (refine CALLN.of (mayR_cal ha hm hk la ?_)) | (refine BC.no hb ?_) | refine idxS_ fun _ _ _ => ?_ | refine sp (fun _ => ?_) fun _ => ?_ | fail)
  exact kk _ (Exd.refl _)
 have hr : rowsU A M K = true := by rw [bankU, Bool.and_eq_true] at hb; exact hb.1
 obtain ⟨hl, h32, h6, mA, hro⟩ := rowsU_len hr
 rw [show orderB A M K = orderU M K M.length A [] by rw [orderB, hb]; rfl] at k0 k1
 have O1 : Own h (h.new (.cells [] true none)) (.slice N 0 0 0) 1 0 [] := Own.new (wr := true) (Heap.new_at rfl hN.symm) (by omega) (by rw [Heap.next_new]; omega)
 have x1 : Exd h (h.new (.cells [] true none)) := Exd.new (Exd.refl _)
 (repeat' first | refine go ?_ | (refine CALLN.of (mayR_cal ha hm hk la ?_)) | (refine BC.yes hb ?_) | refine idxS_ fun _ _ _ => ?_ | refine sp (fun _ => ?_) fun _ => ?_ | fail)
 refine loopC (fun y : CVal × CVal × List Int × List Nat × Nat => [(1, vm), (2, vk), (8, y.1), (9, y.2.1)]) (fun y h' => Exd h h' ∧ Own h h' y.1 1 y.2.2.2.1.length ((nats y.2.2.2.1).map (.int .i64)) ∧ RIn h' y.2.1 y.2.2.1 ∧ y.2.2.1.length = A.length ∧ Wide y.2.2.1 y.2.2.2.1.length ∧ y.2.2.2.1.length + y.2.2.2.2 = M.length ∧ orderU M K y.2.2.2.2 y.2.2.1 y.2.2.2.1 = orderU M K M.length A [] ∧ ∀ a o l c, y.2.1 = .slice a o l c → vne a y.1) (fun y => y.2.2.2.2) (.slice N 0 0 0, va, A, [], M.length) ⟨rfl, rfl, rfl, rfl, trivial⟩ ⟨x1, O1, ha.exd x1, rfl, Wide.zero mA, Nat.zero_add _, rfl, fun a o l c e o1 l1 c1 e1 => by
  rcases ha with ⟨e2, _⟩ | ⟨_, _, _, e2, hi, _⟩ <;> simp_all <;> omega⟩ ?_
 rintro ⟨vo, vw, W, D, n⟩ ρ h' ⟨xk, O, hw, lw, wd, hn, ho, nv⟩
 simp only at O hw lw wd hn ho nv ⊢
 rw [← ho] at k0 k1
 have lk := xk.le
 have ro : RIn h' vo (nats D) := by have := O; rw [← nats_length] at this; exact this.ints
 have ld : (nats D).length = D.length := nats_length D
 have hm' := hm.exd xk
 have hk' := hk.exd xk
 cases n with
 | zero =>
   have kk := k1 D rfl
   (repeat' first | refine go ?_ | (refine hm'.lenS ?_) | refine idxS_ fun _ _ _ => ?_ | refine sp (fun _ => ?_) fun _ => ?_ | fail)
   exact kk _ _ xk ro
 | succ n =>
   (repeat' first | refine go ?_ | (refine hm'.lenS ?_) | refine idxS_ fun _ _ _ => ?_ | refine sp (fun _ => ?_) fun _ => ?_ | fail)
   refine loopC (fun y : Int × Nat => [(1, vm), (2, vk), (8, vo), (9, vw), (10, .int .i64 y.1), (11, .int .i64 y.2)]) (fun y h2 => h2 = h' ∧ y.2 ≤ M.length ∧ ((y.1 = -1 ∧ ∀ p, p < y.2 → canU W D M K p = false) ∨ ∃ q : Nat, y.1 = q ∧ q < M.length ∧ nextU W D M K = some q)) (fun y => M.length - y.2) (-1, 0) ⟨rfl, rfl, rfl, rfl, rfl, rfl, trivial⟩ ⟨rfl, Nat.zero_le _, .inl ⟨rfl, fun p hp => absurd hp (Nat.not_lt_zero _)⟩⟩ ?_
   rintro ⟨f, j⟩ ρ2 h2 ⟨rfl, hj, hf⟩
   simp only at hj hf ⊢
   rcases hf with ⟨rfl, hno⟩ | ⟨q, rfl, hq, hs⟩
   rotate_left
   ·rw [orderU_some hs] at ho
    obtain ⟨N1, hN1⟩ : ∃ N, h2.next = N := ⟨_, rfl⟩
    have src : srcC (h2.new (.cells [.int .i64 q] true none)) 1 (.slice N1 0 1 1) = some (1, [.int .i64 q]) := src_int (by exact get_)
    obtain ⟨h5, ea, x5, O5, n5, _, f5⟩ := O.push (bytes := 8) xk (Exd.new (Exd.refl _)) src (by omega) rfl (by omega)
    have n5' := n5
    rw [Heap.next_new] at n5'
    have hw5 : RIn h5 vw W := hw.frame fun a o l c e ha => ⟨by rw [n5, Heap.next_new]; omega, (f5 a (by rw [Heap.next_new]; omega) (nv _ _ _ _ e)).trans (Heap.get_new_ne _ _ _ (by omega))⟩
    have hm5 := hm.exd x5
    obtain ⟨q1, q2⟩ := rowOk_iff (hro q hq).1
    have eq9 : ((q : Nat) : Int).toNat = q := Int.toNat_natCast q
    have wb : ∀ j, -1000000000 ≤ atU W j ∧ atU W j ≤ 1000000000 := fun j => by have := wd j; omega
    have rb : ∀ j, -1000000000 ≤ atU (rowU M q) j ∧ atU (rowU M q) j ≤ 1000000000 := fun j => by have := mayU_atU q2 j; omega
    by_cases hjl : j < M.length
    all_goals
     (repeat' first | refine go ?_ | (refine hm'.lenS ?_) | (refine SOMEN.mk ea ?_) | ((refine hm5.idxS (by omega) fun b o w r5 g5 => ?_; rw [eq9] at r5)) | refine idxS_ fun _ _ _ => ?_ | refine sp (fun _ => ?_) fun _ => ?_ | fail)
     refine CALLN.of (moreR_cal hw5 r5 (by omega) (by omega) wb rb fun p h6 x6 O6 => ?_)
     (repeat' first | refine go ?_ | refine idxS_ fun _ _ _ => ?_ | refine sp (fun _ => ?_) fun _ => ?_ | fail)
     exact ⟨rfl, (_, _, addU W (rowU M q), D ++ [q], n), ⟨rfl, rfl, rfl, rfl, trivial⟩, ⟨x5.trans x6, by
      have := O5.exd x6
      rw [show (D ++ [q]).length = D.length + 1 by simp, show nats (D ++ [q]) = nats D ++ [(q : Int)] by simp [nats], List.map_append]
      exact this, by rw [← addU_len W (rowU M q)]; exact O6.rin rfl, (addU_len _ _).trans lw, by rw [show (D ++ [q]).length = D.length + 1 by simp]; exact wd.add q2, (by show (D ++ [q]).length + n = M.length; rw [show (D ++ [q]).length = D.length + 1 by simp]; omega), ho, fun a o l c e o1 l1 c1 e1 => by
      simp only [CVal.slice.injEq] at e e1
      have : h5.next ≤ p := O6.1
      have := e.1
      have := e1.1
      rw [Heap.next_new] at this
      omega⟩, Nat.lt_succ_self n⟩
   ·by_cases hjl : j < M.length
    rotate_left
    ·have kk := k0 (orderU_none (nextU_none fun p hp => hno p (by omega)))
     (repeat' first | refine go ?_ | (refine hm'.lenS ?_) | refine idxS_ fun _ _ _ => ?_ | refine sp (fun _ => ?_) fun _ => ?_ | fail)
     exact kk _ xk
    ·obtain ⟨q1, q2⟩ := rowOk_iff (hro j hjl).1
     obtain ⟨q3, q4⟩ := rowOk_iff (hro j hjl).2
     have e9 : ((j : Nat) : Int).toNat = j := Int.toNat_natCast j
     have nxt : ∀ b, canU W D M K j = b → b = false → ∀ p, p < j + 1 → canU W D M K p = false := fun b hb h0 p hp => by
      rcases Nat.lt_or_ge p j with h4 | h4
      ·exact hno p h4
      ·obtain rfl : p = j := by omega
       rw [hb, h0]
     cases c1 : D.contains j
     ·(repeat' first | refine go ?_ | (refine hm'.lenS ?_) | (refine CALLN.of (hasR_cal ro (by omega) ?_)) | (refine BC.no (mem_nats.trans c1) ?_) | ((refine hk'.idxS (by omega) fun b o w r5 g5 => ?_; rw [e9] at r5)) | ((refine hm'.idxS (by omega) fun b o w r4 g4 => ?_; rw [e9] at r4)) | refine idxS_ fun _ _ _ => ?_ | refine sp (fun _ => ?_) fun _ => ?_ | fail)
      refine CALLN.of (needR_cal hw r5 r4 (by omega) (by omega) (by omega) q4 q2 ?_)
      cases c2 : needU W (rowU K j) (rowU M j)
      ·have cu : canU W D M K j = false := by rw [canU, c1, c2]; rfl
       (repeat' first | refine go ?_ | refine idxS_ fun _ _ _ => ?_ | refine sp (fun _ => ?_) fun _ => ?_ | fail)
       exact ⟨rfl, (-1, j + 1), ⟨rfl, rfl, rfl, rfl, rfl, rfl, trivial⟩, ⟨rfl, by simp only; omega, .inl ⟨rfl, nxt _ cu rfl⟩⟩, by simp only; omega⟩
      ·have cu : canU W D M K j = true := by rw [canU, c1, c2]; rfl
       (repeat' first | refine go ?_ | refine idxS_ fun _ _ _ => ?_ | refine sp (fun _ => ?_) fun _ => ?_ | fail)
       exact ⟨rfl, ((j : Int), j + 1), ⟨rfl, rfl, rfl, rfl, rfl, rfl, trivial⟩, ⟨rfl, by simp only; omega, .inr ⟨j, rfl, hjl, nextU_some hjl cu hno⟩⟩, by simp only; omega⟩
     ·have cu : canU W D M K j = false := by rw [canU, c1]; rfl
      (repeat' first | refine go ?_ | (refine hm'.lenS ?_) | (refine CALLN.of (hasR_cal ro (by omega) ?_)) | (refine BC.yes (mem_nats.trans c1) ?_) | refine idxS_ fun _ _ _ => ?_ | refine sp (fun _ => ?_) fun _ => ?_ | fail)
      exact ⟨rfl, (-1, j + 1), ⟨rfl, rfl, rfl, rfl, rfl, rfl, trivial⟩, ⟨rfl, by simp only; omega, .inl ⟨rfl, nxt _ cu rfl⟩⟩, by simp only; omega⟩
end Go.Proofs.YtncmoaggkdlkhaaGreat.Cm
namespace Go.Proofs.YtncmoaggkdlkhaaGreat.Cm
open Go.RowKit Go.IntWalk
def passU (H Q : List (List Int)) (n : Nat) : Nat → List Int → List Nat → List Int × List Nat
 | 0, W, G => (W, G)
 | k + 1, W, G => if (!G.contains (n - (k + 1)) && fitsU (rowU Q (n - (k + 1))) W) = true then passU H Q n k (addU W (rowU H (n - (k + 1)))) (G ++ [n - (k + 1)]) else passU H Q n k W G
def goneU (H Q : List (List Int)) (n : Nat) : Nat → List Int → List Nat → List Nat
 | 0, _, G => G
 | m + 1, W, G => if (passU H Q n n W G).2.length = G.length then G else goneU H Q n m (passU H Q n n W G).1 (passU H Q n n W G).2
def leftU (n : Nat) (G : List Nat) : List Nat := (List.range n).filter fun i => !G.contains i
def stuckU (A : List Int) (H Q : List (List Int)) : List Nat := if rowsU A H Q = true then leftU H.length (goneU H Q H.length (H.length + 1) A []) else []
theorem passU_step {H Q : List (List Int)} {n i : Nat} {W : List Int} {G : List Nat} (hi : i < n) : passU H Q n (n - i) W G = if (!G.contains i && fitsU (rowU Q i) W) = true then passU H Q n (n - (i + 1)) (addU W (rowU H i)) (G ++ [i]) else passU H Q n (n - (i + 1)) W G := by
 have e : n - i = (n - (i + 1)) + 1 := by omega
 rw [e, passU]
 have e2 : n - (n - (i + 1) + 1) = i := by omega
 rw [e2]
theorem passU_gone {H Q : List (List Int)} {n : Nat} : ∀ {k : Nat} {W : List Int} {G : List Nat}, k ≤ n → (passU H Q n k W G).2.length ≤ G.length + k ∧ G.length ≤ (passU H Q n k W G).2.length ∧ (G.Nodup → (passU H Q n k W G).2.Nodup) ∧ ((∀ g ∈ G, g < n) → ∀ g ∈ (passU H Q n k W G).2, g < n) ∧ (passU H Q n k W G).1.length = W.length ∧ ((passU H Q n k W G).2.length = G.length → (passU H Q n k W G) = (W, G))
 | 0, W, G, _ => ⟨Nat.le_refl _, Nat.le_refl _, id, id, rfl, fun _ => rfl⟩
 | k + 1, W, G, hk => by
   rw [passU]
   split
   ·next hc =>
    obtain ⟨a, b, c, d, e, f⟩ := passU_gone (H := H) (Q := Q) (n := n) (k := k) (W := addU W (rowU H (n - (k + 1)))) (G := G ++ [n - (k + 1)]) (by omega)
    rw [List.length_append, List.length_singleton] at a b
    simp only [Bool.and_eq_true, Bool.not_eq_true', List.contains_eq_mem, decide_eq_false_iff_not] at hc
    refine ⟨by omega, by omega, fun nd => c (List.nodup_append.2 ⟨nd, by simp, fun x hx y hy => by simp at hy; subst hy; exact fun e => hc.1 (e ▸ hx)⟩), fun hg => d fun g hg' => ?_, by rw [e, addU_len], fun h => by omega⟩
    rcases List.mem_append.1 hg' with h | h
    ·exact hg g h
    ·simp at h; omega
   ·obtain ⟨a, b, c, d, e, f⟩ := passU_gone (H := H) (Q := Q) (n := n) (k := k) (W := W) (G := G) (by omega)
    exact ⟨by omega, b, c, d, e, f⟩
theorem goneU_same {H Q : List (List Int)} {n m : Nat} {W : List Int} {G : List Nat} (h : (passU H Q n n W G).2.length = G.length) : goneU H Q n (m + 1) W G = G := by rw [goneU, if_pos h]
theorem goneU_more {H Q : List (List Int)} {n m : Nat} {W : List Int} {G : List Nat} (h : (passU H Q n n W G).2.length ≠ G.length) : goneU H Q n (m + 1) W G = goneU H Q n m (passU H Q n n W G).1 (passU H Q n n W G).2 := by rw [goneU, if_neg h]
theorem nodup_lt : ∀ {n : Nat} {G : List Nat}, G.Nodup → (∀ g ∈ G, g < n) → G.length ≤ n
 | 0, G, _, hg => by
   cases G with
   | nil => exact Nat.le_refl _
   | cons g G => exact absurd (hg g (List.mem_cons_self ..)) (Nat.not_lt_zero _)
 | n + 1, G, nd, hg => by
   have := nodup_lt (n := n) (G := G.erase n) (nd.erase n) fun g h => by
    have := (nd.mem_erase_iff).1 h
    have := hg g this.2
    omega
   rw [List.length_erase] at this
   split at this <;> omega
def posI (P : List Int) (x : Int) : Option Nat := P.findIdx? fun y => y == x
theorem posI_some {P : List Int} {x : Int} {j : Nat} (hj : j < P.length) (h : P.getD j 0 = x) (hp : ∀ p, p < j → P.getD p 0 ≠ x) : posI P x = some j := by
 rw [posI, List.findIdx?_eq_some_iff_getElem]
 refine ⟨hj, ?_, fun p hp' => ?_⟩
 ·rw [List.getD_eq_getElem?_getD, List.getElem?_eq_getElem hj] at h
  simpa using h
 ·have := hp p hp'
  rw [List.getD_eq_getElem?_getD, List.getElem?_eq_getElem (by omega)] at this
  simpa using this
theorem posI_none {P : List Int} {x : Int} (hp : ∀ p, p < P.length → P.getD p 0 ≠ x) : posI P x = none := by
 rw [posI, List.findIdx?_eq_none_iff]
 intro y hy
 obtain ⟨p, hl, rfl⟩ := List.getElem_of_mem hy
 have := hp p hl
 rw [List.getD_eq_getElem?_getD, List.getElem?_eq_getElem hl] at this
 simpa using this
theorem posI_at {P : List Int} {x : Int} {k : Nat} (h : posI P x = some k) : k < P.length ∧ P.getD k 0 = x := by
 rw [posI, List.findIdx?_eq_some_iff_getElem] at h
 obtain ⟨h1, h2, _⟩ := h
 exact ⟨h1, by rw [List.getD_eq_getElem?_getD, List.getElem?_eq_getElem h1]; simpa using h2⟩
theorem posI_mem {P : List Int} {x : Int} : posI P x = none ↔ x ∉ P := by
 rw [posI, List.findIdx?_eq_none_iff]
 constructor
 ·intro h hx
  have := h x hx
  simp at this
 ·intro h y hy
  simp only [beq_eq_false_iff_ne, ne_eq]
  exact fun e => h (e ▸ hy)
def posN : Option Nat → Int
 | some k => k
 | none => -1
structure AS where
 T : List Int
 A : List Int
 cl : Bool
 P : List Int
 H : List (List Int)
 C : List (List Int)
 W : List (Int × List Int)
def posW (W : List (Int × List Int)) (x : Int) : Option Nat := posI (W.map (·.1)) x
def grantsS (S : AS) (x : Int × List Int) (first : Bool) : Bool := match posI S.P x.1 with
 | none => false
 | some k => fitsU x.2 S.A && (!S.cl || (!(noneU (rowU S.H k) && !first) && safeU (subU S.A x.2) (S.H.set k (addU (rowU S.H k) x.2)) S.C))
def grantS (S : AS) (x : Int × List Int) : AS := match posI S.P x.1 with
 | none => S
 | some k => { S with A := subU S.A x.2, H := S.H.set k (addU (rowU S.H k) x.2) }
def scanL : List (Int × List Int) → AS → List (Int × List Int) → List Int → AS × List Int
 | [], S, left, out => ({ S with W := left }, out)
 | x :: xs, S, left, out => if grantsS S x left.isEmpty = true then scanL xs (grantS S x) left (out ++ [x.1]) else scanL xs S (left ++ [x]) out
def scanS (S : AS) : AS × List Int := scanL S.W S [] []
def admitS (S : AS) (pid : Int) (c : List Int) : AS × Int :=
 if pid < 1 ∨ rowOk S.T.length c = false then (S, 1)
 else if (posI S.P pid).isSome = true then (S, 4)
 else if 32 ≤ S.P.length then (S, 1)
 else if S.cl = true ∧ fitsU c S.T = false then (S, 35)
 else
  let at_ := (S.P.takeWhile fun p => decide (p < pid)).length
  ({ S with P := S.P.take at_ ++ pid :: S.P.drop at_, H := S.H.take at_ ++ ofJ S.T.length (fun _ => 0) :: S.H.drop at_, C := S.C.take at_ ++ c :: S.C.drop at_ }, 0)
def askS (S : AS) (pid : Int) (u : List Int) : AS × List Int × Int := match posI S.P pid with
 | none => (S, [], 3)
 | some k =>
   if rowOk S.T.length u = false then (S, [], 1)
   else if (posW S.W pid).isSome = true then (S, [], 4)
   else if S.cl = true ∧ fitsU (addU (rowU S.H k) u) (rowU S.C k) = false then (S, [], 35)
   else ((scanS { S with W := S.W ++ [(pid, u)] }).1, (scanS { S with W := S.W ++ [(pid, u)] }).2, 0)
def giveS (S : AS) (pid : Int) (u : List Int) : AS × List Int × Int := match posI S.P pid with
 | none => (S, [], 3)
 | some k =>
   if rowOk S.T.length u = false then (S, [], 1)
   else if fitsU u (rowU S.H k) = false then (S, [], 36)
   else
    let S' : AS := { S with A := addU S.A u, H := S.H.set k (subU (rowU S.H k) u) }
    ((scanS S').1, (scanS S').2, 0)
def cutW (W : List (Int × List Int)) (pid : Int) : List (Int × List Int) := match posW W pid with
 | none => W
 | some w => W.eraseIdx w
def leaveS (S : AS) (pid : Int) : AS × List Int × Bool := match posI S.P pid with
 | none => (S, [], false)
 | some k =>
   let S' : AS := { S with A := addU S.A (rowU S.H k), W := cutW S.W pid, P := S.P.eraseIdx k, H := S.H.eraseIdx k, C := S.C.eraseIdx k }
   ((scanS S').1, (scanS S').2, true)
def asksS (S : AS) : List (List Int) := S.P.map fun p => match posW S.W p with
 | none => ofJ S.T.length fun _ => 0
 | some w => (S.W.getD w (0, [])).2
def safeS (S : AS) : Bool := safeU S.A S.H S.C
def stuckS (S : AS) : List Int := (stuckU S.A S.H (asksS S)).map fun i => S.P.getD i 0
def sumJ (H : List (List Int)) (j : Nat) : Int := (H.map fun R => atU R j).sum
structure GoodS (S : AS) : Prop where
 t6 : S.T.length ≤ 6
 tm : mayU S.T = true
 a : S.A.length = S.T.length
 a0 : ∀ j, 0 ≤ atU S.A j
 hl : S.H.length = S.P.length
 cl : S.C.length = S.P.length
 p32 : S.P.length ≤ 32
 ps : S.P.Pairwise (· < ·)
 p1 : ∀ p ∈ S.P, 1 ≤ p ∧ p ≤ 9223372036854775807
 h : ∀ R ∈ S.H, R.length = S.T.length ∧ ∀ j, 0 ≤ atU R j
 c : ∀ R ∈ S.C, rowOk S.T.length R = true
 sum : ∀ j, j < S.T.length → atU S.A j + sumJ S.H j = atU S.T j
 w : ∀ x ∈ S.W, x.1 ∈ S.P ∧ rowOk S.T.length x.2 = true
 wd : (S.W.map (·.1)).Nodup
theorem rowU_mem {M : List (List Int)} {j : Nat} (hj : j < M.length) : rowU M j ∈ M := by rw [rowU_at hj]; exact List.getElem_mem hj
theorem sumJ_nonneg {j : Nat} : ∀ {H : List (List Int)}, (∀ R ∈ H, 0 ≤ atU R j) → 0 ≤ sumJ H j
 | [], _ => Int.le_refl _
 | R :: H, h => by
   have := sumJ_nonneg (j := j) (H := H) fun R hR => h R (List.mem_cons_of_mem _ hR)
   have h0 := h R (List.mem_cons_self ..)
   simp only [sumJ, List.map_cons, List.sum_cons] at this ⊢
   omega
theorem sumJ_at {j : Nat} : ∀ {H : List (List Int)} {k : Nat}, (∀ R ∈ H, 0 ≤ atU R j) → k < H.length → atU (rowU H k) j ≤ sumJ H j
 | [], _, _, hk => by simp at hk
 | R :: H, 0, h, _ => by
   have := sumJ_nonneg (j := j) (H := H) fun R hR => h R (List.mem_cons_of_mem _ hR)
   simp only [sumJ, List.map_cons, List.sum_cons, rowU, List.getD_cons_zero] at this ⊢
   omega
 | R :: H, k + 1, h, hk => by
   have := sumJ_at (j := j) (H := H) (k := k) (fun R hR => h R (List.mem_cons_of_mem _ hR)) (by simpa using hk)
   have h0 := h R (List.mem_cons_self ..)
   simp only [sumJ, List.map_cons, List.sum_cons, rowU, List.getD_cons_succ] at this ⊢
   omega
theorem sumJ_set {j : Nat} {R : List Int} : ∀ {H : List (List Int)} {k : Nat}, k < H.length → sumJ (H.set k R) j = sumJ H j - atU (rowU H k) j + atU R j
 | [], _, hk => by simp at hk
 | R' :: H, 0, _ => by
   simp only [sumJ, List.set_cons_zero, List.map_cons, List.sum_cons, rowU, List.getD_cons_zero]
   omega
 | R' :: H, k + 1, hk => by
   have := sumJ_set (j := j) (R := R) (H := H) (k := k) (by simpa using hk)
   simp only [sumJ, List.set_cons_succ, List.map_cons, List.sum_cons, rowU, List.getD_cons_succ] at this ⊢
   omega
theorem sumJ_erase {j : Nat} : ∀ {H : List (List Int)} {k : Nat}, k < H.length → sumJ (H.eraseIdx k) j = sumJ H j - atU (rowU H k) j
 | [], _, hk => by simp at hk
 | R' :: H, 0, _ => by
   simp only [sumJ, List.eraseIdx_cons_zero, List.map_cons, List.sum_cons, rowU, List.getD_cons_zero]
   omega
 | R' :: H, k + 1, hk => by
   have := sumJ_erase (j := j) (H := H) (k := k) (by simpa using hk)
   simp only [sumJ, List.eraseIdx_cons_succ, List.map_cons, List.sum_cons, rowU, List.getD_cons_succ] at this ⊢
   omega
theorem sumJ_ins {j k : Nat} {R : List Int} {H : List (List Int)} : sumJ (H.take k ++ R :: H.drop k) j = sumJ H j + atU R j := by
 have e : sumJ H j = sumJ (H.take k ++ H.drop k) j := by rw [List.take_append_drop]
 rw [e]
 simp only [sumJ, List.map_append, List.map_cons, List.sum_append, List.sum_cons]
 omega
theorem mayU_of {R : List Int} (h : ∀ j, j < R.length → 0 ≤ atU R j ∧ atU R j ≤ 1000) : mayU R = true := by
 rw [mayU_iff]
 intro n hn
 obtain ⟨j, hj, rfl⟩ := List.getElem_of_mem hn
 have := h j hj
 rwa [getD_at hj] at this
theorem fitsU_iff {A B : List Int} : fitsU A B = true ↔ A.length = B.length ∧ ∀ j, j < A.length → atU A j ≤ atU B j := by
 simp only [fitsU, Bool.and_eq_true, decide_eq_true_eq, allJ_iff]
theorem rowOk_of {n : Nat} {R : List Int} (h1 : R.length = n) (h2 : mayU R = true) : rowOk n R = true := by rw [rowOk, h2, decide_eq_true h1]; rfl
theorem rowOk_split {n : Nat} {R : List Int} (h : rowOk n R = true) : R.length = n ∧ mayU R = true := by
 rw [rowOk, Bool.and_eq_true, decide_eq_true_eq] at h
 exact h
theorem subU_len (A B : List Int) : (subU A B).length = A.length := ofJ_length _ _
theorem atU_sub {A B : List Int} {j : Nat} (hj : j < A.length) : atU (subU A B) j = atU A j - atU B j := atU_ofJ hj
section
variable {S : AS} (G : GoodS S)
include G
theorem GoodS.atA (j : Nat) : atU S.A j ≤ 1000 := by
 by_cases hj : j < S.T.length
 ·have := G.sum j hj
  have := sumJ_nonneg (j := j) (H := S.H) fun R hR => (G.h R hR).2 j
  have := mayU_atU G.tm j
  omega
 ·rw [atU_out (by rw [G.a]; exact hj)]; omega
theorem GoodS.mayA : mayU S.A = true := mayU_of fun j _ => ⟨G.a0 j, G.atA j⟩
theorem GoodS.atH {R : List Int} (hR : R ∈ S.H) (j : Nat) : 0 ≤ atU R j ∧ atU R j ≤ 1000 := by
 refine ⟨(G.h R hR).2 j, ?_⟩
 by_cases hj : j < S.T.length
 ·obtain ⟨k, hk, e⟩ := List.getElem_of_mem hR
  have := G.sum j hj
  have h1 := sumJ_at (j := j) (H := S.H) (k := k) (fun R hR => (G.h R hR).2 j) hk
  rw [rowU_at hk, e] at h1
  have := mayU_atU G.tm j
  have := G.a0 j
  omega
 ·rw [atU_out (by rw [(G.h R hR).1]; exact hj)]; omega
theorem GoodS.rowH {R : List Int} (hR : R ∈ S.H) : rowOk S.T.length R = true := rowOk_of (G.h R hR).1 (mayU_of fun j _ => G.atH hR j)
theorem GoodS.pos {x : Int} (hx : x ∈ S.P) : ∃ k, posI S.P x = some k ∧ k < S.P.length ∧ k < S.H.length ∧ k < S.C.length := by
 cases h : posI S.P x with
 | none => exact absurd hx (posI_mem.1 h)
 | some k => exact ⟨k, rfl, (posI_at h).1, by rw [G.hl]; exact (posI_at h).1, by rw [G.cl]; exact (posI_at h).1⟩
theorem GoodS.less {u : List Int} (hu : rowOk S.T.length u = true) (hf : fitsU u S.A = true) : lessOk S.A u = true := by
 obtain ⟨h1, h2⟩ := rowOk_split hu
 obtain ⟨h3, h4⟩ := fitsU_iff.1 hf
 rw [lessOk, G.mayA, h2, decide_eq_true (by omega), Bool.and_self, Bool.and_self, Bool.true_and]
 refine mayU_of fun j hj => ?_
 rw [subU_len] at hj
 rw [atU_sub hj]
 have := h4 j (by omega)
 have := mayU_atU h2 j
 have := G.atA j
 omega
theorem GoodS.lessH {u R : List Int} (hR : R ∈ S.H) (hu : rowOk S.T.length u = true) (hf : fitsU u R = true) : lessOk R u = true := by
 obtain ⟨h1, h2⟩ := rowOk_split hu
 obtain ⟨h3, h4⟩ := fitsU_iff.1 hf
 rw [lessOk, (rowOk_split (G.rowH hR)).2, h2, decide_eq_true (by omega), Bool.and_self, Bool.and_self, Bool.true_and]
 refine mayU_of fun j hj => ?_
 rw [subU_len] at hj
 rw [atU_sub hj]
 have := h4 j (by omega)
 have := mayU_atU h2 j
 have := G.atH hR j
 omega
theorem GoodS.move {k : Nat} {A' R' : List Int} (hk : k < S.H.length) (hA : A'.length = S.T.length) (hR : R'.length = S.T.length) (a0 : ∀ j, 0 ≤ atU A' j) (r0 : ∀ j, 0 ≤ atU R' j) (e : ∀ j, j < S.T.length → atU A' j + atU R' j = atU S.A j + atU (rowU S.H k) j) : GoodS { S with A := A', H := S.H.set k R' } := by
 obtain ⟨t6, tm, a, a0', hl, cl, p32, ps, p1, h, c, sum, w, wd⟩ := G
 refine ⟨t6, tm, hA, a0, by rw [List.length_set]; exact hl, cl, p32, ps, p1, fun R hR2 => ?_, c, fun j hj => ?_, w, wd⟩
 ·rcases List.mem_or_eq_of_mem_set hR2 with h1 | h1
  ·exact h R h1
  ·rw [h1]; exact ⟨hR, r0⟩
 ·show atU A' j + sumJ (S.H.set k R') j = atU S.T j
  rw [sumJ_set hk]
  have := sum j hj
  have := e j hj
  omega
theorem GoodS.grant {x : Int × List Int} (hx : x.1 ∈ S.P) (hu : rowOk S.T.length x.2 = true) (hf : fitsU x.2 S.A = true) : GoodS (grantS S x) := by
 obtain ⟨k, e, h1, h2, h3⟩ := G.pos hx
 obtain ⟨q1, q2⟩ := rowOk_split hu
 obtain ⟨q3, q4⟩ := fitsU_iff.1 hf
 have hm := rowU_mem h2
 rw [grantS, e]
 refine G.move h2 (by rw [subU_len]; exact G.a) (by rw [addU_len]; exact (G.h _ hm).1) (fun j => ?_) (fun j => ?_) fun j hj => ?_
 ·by_cases hj : j < S.A.length
  ·rw [atU_sub hj]
   have := q4 j (by omega)
   omega
  ·rw [atU_out (by rw [subU_len]; exact hj)]; omega
 ·by_cases hj : j < (rowU S.H k).length
  ·rw [atU_add hj]
   have := mayU_atU q2 j
   have := (G.h _ hm).2 j
   omega
  ·rw [atU_out (by rw [addU_len]; exact hj)]; omega
 ·rw [atU_sub (by rw [G.a]; exact hj), atU_add (by rw [(G.h _ hm).1]; exact hj)]
  omega
end
theorem grantS_P (S : AS) (x : Int × List Int) : (grantS S x).P = S.P ∧ (grantS S x).T = S.T ∧ (grantS S x).W = S.W ∧ (grantS S x).C = S.C ∧ (grantS S x).cl = S.cl := by
 unfold grantS
 split <;> exact ⟨rfl, rfl, rfl, rfl, rfl⟩
theorem grantsS_fits {S : AS} {x : Int × List Int} {f : Bool} (h : grantsS S x f = true) : fitsU x.2 S.A = true := by
 unfold grantsS at h
 split at h
 ·simp at h
 ·rw [Bool.and_eq_true] at h; exact h.1
theorem GoodS.withW {S : AS} (G : GoodS S) {W : List (Int × List Int)} (w : ∀ x ∈ W, x.1 ∈ S.P ∧ rowOk S.T.length x.2 = true) (wd : (W.map (·.1)).Nodup) : GoodS { S with W := W } := by
 obtain ⟨t6, tm, a, a0', hl, cl, p32, ps, p1, h, c, sum, _, _⟩ := G
 exact ⟨t6, tm, a, a0', hl, cl, p32, ps, p1, h, c, sum, w, wd⟩
theorem GoodS.scan : ∀ {xs : List (Int × List Int)} {S : AS} {left : List (Int × List Int)} {out : List Int}, GoodS S → (∀ x ∈ left ++ xs, x.1 ∈ S.P ∧ rowOk S.T.length x.2 = true) → ((left ++ xs).map (·.1)).Nodup → GoodS (scanL xs S left out).1
 | [], S, left, out, G, h1, h2 => by
   rw [List.append_nil] at h1 h2
   exact G.withW h1 h2
 | x :: xs, S, left, out, G, h1, h2 => by
   rw [scanL]
   have hx := h1 x (List.mem_append_right _ (List.mem_cons_self ..))
   split
   ·next hg =>
    have e := grantS_P S x
    refine GoodS.scan (G.grant hx.1 hx.2 (grantsS_fits hg)) (fun y hy => ?_) (h2.sublist ((List.Sublist.append_left (List.sublist_cons_self ..) _).map _))
    rw [e.1, e.2.1]
    refine h1 y ?_
    rcases List.mem_append.1 hy with h | h
    ·exact List.mem_append_left _ h
    ·exact List.mem_append_right _ (List.mem_cons_of_mem _ h)
   ·refine GoodS.scan G (fun y hy => h1 y (by simpa using hy)) (by simpa using h2)
end Go.Proofs.YtncmoaggkdlkhaaGreat.Cm
namespace Go.Proofs.YtncmoaggkdlkhaaGreat.Cm
open Go.RowKit Go.IntWalk
attribute [local irreducible] Heap.set Heap.new Heap.kill Heap.get Heap.room Cal WP
def rowB (A : List Int) (M K : List (List Int)) (j : Nat) : Bool := rowOk A.length (rowU M j) && rowOk A.length (rowU K j) && fitsU (rowU M j) (rowU K j)
theorem bankU_rows {A : List Int} {M K : List (List Int)} : bankU A M K = (decide (A.length ≤ 6) && mayU A && decide (M.length = K.length) && decide (M.length ≤ 32) && allJ M.length (rowB A M K)) := by
 rw [bankU, rowsU, Bool.and_assoc]
 congr 1
 rw [Bool.eq_iff_iff, Bool.and_eq_true, allJ_iff, allJ_iff, allJ_iff]
 simp only [rowB, Bool.and_eq_true]
 exact ⟨fun ⟨a, b⟩ j hj => ⟨a j hj, b j hj⟩, fun h => ⟨fun j hj => (h j hj).1, fun j hj => (h j hj).2⟩⟩
theorem bmay_cal {va vm vk : CVal} {A : List Int} {M K : List (List Int)} {h : Heap} {Q : CVal → Heap → Prop} (ha : RIn h va A) (hm : RRows h vm M) (hk : RRows h vk K) (la : A.length ≤ 1000000000) (k : ∀ h', Exd h h' → Q (.bool (bankU A M K)) h') : Cal tt 88 [va, vm, vk] h Q := by
 refine Cal.run rfl rfl rfl rfl ?_
 rw [bankU_rows] at k
 by_cases h6 : A.length ≤ 6
 rotate_left
 ·have kk := k _ (Exd.refl _)
  rw [decide_eq_false h6] at kk
  (repeat' first | refine go ?_ | refine idxS_ fun _ _ _ => ?_ | refine sp (fun _ => ?_) fun _ => ?_ | fail)
  exact kk
 cases mA : mayU A
 ·have kk := k _ (Exd.refl _)
  rw [mA, Bool.and_false] at kk
  (repeat' first | refine go ?_ | (refine CALLN.of (is_cal ha la ?_)) | (refine BC.no (by rw [mA, Bool.and_false]) ?_) | refine idxS_ fun _ _ _ => ?_ | refine sp (fun _ => ?_) fun _ => ?_ | fail)
  exact kk
 by_cases hl : M.length = K.length
 rotate_left
 ·have kk := k _ (Exd.refl _)
  rw [decide_eq_false hl, Bool.and_false] at kk
  (repeat' first | refine go ?_ | (refine CALLN.of (is_cal ha la ?_)) | (refine BC.yes (by rw [mA, Bool.and_true]; exact decide_eq_true (by omega)) ?_) | (refine hm.lenS ?_) | (refine hk.lenS ?_) | refine idxS_ fun _ _ _ => ?_ | refine sp (fun _ => ?_) fun _ => ?_ | fail)
  exact kk
 by_cases h32 : M.length ≤ 32
 rotate_left
 ·have kk := k _ (Exd.refl _)
  rw [decide_eq_false h32, Bool.and_false] at kk
  (repeat' first | refine go ?_ | (refine CALLN.of (is_cal ha la ?_)) | (refine BC.yes (by rw [mA, Bool.and_true]; exact decide_eq_true (by omega)) ?_) | (refine hm.lenS ?_) | (refine hk.lenS ?_) | refine idxS_ fun _ _ _ => ?_ | refine sp (fun _ => ?_) fun _ => ?_ | fail)
  exact kk
 rw [decide_eq_true h6, mA, decide_eq_true hl, decide_eq_true h32, Bool.and_self, Bool.and_self, Bool.and_self, Bool.true_and] at k
 (repeat' first | refine go ?_ | (refine CALLN.of (is_cal ha la ?_)) | (refine BC.yes (by rw [mA, Bool.and_true]; exact decide_eq_true (by omega)) ?_) | (refine hm.lenS ?_) | (refine hk.lenS ?_) | refine idxS_ fun _ _ _ => ?_ | refine sp (fun _ => ?_) fun _ => ?_ | fail)
 refine loopC (fun j : Nat => [(1, vm), (2, vk), (7, .int .i64 A.length), (32, .int .i64 M.length), (33, .int .i64 j)]) (fun j h' => Exd h h' ∧ j ≤ M.length ∧ ∀ p, p < j → rowB A M K p = true) (fun j => M.length - j) 0 ⟨rfl, rfl, rfl, rfl, rfl, trivial⟩ ⟨Exd.refl _, Nat.zero_le _, fun p hp => by omega⟩ ?_
 rintro j ρ h1 ⟨x1, hj, hx⟩
 by_cases hjl : j < M.length
 rotate_left
 ·have kk := k _ x1
  rw [allJ_iff.2 fun p hp => hx p (by omega)] at kk
  (repeat' first | refine go ?_ | refine idxS_ fun _ _ _ => ?_ | refine sp (fun _ => ?_) fun _ => ?_ | fail)
  exact kk
 have hm1 := hm.exd x1
 have hk1 := hk.exd x1
 have l4 := hm.row hjl
 have l5 := hk.row (j := j) (by omega)
 have ej : (j : Int).toNat = j := Int.toNat_natCast j
 (repeat' first | refine go ?_ | ((refine hm1.idxS (by omega) fun b o w r4 g4 => ?_; rw [ej] at r4)) | refine idxS_ fun _ _ _ => ?_ | refine sp (fun _ => ?_) fun _ => ?_ | fail)
 refine CALLN.of (is_cal r4 l4 ?_)
 cases c1 : rowOk A.length (rowU M j)
 ·have kk := k _ x1
  rw [allJ_no hjl (by rw [rowB, c1]; rfl)] at kk
  (repeat' first | refine go ?_ | (refine BC.no (by rw [rowOk_int (m := A.length) (by omega)]; exact c1) ?_) | refine idxS_ fun _ _ _ => ?_ | refine sp (fun _ => ?_) fun _ => ?_ | fail)
  exact kk
 (repeat' first | refine go ?_ | (refine BC.yes (by rw [rowOk_int (m := A.length) (by omega)]; exact c1) ?_) | ((refine hk1.idxS (by omega) fun b o w r5 g5 => ?_; rw [ej] at r5)) | refine idxS_ fun _ _ _ => ?_ | refine sp (fun _ => ?_) fun _ => ?_ | fail)
 refine CALLN.of (is_cal r5 l5 ?_)
 cases c2 : rowOk A.length (rowU K j)
 ·have kk := k _ x1
  rw [allJ_no hjl (by rw [rowB, c2, Bool.and_false]; rfl)] at kk
  (repeat' first | refine go ?_ | (refine BC.no (by rw [rowOk_int (m := A.length) (by omega)]; exact c2) ?_) | refine idxS_ fun _ _ _ => ?_ | refine sp (fun _ => ?_) fun _ => ?_ | fail)
  exact kk
 (repeat' first | refine go ?_ | (refine BC.yes (by rw [rowOk_int (m := A.length) (by omega)]; exact c2) ?_) | ((refine hk1.idxS (by omega) fun b o w r6 g6 => ?_; rw [ej] at r6)) | ((refine hm1.idxS (by omega) fun b o w r7 g7 => ?_; rw [ej] at r7)) | refine idxS_ fun _ _ _ => ?_ | refine sp (fun _ => ?_) fun _ => ?_ | fail)
 refine CALLN.of (fits_cal r7 r6 l4 l5 fun h2 x2 => ?_)
 cases c3 : fitsU (rowU M j) (rowU K j)
 ·have kk := k _ (x1.trans x2)
  rw [allJ_no hjl (by rw [rowB, c3, Bool.and_false])] at kk
  (repeat' first | refine go ?_ | refine idxS_ fun _ _ _ => ?_ | refine sp (fun _ => ?_) fun _ => ?_ | fail)
  exact kk
 (repeat' first | refine go ?_ | refine idxS_ fun _ _ _ => ?_ | refine sp (fun _ => ?_) fun _ => ?_ | fail)
 exact ⟨rfl, j + 1, ⟨rfl, rfl, rfl, rfl, rfl, trivial⟩, ⟨x1.trans x2, by omega, fun p h1 => by
  rcases Nat.lt_or_ge p j with h4 | h4
  ·exact hx p h4
  ·obtain rfl : p = j := by omega
   rw [rowB, c1, c2, c3]; rfl⟩, by omega⟩
def WSl (h₀ h : Heap) (v : CVal) (W : List Int) : Prop :=
 (v = .nilSlice ∧ W = []) ∨ ∃ b, v = .slice b 0 W.length W.length ∧ h₀.next ≤ b ∧ b < h.next ∧ (W = [] ∨ ∃ opn, h.get b = some (.cells (W.map (.int .i64)) true opn) ∧ (opn = none ∨ opn = some 1))
section
variable {h₀ h h' : Heap} {v : CVal} {W : List Int}
theorem WSl.exd (s : WSl h₀ h v W) (x : Exd h h') : WSl h₀ h' v W := by
 rcases s with s | ⟨b, s1, s2, s3, s4⟩
 ·exact .inl s
 ·exact .inr ⟨b, s1, s2, Nat.lt_of_lt_of_le s3 x.le, s4.imp id fun ⟨opn, g, r⟩ => ⟨opn, (x.get b s3).trans g, r⟩⟩
theorem WSl.rin (s : WSl h₀ h v W) : RIn h v W := by
 rcases s with s | ⟨b, s1, s2, s3, s4⟩
 ·exact .inl s
 ·exact .inr ⟨b, 0, _, s1, s3, s4.imp id fun ⟨opn, g, _⟩ => ⟨_, _, _, g, fun j hj => by simp [hj]⟩⟩
theorem WSl.one (s : WSl h₀ h v W) : v.one = true := s.rin.one
theorem WSl.idxS {i : Int} {j : Nat} {K : Nat → Nat → Prop} (s : WSl h₀ h v W) (hi : i = j) (hj : j < W.length) (k : ∀ b opn, v = .slice b 0 W.length W.length → h₀.next ≤ b → b < h.next → h.get b = some (.cells (W.map (.int .i64)) true opn) → (opn = none ∨ opn = some 1) → K b j) : Cm.idxS 1 v i K := by
 subst hi
 rcases s with ⟨rfl, rfl⟩ | ⟨b, rfl, s2, s3, s4⟩
 ·simp at hj
 ·rcases s4 with rfl | ⟨opn, g, r⟩
  ·simp at hj
  ·refine ⟨by omega, ?_⟩
   rw [Nat.zero_add, Nat.mul_one, Int.toNat_natCast]
   exact k b opn rfl s2 s3 g r
theorem WSl.frame (s : WSl h₀ h v W) (n : h.next ≤ h'.next) (e : ∀ i o, isB v i → h.get i = some o → (∃ cs wr opn, o = .cells cs wr opn) → h'.get i = some o) : WSl h₀ h' v W := by
 rcases s with s | ⟨b, s1, s2, s3, s4⟩
 ·exact .inl s
 ·exact .inr ⟨b, s1, s2, Nat.lt_of_lt_of_le s3 n, s4.imp id fun ⟨opn, g, r⟩ => ⟨opn, e b _ ⟨_, _, _, s1⟩ g ⟨_, _, _, rfl⟩, r⟩⟩
theorem at_atU {j : Nat} (hj : j < W.length) : (W.map (CVal.int .i64))[j]? = some (.int .i64 (atU W j)) := by
 rw [List.getElem?_map, List.getElem?_eq_getElem hj, getD_at hj]; rfl
theorem putU {j : Nat} {x : Int} : putCells (W.map (CVal.int .i64)) j [.int .i64 x] = (W.set j x).map (.int .i64) := by simp [putCells, List.map_set]
theorem ofJ_set {n j : Nat} {f g : Nat → Int} (hj : j < n) : (ofJ n (upTo j f g)).set j (f j) = ofJ n (upTo (j + 1) f g) := by
 refine List.ext_getElem? fun p => ?_
 rw [List.getElem?_set]
 by_cases hp : p < n
 ·rw [ofJ_get? hp, ofJ_get? hp, ofJ_length]
  by_cases e : j = p
  ·subst e; simp [upTo, hj]
  ·rw [if_neg e]
   simp only [upTo]
   by_cases h1 : p < j
   ·rw [if_pos h1, if_pos (by omega)]
   ·rw [if_neg h1, if_neg (by omega)]
 ·rw [if_neg (by omega), List.getElem?_eq_none (by rw [ofJ_length]; omega), List.getElem?_eq_none (by rw [ofJ_length]; omega)]
theorem atU_upTo {n j : Nat} {f g : Nat → Int} (hj : j < n) : atU (ofJ n (upTo j f g)) j = g j := by rw [atU_ofJ hj]; simp [upTo]
theorem WSl.put {b j : Nat} {x : Int} {opn : Option Nat} (e : v = .slice b 0 W.length W.length) (s2 : h₀.next ≤ b) (s3 : b < h.next) (r : opn = none ∨ opn = some 1) : WSl h₀ (h.set b (.cells (putCells (W.map (.int .i64)) j [.int .i64 x]) true opn)) v (W.set j x) := by
 refine .inr ⟨b, by rw [List.length_set]; exact e, s2, by rw [Heap.next_set]; exact s3, .inr ⟨opn, by rw [putU]; exact Heap.set_at rfl, r⟩⟩
end
theorem cloneW_cal {v : CVal} {R : List Int} {h : Heap} {Q : CVal → Heap → Prop} (hr : RIn h v R) (hl : R.length ≤ 1000000000) (k : ∀ v' h', Exd h h' → WSl h h' v' R → Q v' h') : Cal tt 40 [v] h Q := by
 obtain ⟨N, hN⟩ : ∃ N, h.next = N := ⟨_, rfl⟩
 refine Cal.run rfl rfl rfl rfl ?_
 rcases hr with ⟨rfl, rfl⟩ | ⟨i, o, c, rfl, hi, ra⟩
 ·(repeat' first | refine go ?_ | refine idxS_ fun _ _ _ => ?_ | refine sp (fun _ => ?_) fun _ => ?_ | fail)
  exact k _ _ (Exd.refl _) (.inl ⟨rfl, rfl⟩)
 ·by_cases h0 : R.length = 0
  ·obtain rfl : R = [] := by simpa using h0
   (repeat' first | refine go ?_ | (refine SOMEN.mk (appendC_none rfl (.inr ⟨_, _, _, _, rfl⟩)) ?_) | refine idxS_ fun _ _ _ => ?_ | refine sp (fun _ => ?_) fun _ => ?_ | fail)
   exact k _ _ (Exd.new (Exd.refl _)) (.inr ⟨N, rfl, by omega, by exact lt_, .inl rfl⟩)
  ·rcases ra with rfl | ⟨cs, wr, opn, ga, fa⟩
   ·simp at h0
   have O : IsSl (h.new (.cells [] true none)) (.slice N 0 0 0) 1 0 [] := .inr ⟨N, true, none, rfl, rfl, by exact get_, .inl rfl⟩
   have src : srcC (h.new (.cells [] true none)) 1 (.slice i o R.length c) = some (R.length, R.map (.int .i64)) := by
    have e1 : (cs.drop o).take R.length = R.map (.int .i64) := by
     refine List.ext_getElem? fun j => ?_
     rw [List.getElem?_take]
     split
     ·next hj => rw [List.getElem?_drop, fa j hj]; simp [hj]
     ·next hj => rw [List.getElem?_eq_none (by simpa using hj)]
    have g' : (h.new (.cells [] true none)).get i = some (.cells cs wr opn) := Exd.skip (Exd.new (Exd.refl _)) hi ga
    simp only [srcC, if_neg h0, g', Nat.mul_one, e1, List.length_map, if_true]
   obtain ⟨h2, ea, n2, g2, f2⟩ := appendC_sl (bytes := 8) O src (by omega) (by simp [CVal.one]) (by omega)
   have n3 : h2.next = h.next + 2 := by rw [n2, Heap.next_new]
   (repeat' first | refine go ?_ | (refine SOMEN.mk ea ?_) | refine idxS_ fun _ _ _ => ?_ | refine sp (fun _ => ?_) fun _ => ?_ | fail)
   rw [Nat.zero_add] at *
   rw [Heap.next_new] at *
   exact k _ h2 ⟨by omega, fun p hp => (f2 p (by omega) fun _ _ _ e => by simp only [CVal.slice.injEq] at e; omega).trans (Heap.get_new_ne _ _ _ (by omega))⟩ (.inr ⟨h.next + 1, rfl, by omega, by omega, .inr ⟨_, g2, .inr rfl⟩⟩)
structure BS (h₀ h : Heap) (mh mk : Nat) (vt : CVal) (W : List Int) (D : List Nat) (M K : List (List Int)) (LH LK : List (Int × CVal)) : Prop where
 x : Exd h₀ h
 t : WSl h₀ h vt W
 h1 : h₀.next ≤ mh ∧ mh < h.next
 k1 : h₀.next ≤ mk ∧ mk < h.next
 ne : mh ≠ mk
 mH : MapAt h mh keyI LH
 mK : MapAt h mk keyI LK
 lh : ∀ i : Nat, i < M.length → if D.contains i then lookA (i : Int) LH = none else ∃ w, lookA (i : Int) LH = some w ∧ RIn h₀ w (rowU M i)
 lk : ∀ i : Nat, i < M.length → ∃ w, lookA (i : Int) LK = some w ∧ RIn h₀ w (rowU K i)
 n : LH.length + D.length = M.length
theorem BS.exd {h₀ h h' : Heap} {mh mk : Nat} {vt : CVal} {W : List Int} {D : List Nat} {M K : List (List Int)} {LH LK : List (Int × CVal)} (B : BS h₀ h mh mk vt W D M K LH LK) (x : Exd h h') : BS h₀ h' mh mk vt W D M K LH LK :=
 ⟨B.x.trans x, B.t.exd x, ⟨B.h1.1, Nat.lt_of_lt_of_le B.h1.2 x.le⟩, ⟨B.k1.1, Nat.lt_of_lt_of_le B.k1.2 x.le⟩, B.ne, B.mH.of_get (x.get _ B.h1.2), B.mK.of_get (x.get _ B.k1.2), B.lh, B.lk, B.n⟩
theorem BS.upd {h₀ h h' : Heap} {mh mk : Nat} {vt : CVal} {W : List Int} {D : List Nat} {M K : List (List Int)} {LH LK : List (Int × CVal)} {S : Nat → Prop} (B : BS h₀ h mh mk vt W D M K LH LK) (u : Upd S h h') (hs : ∀ i, S i → h₀.next ≤ i ∧ i ≠ mh ∧ i ≠ mk ∧ ¬ isB vt i) : BS h₀ h' mh mk vt W D M K LH LK :=
 ⟨⟨Nat.le_trans B.x.le u.le, fun i hi => (u.get i (Nat.lt_of_lt_of_le hi B.x.le) fun h => by have := (hs i h).1; omega).trans (B.x.get i hi)⟩,
   B.t.frame u.le fun i o hb g _ => (u.get i (by
    rcases B.t with ⟨rfl, _⟩ | ⟨b', e, _, h2, _⟩
    ·exact (isB_nil hb).elim
    ·rw [e, isB_slice] at hb; omega) fun h => (hs i h).2.2.2 hb).trans g,
   ⟨B.h1.1, Nat.lt_of_lt_of_le B.h1.2 u.le⟩, ⟨B.k1.1, Nat.lt_of_lt_of_le B.k1.2 u.le⟩, B.ne, B.mH.of_get (u.get _ B.h1.2 fun h => (hs _ h).2.1 rfl), B.mK.of_get (u.get _ B.k1.2 fun h => (hs _ h).2.2.1 rfl), B.lh, B.lk, B.n⟩
theorem bcan_cal {h₀ h : Heap} {mh mk : Nat} {vt : CVal} {W : List Int} {D : List Nat} {M K : List (List Int)} {LH LK : List (Int × CVal)} {i n : Nat} {Q : CVal → Heap → Prop} (B : BS h₀ h mh mk vt W D M K LH LK) (hi : i < M.length) (wd : Wide W n) (_ : n ≤ 1000) (lw : W.length ≤ 6) (rm : rowOk W.length (rowU M i) = true) (rk : rowOk W.length (rowU K i) = true)
 (k : ∀ h', Exd h h' → Q (.bool (canU W D M K i)) h') : Cal tt 90 [.agg [vt, .map mh, .map mk], .int .i64 i] h Q := by
 obtain ⟨N, hN⟩ : ∃ N, h.next = N := ⟨_, rfl⟩
 refine Cal.run rfl rfl rfl rfl ?_
 have o1 := B.t.one
 obtain ⟨st1, g1, s1, _⟩ := B.mH
 obtain ⟨st2, g2, s2, _⟩ := B.mK
 have lt1 := B.h1.2
 have lt2 := B.k1.2
 have l := B.lh i hi
 obtain ⟨w2, e2, r2⟩ := B.lk i hi
 obtain ⟨q1, q2⟩ := rowOk_iff rm
 obtain ⟨q3, q4⟩ := rowOk_iff rk
 cases hd : D.contains i
 rotate_left
 ·rw [hd] at l
  rw [if_pos rfl] at l
  rw [show canU W D M K i = false by rw [canU, hd]; rfl] at k
  (repeat' first | refine go ?_ | (refine lkNT KeyE.int l ?_) | refine idxS_ fun _ _ _ => ?_ | refine sp (fun _ => ?_) fun _ => ?_ | fail)
  exact k _ (by exact exd_)
 rw [hd, if_neg Bool.false_ne_true] at l
 obtain ⟨w1, e1, r1⟩ := l
 rw [show canU W D M K i = needU W (rowU K i) (rowU M i) by rw [canU, hd]; rfl] at k
 (repeat' first | refine go ?_ | (refine lkT KeyE.int e1 ?_) | (refine lkF KeyE.int e2 ?_) | refine idxS_ fun _ _ _ => ?_ | refine sp (fun _ => ?_) fun _ => ?_ | fail)
 refine loopC (fun j : Nat => [(2, .ptr N 0), (5, w1), (21, w2), (22, .int .i64 (rowU K i).length), (23, .int .i64 j)]) (fun j h' => Exd h h' ∧ h'.get N = some (.cells [vt, .map mh, .map mk] true none) ∧ j ≤ W.length ∧ ∀ p, p < j → atU (rowU K i) p - atU (rowU M i) p ≤ atU W p) (fun j => W.length - j) 0 ⟨rfl, rfl, rfl, rfl, rfl, trivial⟩ ⟨by exact exd_, by exact get_, Nat.zero_le _, fun p hp => by omega⟩ ?_
 rintro j ρ h' ⟨xk, gN, hj, hx⟩
 have gj : ∀ R : List Int, R.getD (j : Int).toNat 0 = atU R j := fun R => by rw [Int.toNat_natCast]; rfl
 by_cases hjl : j < W.length
 rotate_left
 ·rw [needU, allJ_iff.2 fun p hp => decide_eq_true (hx p (by omega))] at k
  (repeat' first | refine go ?_ | refine idxS_ fun _ _ _ => ?_ | refine sp (fun _ => ?_) fun _ => ?_ | fail)
  exact k _ xk
 have b1 := mayU_atU q4 j
 have b2 := mayU_atU q2 j
 have b3 := wd j
 have r1' := r1.exd (B.x.trans xk)
 have r2' := r2.exd (B.x.trans xk)
 have r3' := (B.t.exd xk).rin
 by_cases hxy : atU (rowU K i) j - atU (rowU M i) j ≤ atU W j
 ·(repeat' first | refine go ?_ | ((refine RIn.idxS (by assumption) (by omega) fun b o g => ?_; rw [gj] at g)) | refine idxS_ fun _ _ _ => ?_ | refine sp (fun _ => ?_) fun _ => ?_ | fail)
  exact ⟨rfl, j + 1, ⟨rfl, rfl, rfl, rfl, rfl, trivial⟩, ⟨xk, gN, by omega, fun p h1 => by
   rcases Nat.lt_or_ge p j with h4 | h4
   ·exact hx p h4
   ·obtain rfl : p = j := by omega
    exact hxy⟩, by omega⟩
 ·rw [needU, allJ_no hjl (decide_eq_false hxy)] at k
  (repeat' first | refine go ?_ | ((refine RIn.idxS (by assumption) (by omega) fun b o g => ?_; rw [gj] at g)) | refine idxS_ fun _ _ _ => ?_ | refine sp (fun _ => ?_) fun _ => ?_ | fail)
  exact k _ xk
theorem bcomplete_cal {h₀ h : Heap} {mh mk : Nat} {vt : CVal} {W : List Int} {D : List Nat} {M K : List (List Int)} {LH LK : List (Int × CVal)} {i n : Nat} {Q : CVal → Heap → Prop} (B : BS h₀ h mh mk vt W D M K LH LK) (hi : i < M.length) (hd : D.contains i = false) (wd : Wide W n) (hn : n ≤ 1000) (lw : W.length ≤ 6) (rm : rowOk W.length (rowU M i) = true)
 (k : ∀ h' LH', BS h₀ h' mh mk vt (addU W (rowU M i)) (D ++ [i]) M K LH' LK → Upd (fun j => isB vt j ∨ j = mh) h h' → Q (.tuple []) h') : Cal tt 91 [.agg [vt, .map mh, .map mk], .int .i64 i] h Q := by
 obtain ⟨N, hN⟩ : ∃ N, h.next = N := ⟨_, rfl⟩
 refine Cal.run rfl rfl rfl rfl ?_
 have o1 := B.t.one
 obtain ⟨st1, g1, s1, _⟩ := B.mH
 have lt1 := B.h1.2
 have lt2 := B.k1.2
 have l := B.lh i hi
 obtain ⟨q1, q2⟩ := rowOk_iff rm
 rw [hd, if_neg Bool.false_ne_true] at l
 obtain ⟨w1, e1, r1⟩ := l
 have xl := B.x.le
 (repeat' first | refine go ?_ | (refine lkF KeyE.int e1 ?_) | refine idxS_ fun _ _ _ => ?_ | refine sp (fun _ => ?_) fun _ => ?_ | fail)
 have bN : ∀ b, isB vt b → b ≠ N := fun b hb => by
  rcases B.t with ⟨rfl, _⟩ | ⟨b', e, _, h2, _⟩
  ·exact (isB_nil hb).elim
  ·rw [e, isB_slice] at hb; omega
 refine loopC (fun j : Nat => [(1, .int .i64 i), (2, .ptr N 0), (9, w1), (10, .int .i64 (rowU M i).length), (11, .int .i64 j)]) (fun j h' => Exd h₀ h' ∧ N < h'.next ∧ Upd (isB vt) h h' ∧ h'.get N = some (.cells [vt, .map mh, .map mk] true none) ∧ j ≤ W.length ∧ h'.get mh = h.get mh ∧ h'.get mk = h.get mk ∧ WSl h₀ h' vt (ofJ W.length (upTo j (fun p => atU W p + atU (rowU M i) p) (atU W)))) (fun j => W.length - j) 0 ⟨rfl, rfl, rfl, rfl, rfl, trivial⟩ ⟨by have := B.x; exact exd_, by rw [Heap.next_new]; omega, Upd.new (Upd.refl _ _), by exact get_, Nat.zero_le _, by rw [g1]; exact get_, Heap.get_new_ne _ _ _ (by omega), by rw [upTo_zero, ofJ_atU]; exact B.t.exd (Exd.new (Exd.refl _))⟩ ?_
 rintro j ρ h' ⟨x0, nl, u, gN, hj, gh, gk, hw⟩
 have lw' : (ofJ W.length (upTo j (fun p => atU W p + atU (rowU M i) p) (atU W))).length = W.length := ofJ_length _ _
 have ul := u.le
 by_cases hjl : j < W.length
 rotate_left
 ·obtain rfl : j = W.length := by omega
  rw [upTo_all] at hw
  have hM := B.mH.of_get gh
  have g1' := gh.trans g1
  (repeat' first | refine go ?_ | ((refine OPN.delete KeyE.int rfl rfl hM fun h2 f2 n2 M2 => ?_)) | refine idxS_ fun _ _ _ => ?_ | refine sp (fun _ => ?_) fun _ => ?_ | fail)
  have cN : ∀ b o, isB vt b → h'.get b = some o → (∃ cs wr opn, o = .cells cs wr opn) → h2.get b = some o := fun b o hb g ⟨cs, wr, opn, e⟩ => by
   rw [f2 b fun e2 => ?_]
   ·exact g
   ·subst e2 e
    rw [g] at g1'
    simp at g1'
  refine k h2 _ ⟨⟨by have := x0.le; omega, fun p hp => ?_⟩, hw.frame (by omega) cN, ⟨B.h1.1, by omega⟩, ⟨B.k1.1, by omega⟩, B.ne, M2, B.mK.of_get ((f2 _ (fun e => B.ne e.symm)).trans gk), fun i' hi' => ?_, B.lk, ?_⟩ ⟨by omega, fun p hp hs => ?_⟩
  ·have := B.h1.1
   rw [f2 p (by omega), x0.get p hp]
  ·have l' := B.lh i' hi'
   rw [lookA_del B.mH.nd]
   by_cases e : i' = i
   ·subst e
    rw [if_pos (by simp), if_pos rfl]
   ·have ec : (D ++ [i]).contains i' = D.contains i' := by simp [List.contains_eq_mem, e]
    rw [ec, if_neg (show ¬ (i' : Int) = i by omega)]
    exact l'
  ·have := delA_length e1
   have := B.n
   rw [List.length_append, List.length_singleton]
   omega
  ·rw [f2 p fun e => hs (.inr e)]
   exact u.get p hp fun h1 => hs (.inl h1)
 have b2 := mayU_atU q2 j
 have b3 := wd j
 have r1' := r1.exd x0
 have gj : ∀ R : List Int, R.getD (j : Int).toNat 0 = atU R j := fun R => by rw [Int.toNat_natCast]; rfl
 have au := atU_upTo (f := fun p => atU W p + atU (rowU M i) p) (g := atU W) hjl
 have aj := at_atU (W := ofJ W.length (upTo j (fun p => atU W p + atU (rowU M i) p) (atU W))) (j := j) (by omega)
 rw [au] at aj
 (repeat' first | refine go ?_ | ((refine WSl.idxS hw rfl (by omega) fun b opn e s2 s3 g r => ?_)) | ((refine RIn.idxS r1' (by omega) fun b o g => ?_; rw [gj] at g)) | (refine AT.of aj ?_) | refine idxS_ fun _ _ _ => ?_ | refine sp (fun _ => ?_) fun _ => ?_ | fail)
 refine ⟨rfl, j + 1, ⟨rfl, rfl, rfl, rfl, rfl, trivial⟩, ⟨Exd.set x0 (by omega), by rw [Heap.next_set]; exact nl, Upd.set u (.inl ⟨_, _, _, by assumption⟩), ?_, by omega, ?_, ?_, ?_⟩, by omega⟩
 ·rw [Heap.get_set_ne _ _ _ _ (fun e2 => bN _ ⟨_, _, _, by assumption⟩ e2.symm)]; exact gN
 ·rw [Heap.get_set_ne]
  ·exact gh
  ·intro e2
   have a := gh.trans g1
   rw [e2] at a
   exact absurd (a.symm.trans ‹h'.get _ = some (CObj.cells (List.map _ _) true _)›) (by simp)
 ·rw [Heap.get_set_ne]
  ·exact gk
  ·intro e2
   obtain ⟨st2, g2, _⟩ := B.mK
   have a := gk.trans g2
   rw [e2] at a
   exact absurd (a.symm.trans ‹h'.get _ = some (CObj.cells (List.map _ _) true _)›) (by simp)
 ·rw [← ofJ_set hjl]
  exact WSl.put (by assumption) (by assumption) (by assumption) (by assumption)
theorem bbegin_cal {va vm vk : CVal} {A : List Int} {M K : List (List Int)} {h : Heap} {Q : CVal → Heap → Prop} (ha : RIn h va A) (hm : RRows h vm M) (hk : RRows h vk K) (la : A.length ≤ 1000000000) (hl : M.length = K.length) (h32 : M.length ≤ 32)
 (k : ∀ vt mh mk LH LK h', BS h h' mh mk vt A [] M K LH LK → Q (.agg [vt, .map mh, .map mk]) h') : Cal tt 89 [va, vm, vk] h Q := by
 obtain ⟨N, hN⟩ : ∃ N, h.next = N := ⟨_, rfl⟩
 refine Cal.run rfl rfl rfl rfl ?_
 (repeat' first | refine go ?_ | refine idxS_ fun _ _ _ => ?_ | refine sp (fun _ => ?_) fun _ => ?_ | fail)
 refine CALLN.of (cloneW_cal (ha.exd exd_) la fun vt h1 x1 t1 => ?_)
 obtain ⟨N1, hN1⟩ : ∃ N, h1.next = N := ⟨_, rfl⟩
 have l1 := x1.le
 rw [Heap.next_new] at l1
 have o1 := t1.one
 have xh1 : Exd h h1 := Exd.trans exd_ x1
 have g6 : h1.get N = some (.cells [.nilSlice, .nilMap, .nilMap] true none) := x1.skip (by exact lt_) (by exact get_)
 (repeat' first | refine go ?_ | (refine hm.lenS ?_) | refine idxS_ fun _ _ _ => ?_ | refine sp (fun _ => ?_) fun _ => ?_ | fail)
 have t1' : WSl h h1 vt A := by
  rcases t1 with t1 | ⟨b, e1, e2, e3, e4⟩
  ·exact .inl t1
  ·rw [Heap.next_new] at e2
   exact .inr ⟨b, e1, by omega, e3, e4⟩
 refine loopC (fun y : Nat × List (Int × CVal) × List (Int × CVal) => [(1, vm), (2, vk), (6, .ptr N 0), (7, .ptr (N1 + 2) 0), (15, .int .i64 M.length), (16, .int .i64 y.1)]) (fun y h' => Exd h h' ∧ N1 + 3 ≤ h'.next ∧ WSl h h' vt A ∧ h'.get N = some (.cells [.nilSlice, .nilMap, .nilMap] true none) ∧ h'.get (N1 + 2) = some (.cells [vt, .map N1, .map (N1 + 1)] true none) ∧ y.1 ≤ M.length ∧ y.2.1.length = y.1 ∧ MapAt h' N1 keyI y.2.1 ∧ MapAt h' (N1 + 1) keyI y.2.2 ∧
  (∀ i : Nat, i < M.length → if i < y.1 then ∃ w, lookA (i : Int) y.2.1 = some w ∧ RIn h w (rowU M i) else lookA (i : Int) y.2.1 = none) ∧ (∀ i : Nat, i < M.length → if i < y.1 then ∃ w, lookA (i : Int) y.2.2 = some w ∧ RIn h w (rowU K i) else lookA (i : Int) y.2.2 = none)) (fun y => M.length - y.1) (0, [], []) ⟨rfl, rfl, rfl, rfl, rfl, rfl, trivial⟩ ⟨by exact exd_, by exact lt_, t1'.exd exd_, by exact get_, by exact get_, Nat.zero_le _, rfl, MapAt.new (by exact get_), MapAt.new (by exact get_), fun i hi => rfl, fun i hi => rfl⟩ ?_
 rintro ⟨j, LH, LK⟩ ρ h' ⟨xk, hn, hw, gN, g7, hj, hlen, hMH, hMK, hLH, hLK⟩
 simp only at hj hlen hMH hMK hLH hLK ⊢
 by_cases hjl : j < M.length
 rotate_left
 ·obtain rfl : j = M.length := by omega
  (repeat' first | refine go ?_ | refine idxS_ fun _ _ _ => ?_ | refine sp (fun _ => ?_) fun _ => ?_ | fail)
  have tn : ∀ b, isB vt b → b ≠ N := fun b hb e => by
   rcases t1 with ⟨rfl, _⟩ | ⟨b', e1, e2, e3, e4⟩
   ·exact isB_nil hb
   ·rw [e1, isB_slice] at hb
    rw [Heap.next_new] at e2
    omega
  refine k vt N1 (N1 + 1) LH LK _ ⟨by exact exd_, hw.frame (by rw [Heap.next_set]; exact Nat.le_refl _) fun b o hb g _ => (Heap.get_set_ne _ _ _ _ (tn b hb)).trans g, ⟨by omega, by rw [Heap.next_set]; omega⟩, ⟨by omega, by rw [Heap.next_set]; omega⟩, by omega, hMH.of_get (by exact get_), hMK.of_get (by exact get_), fun i hi => ?_, fun i hi => ?_, hlen⟩
  ·have := hLH i hi
   rw [if_pos hi] at this
   rw [if_neg (by simp)]
   exact this
  ·have := hLK i hi
   rw [if_pos hi] at this
   exact this
 have ej : (j : Int).toNat = j := Int.toNat_natCast j
 have lj := hLH j hjl
 have kj := hLK j hjl
 rw [if_neg (Nat.lt_irrefl _)] at lj kj
 (repeat' first | refine go ?_ | ((refine hk.idxS (by omega) fun b o w r4 g4 => ?_; rw [ej] at r4)) | ((refine hm.idxS (by omega) fun b o w r5 g5 => ?_; rw [ej] at r5)) | ((refine MapAt.entry KeyE.int rfl rfl hMH fun jj n LL bs c e1 e2 e3 e4 e5 e6 => ?_; subst e2)) | ((refine MapAt.entry KeyE.int rfl rfl (hMK.of_get (by exact get_)) fun jj n LL bs c e1 e2 e3 e4 e5 e6 => ?_; subst e2)) | ((refine MapAt.storeX rfl rfl (by conv => lhs; whnf) (by exact get_) (by assumption) (by assumption) (by assumption) (by assumption) (by assumption) fun s2 n2 => ?_)) | refine idxS_ fun _ _ _ => ?_ | refine sp (fun _ => ?_) fun _ => ?_ | fail)
 refine ⟨rfl, (j + 1, setA (j : Int) _ LH, setA (j : Int) _ LK), ⟨rfl, rfl, rfl, rfl, rfl, rfl, trivial⟩, ⟨by exact exd_, by simp only [Heap.next_set]; omega, hw.frame (by simp only [Heap.next_set]; omega) fun b o hb g ⟨cs, wr, opn, e⟩ => ?_, by exact get_, by exact get_, by omega, ?_, ⟨_, by exact get_, by assumption, by assumption⟩, ⟨_, by exact get_, by assumption, by assumption⟩, fun i hi => ?_, fun i hi => ?_⟩, by omega⟩
 ·obtain ⟨_, gh, _⟩ := hMH
  obtain ⟨_, gk, _⟩ := hMK
  have n1 : b ≠ N1 := by
   rintro rfl
   rw [gh, e] at g
   simp at g
  have n2 : b ≠ N1 + 1 := by
   rintro rfl
   rw [gk, e] at g
   simp at g
  rw [Heap.get_set_ne _ _ _ _ n2, Heap.get_set_ne _ _ _ _ n2, Heap.get_set_ne _ _ _ _ n1, Heap.get_set_ne _ _ _ _ n1]
  exact g
 ·show (setA _ _ LH).length = j + 1
  rw [setA_length lj, hlen]
 ·simp only [lookA_setA]
  by_cases e : i = j
  ·subst e
   rw [if_pos (Nat.lt_succ_self _)]
   exact ⟨_, if_pos rfl, by assumption⟩
  ·have := hLH i hi
   rw [if_neg (show ¬ (i : Int) = j by omega)]
   by_cases h1 : i < j
   ·rw [if_pos h1] at this
    rw [if_pos (by omega)]
    exact this
   ·rw [if_neg h1] at this
    rw [if_neg (by omega)]
    exact this
 ·simp only [lookA_setA]
  by_cases e : i = j
  ·subst e
   rw [if_pos (Nat.lt_succ_self _)]
   exact ⟨_, if_pos rfl, by assumption⟩
  ·have := hLK i hi
   rw [if_neg (show ¬ (i : Int) = j by omega)]
   by_cases h1 : i < j
   ·rw [if_pos h1] at this
    rw [if_pos (by omega)]
    exact this
   ·rw [if_neg h1] at this
    rw [if_neg (by omega)]
    exact this
theorem GSl.ints {Z : Nat → Prop} {h : Heap} {v : CVal} {R : List Int} (s : GSl Z intE h v R) : RIn h v R := by
 have := (s.sub (Z' := fun _ => False) fun _ _ f => f.elim).read fun _ _ f => f
 exact this.rin
set_option maxHeartbeats 1000000 in
theorem border_cal {va vm vk : CVal} {A : List Int} {M K : List (List Int)} {h : Heap} {Q : CVal → Heap → Prop} (ha : RIn h va A) (hm : RRows h vm M) (hk : RRows h vk K) (la : A.length ≤ 1000000000)
 (k0 : orderB A M K = none → ∀ h', Exd h h' → Q (.tuple [.nilSlice, .bool false]) h')
 (k1 : ∀ L, orderB A M K = some L → ∀ v h', Exd h h' → RIn h' v (nats L) → Q (.tuple [v, .bool true]) h') : Cal tt 58 [va, vm, vk] h Q := by
 obtain ⟨N, hN⟩ : ∃ N, h.next = N := ⟨_, rfl⟩
 refine Cal.run rfl rfl rfl rfl ?_
 cases hb : bankU A M K
 ·have kk := k0 (by rw [orderB, hb]; rfl)
  (repeat' first | refine go ?_ | ((refine CALLN.of (bmay_cal ha hm hk la fun h1 x1 => ?_); rw [hb])) | refine idxS_ fun _ _ _ => ?_ | refine sp (fun _ => ?_) fun _ => ?_ | fail)
  exact kk _ (by assumption)
 have hr : rowsU A M K = true := by rw [bankU, Bool.and_eq_true] at hb; exact hb.1
 obtain ⟨hl, h32, h6, mA, hro⟩ := rowsU_len hr
 rw [show orderB A M K = orderU M K M.length A [] by rw [orderB, hb]; rfl] at k0 k1
 (repeat' first | refine go ?_ | refine idxS_ fun _ _ _ => ?_ | refine sp (fun _ => ?_) fun _ => ?_ | fail)
 refine CALLN.of (bmay_cal ha hm hk la fun h1 x1 => ?_)
 rw [hb]
 have hm1 := hm.exd x1
 have hk1 := hk.exd x1
 (repeat' first | refine go ?_ | refine idxS_ fun _ _ _ => ?_ | refine sp (fun _ => ?_) fun _ => ?_ | fail)
 refine CALLN.of (bbegin_cal (ha.exd x1) hm1 hk1 la hl h32 fun vt mh mk LH LK h2 B => ?_)
 have o1 := B.t.one
 obtain ⟨N2, hN2⟩ : ∃ N, h2.next = N := ⟨_, rfl⟩
 (repeat' first | refine go ?_ | refine idxS_ fun _ _ _ => ?_ | refine sp (fun _ => ?_) fun _ => ?_ | fail)
 have mh2 := B.h1.2
 have mk2 := B.k1.2
 have hvt : ∀ b, isB vt b → b < N2 := fun b hb => by
  rcases B.t with ⟨rfl, _⟩ | ⟨b', e, _, h2, _⟩
  ·exact (isB_nil hb).elim
  ·rw [e, isB_slice] at hb; omega
 have l12 := B.x.le
 refine loopC (fun y : CVal × List Int × List Nat × Nat × List (Int × CVal) => [(1, vm), (2, vk), (6, y.1), (8, .ptr N2 0)]) (fun y h' => BS h1 h' mh mk vt y.2.1 y.2.2.1 M K y.2.2.2.2 LK ∧ N2 < h'.next ∧ h'.get N2 = some (.cells [vt, .map mh, .map mk] true none) ∧ GSl (fun _ => False) intE h' y.1 (nats y.2.2.1) ∧ (∀ i, isB y.1 i → N2 < i) ∧ Wide y.2.1 y.2.2.1.length ∧ y.2.1.length = A.length ∧ y.2.2.1.length + y.2.2.2.1 = M.length ∧ orderU M K y.2.2.2.1 y.2.1 y.2.2.1 = orderU M K M.length A []) (fun y => y.2.2.2.1) (.nilSlice, A, [], M.length, LH) ⟨rfl, rfl, rfl, rfl, trivial⟩ ⟨(B.exd (Exd.new (Exd.refl _))).upd (S := fun i => i = N2) (Upd.set (Upd.refl _ _) (.inl rfl)) fun i e => ⟨by omega, by omega, by omega, fun hb => by have := hvt i hb; omega⟩, by rw [Heap.next_set, Heap.next_new]; omega, by exact get_, GSl.nil, fun i hi => (isB_nil hi).elim, Wide.zero mA, rfl, Nat.zero_add _, rfl⟩ ?_
 rintro ⟨vo, W, D, n, LH'⟩ ρ h' ⟨B', nl, g8, G, hvo, wd, lw, hn, ho⟩
 simp only at B' nl g8 G hvo wd lw hn ho ⊢
 rw [← ho] at k0 k1
 have xk := x1.trans B'.x
 have rG := G.ints
 have hm' := hm.exd xk
 obtain ⟨st1, g1, s1, nd1⟩ := B'.mH
 have lm := mapE_length (f := keyI) LH'
 have bn := B'.n
 cases n with
 | zero =>
   have kk := k1 D rfl
   (repeat' first | refine go ?_ | refine idxS_ fun _ _ _ => ?_ | refine sp (fun _ => ?_) fun _ => ?_ | fail)
   exact kk _ _ xk rG
 | succ n =>
   (repeat' first | refine go ?_ | (refine hm'.lenS ?_) | refine idxS_ fun _ _ _ => ?_ | refine sp (fun _ => ?_) fun _ => ?_ | fail)
   refine loopC (fun j : Nat => [(1, vm), (2, vk), (6, vo), (8, .ptr N2 0), (24, .int .i64 M.length), (25, .int .i64 j)]) (fun j h3 => Exd h' h3 ∧ j ≤ M.length ∧ ∀ p, p < j → canU W D M K p = false) (fun j => M.length - j) 0 ⟨rfl, rfl, rfl, rfl, rfl, rfl, trivial⟩ ⟨Exd.refl _, Nat.zero_le _, fun p hp => absurd hp (Nat.not_lt_zero _)⟩ ?_
   rintro j ρ3 h3 ⟨x3, hj, hno⟩
   by_cases hjl : j < M.length
   rotate_left
   ·have kk := k0 (orderU_none (nextU_none fun p hp => hno p (by omega)))
    (repeat' first | refine go ?_ | refine idxS_ fun _ _ _ => ?_ | refine sp (fun _ => ?_) fun _ => ?_ | fail)
    exact kk _ (xk.trans x3)
   have rm := (hro j hjl).1
   have rk := (hro j hjl).2
   rw [← lw] at rm rk
   have g8' := x3.skip nl g8
   (repeat' first | refine go ?_ | refine idxS_ fun _ _ _ => ?_ | refine sp (fun _ => ?_) fun _ => ?_ | fail)
   refine CALLN.of (bcan_cal (B'.exd x3) hjl wd (by omega) (by omega) rm rk fun h4 x4 => ?_)
   cases cu : canU W D M K j
   ·(repeat' first | refine go ?_ | refine idxS_ fun _ _ _ => ?_ | refine sp (fun _ => ?_) fun _ => ?_ | fail)
    exact ⟨rfl, j + 1, ⟨rfl, rfl, rfl, rfl, rfl, rfl, trivial⟩, ⟨x3.trans x4, by omega, fun p hp => by
     rcases Nat.lt_or_ge p j with h5 | h5
     ·exact hno p h5
     ·obtain rfl : p = j := by omega
      exact cu⟩, by omega⟩
   have hs := nextU_some hjl cu hno
   rw [orderU_some hs] at ho
   have hd : D.contains j = false := by
    rw [canU, Bool.and_eq_true] at cu
    simpa using cu.1
   have x34 := x3.trans x4
   have g8'' := x34.skip nl g8
   (repeat' first | refine go ?_ | refine idxS_ fun _ _ _ => ?_ | refine sp (fun _ => ?_) fun _ => ?_ | fail)
   refine CALLN.of (bcomplete_cal (B'.exd x34) hjl hd wd (by omega) (by omega) rm fun h5 LH5 B5 u5 => ?_)
   have l34 := x34.le
   have l5 := u5.le
   have G5 : GSl (fun _ => False) intE h5 vo (nats D) := by
    obtain ⟨s1, cs, s2, s3⟩ := G.exd x34
    refine ⟨fun i hi => Nat.lt_of_lt_of_le (s1 i hi) l5, cs, s2.frame fun i hi => ?_, fun i hi => s3 i hi⟩
    have hb : isB vo i := Classical.byContradiction fun hn => hi fun o l c e => hn ⟨o, l, c, e⟩
    have := hvo i hb
    exact u5.get i (s1 i hb) fun h => h.elim (fun h => by have := hvt i h; omega) fun h => by omega
   have g85 : h5.get N2 = some (.cells [vt, .map mh, .map mk] true none) := (u5.get N2 (by omega) fun h => h.elim (fun h => by have := hvt _ h; omega) fun h => by omega).trans g8''
   obtain ⟨N5, hN5⟩ : ∃ N, h5.next = N := ⟨_, rfl⟩
   have src : srcC (h5.new (.cells [.int .i64 j] true none)) 1 (.slice N5 0 1 1) = some (1, [.int .i64 j]) := src_one (by exact get_) rfl rfl
   obtain ⟨h6, ea, u6, n6, G6⟩ := (G5.exd (Exd.new (Exd.refl _))).push1 (bytes := 8) (a := (j : Int)) src (by rw [nats_length]; omega) rfl rfl
   (repeat' first | refine go ?_ | (refine SOMEN.mk ea ?_) | refine idxS_ fun _ _ _ => ?_ | refine sp (fun _ => ?_) fun _ => ?_ | fail)
   refine ⟨rfl, (_, addU W (rowU M j), D ++ [j], n, LH5), ⟨rfl, rfl, rfl, rfl, trivial⟩, ⟨(B5.exd (Exd.new (Exd.refl _))).upd u6 fun i hi => ?_, by rw [n6, Heap.next_new]; omega, ?_, by rw [show nats (D ++ [j]) = nats D ++ [(j : Int)] by simp [nats]]; exact G6, fun i hi => ?_, ?_, (addU_len _ _).trans lw, ?_, ho⟩, Nat.lt_succ_self n⟩
   ·have := hvo i hi
    exact ⟨by omega, by omega, by omega, fun hb => by have := hvt i hb; omega⟩
   ·rw [u6.get N2 (by rw [Heap.next_new]; omega) fun hb => by have := hvo _ hb; omega]
    exact get_
   ·rw [isB_slice, Heap.next_new] at hi; omega
   ·rw [List.length_append, List.length_singleton]; exact wd.add (rowOk_iff rm).2
   ·show (D ++ [j]).length + n = M.length
    rw [List.length_append, List.length_singleton]; omega
theorem bsafe_cal {va vm vk : CVal} {A : List Int} {M K : List (List Int)} {h : Heap} {Q : CVal → Heap → Prop} (ha : RIn h va A) (hm : RRows h vm M) (hk : RRows h vk K) (la : A.length ≤ 1000000000) (k : ∀ h', Exd h h' → Q (.bool (safeU A M K)) h') : Cal tt 31 [va, vm, vk] h Q := by
 refine Cal.run rfl rfl rfl rfl ?_
 (repeat' first | refine go ?_ | refine idxS_ fun _ _ _ => ?_ | refine sp (fun _ => ?_) fun _ => ?_ | fail)
 refine CALLN.of (border_cal ha hm hk la (fun e h' x => ?_) fun L e v h' x r => ?_)
 ·rw [show safeU A M K = false by rw [safeU, e]; rfl] at k
  (repeat' first | refine go ?_ | refine idxS_ fun _ _ _ => ?_ | refine sp (fun _ => ?_) fun _ => ?_ | fail)
  exact k _ x
 ·rw [show safeU A M K = true by rw [safeU, e]; rfl] at k
  (repeat' first | refine go ?_ | refine idxS_ fun _ _ _ => ?_ | refine sp (fun _ => ?_) fun _ => ?_ | fail)
  exact k _ x
theorem safeR_cal {va vm vk : CVal} {A : List Int} {M K : List (List Int)} {h : Heap} {Q : CVal → Heap → Prop} (ha : RIn h va A) (hm : RRows h vm M) (hk : RRows h vk K) (la : A.length ≤ 1000000000) (k : ∀ h', Exd h h' → Q (.bool (safeU A M K)) h') : Cal tt 24 [va, vm, vk] h Q := by
 refine Cal.run rfl rfl rfl rfl ?_
 (repeat' first | refine go ?_ | refine idxS_ fun _ _ _ => ?_ | refine sp (fun _ => ?_) fun _ => ?_ | fail)
 refine CALLN.of (orderR_cal ha hm hk la (fun e h' x => ?_) fun L e v h' x r => ?_)
 ·rw [show safeU A M K = false by rw [safeU, e]; rfl] at k
  (repeat' first | refine go ?_ | refine idxS_ fun _ _ _ => ?_ | refine sp (fun _ => ?_) fun _ => ?_ | fail)
  exact k _ x
 ·rw [show safeU A M K = true by rw [safeU, e]; rfl] at k
  (repeat' first | refine go ?_ | refine idxS_ fun _ _ _ => ?_ | refine sp (fun _ => ?_) fun _ => ?_ | fail)
  exact k _ x
end Go.Proofs.YtncmoaggkdlkhaaGreat.Cm
