/-
  The allocator's laws: maps.DeleteFunc and the sorted keys of a map, at this program.
-/
import Derived.Test.YtlggkknkbbhooaaGreatCmE
import Derived.Test.YtlggkknkbbhooaaGreatCmA2
import Derived.WalkKit
import Derived.Maps.RangeWalk
import Derived.Test.YtlggkknkbbhooaaGreatCmZ
namespace Go.Proofs.YtlggkknkbbhooaaGreat.Cm
open Go Go.RowKit Go.Maps Go.WideElems

theorem Come.entry {P : Program} {w0 w : World} {b r clock : Nat} {E : Array MapEntry} {pd : MapEntry → Bool} {seen : Array Nat} {e : MapEntry} (h : Come w0 b r E clock pd seen e w) (hn : (E.toList.map (·.born)).Nodup) :
    (Instr.entry (.pointer (some ⟨r, 0, none⟩))).run P w = .ok (.tuple #[e.key, e.val]) w := by
  obtain ⟨hm, hs, E', hb, hE, hr, hg⟩ := h
  refine run_entry_at (P := P) w r b clock seen E' clock e hr hb ?_ ?_
  · rw [hE]; exact List.mem_filter.2 ⟨hm, by rw [hs]; rfl⟩
  · rw [hE]; exact (List.filter_sublist.map _).nodup hn

theorem Strk.less {w0 w w' : World} {b r clock : Nat} {E : Array MapEntry} {pd : MapEntry → Bool} {seen : Array Nat} {x : MapEntry} (h : Strk w0 b r E clock pd seen w) (h' : Strk w0 b r E clock pd (seen.push x.born) w') (hm : x ∈ E.toList) (hs : seen.contains x.born = false) :
    w'.rangeLeft b r < w.rangeLeft b r := by
  rw [h.left, h'.left]
  have e1 : (E.toList.filter fun e => !(seen.push x.born).contains e.born) = (E.toList.filter fun e => !seen.contains e.born).filter fun e => !(e.born == x.born) := by
    rw [List.filter_filter]
    refine List.filter_congr fun e _ => ?_
    rw [contains_push]
    cases seen.contains e.born <;> cases e.born == x.born <;> rfl
  rw [e1]
  exact List.length_filter_lt_length_iff_exists.2 ⟨x, List.mem_filter.2 ⟨hm, by rw [hs]; rfl⟩, by simp⟩

theorem cell_kept {w1 w2 : World} {cs : Array Value} {ty : TypeId} (hg : (w1.alloc (.cells cs ty)).grownBy w2 none) {i : Nat} {v : Value} (h : cs[i]? = some v) : w2.cell? ⟨w1.heap.size, i, none⟩ = some v := by
  have h1 : w2.heap[w1.heap.size]? = some (.cells cs ty (0, 0)) := by
    rw [hg.block w1.heap.size (by simp) (by simp)]
    exact (MapKept.heap_alloc w1 _).1
  simp [World.cell?, h1, h]

section
variable {P : Program} {ops : Array Oper} {rest : List Oper} {o : Oper} {a : Act} {Q : Exit → Act → World → Prop} {w w0 : World} {b r clock : Nat} {E : Array MapEntry} {pd : MapEntry → Bool} {seen : Array Nat} {k e : TypeId}

theorem wpL_range (hg : o.guard = none) (m : Operand) (t : TypeId) (hop : o.op = Op.range t m) (ht : P.underlying t = some (.map k e)) (hm : a.eval m = .map (some b)) (hb : w.heap[b]? = some (.map E clock)) (pd : MapEntry → Bool)
    (hK : ∀ w', Strk w b w.heap.size E clock pd #[] w' → wpList P ops Q rest (a.put o.dst (.pointer (some ⟨w.heap.size, 0, none⟩))) w') : wpList P ops Q (o :: rest) a w := by
  refine wpList_plain hg fun K' hK' => ?_
  obtain ⟨w', hrun, r1⟩ := Strk.start (pd := pd) ht hb
  unfold Oper.wp
  simp [execOp, hop, hm, hrun, Result.andThen]
  exact hK' _ _ (hK w' r1)
theorem wpL_next (hg : o.guard = none) (it : Operand) (hop : o.op = Op.next it false) (hit : a.eval it = .pointer (some ⟨r, 0, none⟩)) (h : Strk w0 b r E clock pd seen w) (hrb : r ≠ b) (hr0 : w0.heap.size ≤ r) (hold : ∀ x ∈ E.toList, x.born < clock)
    (hDone : (∀ x ∈ E.toList, seen.contains x.born = true) → wpList P ops Q rest (a.put o.dst (.tuple #[.bool false])) w)
    (hMore : ∀ (x : MapEntry) (w' : World), Come w0 b r E clock pd seen x w' → wpList P ops Q rest (a.put o.dst (.tuple #[.bool true, x.key, x.val])) w') : wpList P ops Q (o :: rest) a w := by
  refine wpList_plain hg fun K' hK' => ?_
  unfold Oper.wp
  rcases h.next (P := P) hrb hr0 hold o.type with ⟨hall, hrun⟩ | ⟨x, w', hrun, hc⟩
  · simp [execOp, hop, hit, hrun, Result.andThen]
    exact hK' _ _ (hDone hall)
  · simp [execOp, hop, hit, hrun, Result.andThen]
    exact hK' _ _ (hMore x w' hc)
theorem wpL_delete {H : Type} {R : Value → Option (DataW H × List MemPlace)} {kl : Lit} {x : MapEntry} (hg : o.guard = none) (m y : Operand) (t : TypeId) (hop : o.op = Op.call { callee := Callee.builtin Builtin.delete, args := #[m, y], argTypes := #[t, k] })
    (K : Keyed P k) (ht : P.underlying t = some (.map k e)) (hm : a.eval m = .map (some b)) (h : Come w0 b r E clock pd seen x w) (hrb : r ≠ b) (F : Fit P k R E clock) (hy : a.eval y = x.key) (hkey : keyOf P k x.key = some kl) (hp : pd x = true)
    (hK : ∀ w', Strk w0 b r E clock pd (seen.push x.born) w' → wpList P ops Q rest (a.put o.dst (.tuple #[])) w') : wpList P ops Q (o :: rest) a w := by
  refine wpList_plain hg fun K' hK' => ?_
  obtain ⟨w', hrun, r1⟩ := h.drop hrb K ht F hkey hp o.type
  unfold Oper.wp
  simp [execOp, hop, resolve, invoke, builtin, hm, hy, hrun, Result.andThen]
  exact hK' _ _ (hK w' r1)
end
end Go.Proofs.YtlggkknkbbhooaaGreat.Cm
