/-
  The laws of kernels: slices.Grow at this program.
-/
import Derived.Test.YtlggkknkbbhooaaGreatCmAF
import Derived.Test.YtlggkknkbbhooaaGreatCmE
import Derived.Test.YtlggkknkbbhooaaGreatCmZ
namespace Go.Proofs.YtlggkknkbbhooaaGreat.Cm
open Go Go.RowKit Go.Shelf Go.Lib

theorem info3 : ∃ i0 : TypeInfo, Tryz.prog.info? 3 = some i0 ∧ i0.zero = some (.int .i64 0) ∧ i0.size = 1 ∧ i0.bytes = 8 := by
  have h : (Tryz.prog.info? 3).map (fun i => (i.zero, i.size, i.bytes)) = some (some (.int .i64 0), 1, 8) := by kernel_rfl
  cases hi : Tryz.prog.info? 3 with
  | none => rw [hi] at h; simp at h
  | some i =>
    rw [hi] at h
    simp only [Option.map_some, Option.some.injEq, Prod.mk.injEq] at h
    exact ⟨i, rfl, h.1, h.2.1, h.2.2⟩

theorem growK : PrimOk prog glb 153 growP := by
  obtain ⟨i0, hi, hz, hs, hb⟩ := info3
  refine grow_ok (T := 3) ⟨_, Tryz.func153, by kernel_rfl, by kernel_rfl⟩ (fun w => ?_) fun n w hn hl => ?_
  · exact Any8.slices_Grow_room Tryz.growA none 0 0 0 w (Nat.le_refl _) (by omega) (by omega) (by omega)
  · refine (Any8.slices_Grow_grow Tryz.growA i0 (.int .i64 0) hi hz (by omega) none 0 0 n [] w (Nat.le_refl _) (by omega) (by rw [hb]; omega) (by omega) (by simp) (fun _ => rfl) (fun a e => by simp at e)).mono ?_
    rintro e w' ⟨rfl, rfl⟩
    refine ⟨_, _, ?_, rfl, w.drawn + 1, rfl⟩
    have hg := grownCap_ge w (0 + n) 0 (Tryz.growA_ren.t 25)
    simp [Builtin.zeroCells, Value.cells] at hg ⊢
    omega

def tg : Tab := tl.with 153 growP
theorem tg_ok : TabOk prog glb tg := tl_ok.with growK
end Go.Proofs.YtlggkknkbbhooaaGreat.Cm
