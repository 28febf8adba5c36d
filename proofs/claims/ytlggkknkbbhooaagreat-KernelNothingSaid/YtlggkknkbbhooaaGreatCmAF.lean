/-
  The allocator's laws: the library's primitives at this program.
-/
import Derived.Test.YtlggkknkbbhooaaGreatCmAE
import Derived.Test.YtlggkknkbbhooaaGreatShelf
import Derived.DeepKeys4
import Derived.Test.YtlggkknkbbhooaaGreatCmZ
namespace Go.Proofs.YtlggkknkbbhooaaGreat.Cm
open Go Go.RowKit Go.Maps Go.WideElems Go.Sort Go.Shelf

theorem keysK : PrimOk prog glb 146 (keysP 175) := keys_ok ⟨_, Tryz.func146, by kernel_rfl, by kernel_rfl⟩ (T := 146) fun b w =>
  callsIn_wide.1 (AnyZI.keys_in Tryz.keysA Fence.wide 5 trivial rfl (some b) w)

theorem sortsK (m : Nat) : AnyZI.SortsIn Tryz.prog Tryz.sortedA_ren Fence.wide m :=
  ⟨fun blk off cap ss W hH hblk hsz => callsIn_wide.2 (AnyM.slices_Sort_int Tryz.sortA blk off cap ss W hH hblk hsz),
   fun p cap W => callsIn_wide.2 (AnyM.slices_Sort_int_none Tryz.sortA p cap W)⟩

theorem sortedK : PrimOk prog glb 145 (sortedP 175) := sorted_ok ⟨_, Tryz.func145, by kernel_rfl, by kernel_rfl⟩ (T := 3) fun A b clock E ks w hA hb keys hr nd bn bc hs => by
  obtain ⟨D, hown, hp, hsz⟩ := ownsMap_ints (k := 3) Tryz.underlying3 hb keys hr nd bn bc hs
  have hAlt : A < w.heap.size := by
    unfold World.cell? at hA
    split at hA
    · next hb => exact (Array.getElem?_eq_some_iff.1 hb).1
    · simp at hA
  have hseq : SeqGives Fence.wide 2 Tryz.prog 175 #[.pointer (some ⟨A, 0, none⟩)] encZ (fun ss => ss.Perm (intKeys D)) (Maps.size D) w :=
    AnyZI.keys_gives (ρ := Tryz.keysA_ren) { Tryz.keysA with } Fence.wide _ trivial rfl (by omega) A b E.size D _ hAlt hA hown
  have mx : Maps.size D ≤ maxLen := by have : (1000000 : Nat) ≤ maxLen := by decide
                                       omega
  have cS := AnyZI.sorted_in Tryz.sortedA Fence.wide 5 trivial trivial trivial trivial rfl (by omega) (sortsK _) (enters_of Tryz.func174 (by kernel_rfl) rfl) 175 #[.pointer (some ⟨A, 0, none⟩)] trivial (enters_of Tryz.func175 (by kernel_rfl) rfl) _ _ mx (by omega) _ hseq
  refine (callsIn_wide.1 cS).mono ?_
  rintro e w' ⟨v, ss, rfl, hS, hrow, hnil, hbl⟩
  have hpk := hS.trans hp
  rw [isort_merge hpk, hpk.length_eq] at hrow
  exact ⟨v, rfl, hrow, hnil.trans ⟨fun e => by subst e; exact List.nil_perm.1 hpk, fun e => by subst e; exact List.perm_nil.1 hpk⟩, hbl⟩

theorem laidOutK : laidOutB Tryz.prog = true := by kernel_rfl
theorem holdKeyed : Keyed Tryz.prog 168 := Keyed.of_law (deep_law_laid laidOutK (m := 2) (by omega) (of_decide_eq_true (by kernel_rfl)) (by kernel_rfl) (by kernel_rfl))
theorem wf_i64 {n : Int} (h : -9223372036854775808 ≤ n ∧ n ≤ 9223372036854775807) : (Lit.int .i64 n).wf = true := by
  show (decide (IntKind.i64.min ≤ n) && decide (n ≤ IntKind.i64.max)) = true
  have e1 : IntKind.i64.min = -9223372036854775808 := by decide
  have e2 : IntKind.i64.max = 9223372036854775807 := by decide
  rw [Bool.and_eq_true, decide_eq_true_eq, decide_eq_true_eq]
  omega
theorem keyLits_i64 {d : Nat} {n : Int} (h : (Lit.int .i64 n).wf = true) : Tryz.prog.keyLits (d + 1) 3 [.int .i64 n] = some [.int .i64 n] := by
  unfold Program.keyLits
  rw [Tryz.underlying3]
  simp [h]
theorem sizeK : ∃ m, Tryz.prog.types.size = m + 1 := ⟨_, (by kernel_rfl : Tryz.prog.types.size = (Tryz.prog.types.size - 1) + 1)⟩
theorem holdKey {p q : Int} (hp : (Lit.int .i64 p).wf = true) (hq : (Lit.int .i64 q).wf = true) : ∃ kl, keyOf Tryz.prog 168 (.agg #[.int .i64 p, .int .i64 q]) = some kl := by
  obtain ⟨m, hm⟩ := sizeK
  have hk : Tryz.prog.keyType 168 = true := by kernel_rfl
  have hc : Tryz.prog.cellsOf 168 = 2 := by kernel_rfl
  have hi : Tryz.prog.cellsOf 3 = 1 := by kernel_rfl
  have hf : (Value.agg #[.int .i64 p, .int .i64 q]).formed Tryz.prog 168 = true := by
    simp [Value.formed, Tryz.underlying168, hc]
  have hl : Tryz.prog.keyLits (Tryz.prog.types.size + 1) 168 [.int .i64 p, .int .i64 q] = some [.int .i64 p, .int .i64 q] := by
    rw [hm]
    unfold Program.keyLits
    rw [Tryz.underlying168]
    simp [hc, hi, keyLits_i64 hp, keyLits_i64 hq]
  refine ⟨.string (keyBytes [.int .i64 p, .int .i64 q]), ?_⟩
  unfold keyOf
  rw [Tryz.underlying168]
  simp only [hk, hf, Bool.and_self, if_true]
  rw [show (Value.agg #[.int .i64 p, .int .i64 q]).cells.toList = [.int .i64 p, .int .i64 q] from rfl, hl]
  rfl

set_option maxHeartbeats 400000 in
/-- The closure of Leave: is the key's process that one? -/
theorem leaveC_raw (p q n pid : Int) (bx o : Nat) (W : World) (hx : W.cell? ⟨bx, o, none⟩ = some (.int .i64 pid)) :
    Calls Tryz.prog 136 (#[.agg #[.int .i64 p, .int .i64 q], .int .i64 n] ++ #[.pointer (some ⟨bx, o, none⟩)]) W fun e w' => e = .returned (.bool (p == pid)) ∧ W.grownBy w' none := by
  have hlt : bx < W.heap.size := by
    unfold World.cell? at hx
    split at hx
    · next hb => exact (Array.getElem?_eq_some_iff.1 hb).1
    · simp at hx
  have hx2 : ∀ ob, (W.alloc ob).cell? ⟨bx, o, none⟩ = some (.int .i64 pid) := fun ob => (World.cell?_of_block (a := ⟨bx, o, none⟩) ((MapKept.heap_alloc W ob).2 bx hlt)).trans hx
  go_enter Tryz.func136, Tryz.ntmps136
  go_wp2
  go_ret
  exact ⟨rfl, World.grownBy_alloc W _ none⟩

theorem delK : PrimOk prog glb 135 (delP 136) := del_ok ⟨_, Tryz.func135, by kernel_rfl, by kernel_rfl⟩ fun b clock bx o pid E ks w hb hpe hr hnd bn bc hs hx hne => by
  obtain ⟨hkeys, hmem⟩ := hpe.get
  have hkey : ∀ x ∈ E.toList, ∃ kl, keyOf Tryz.prog 168 x.key = some kl := fun x hx => by
    obtain ⟨k, hk, e, _⟩ := hmem x hx
    rw [e]
    exact holdKey (wf_i64 (hr k hk).1) (wf_i64 (hr k hk).2)
  have hmax : (1000000 : Nat) ≤ maxLen := by decide
  have hbl : bx < w.heap.size := by
    unfold World.cell? at hx
    split at hx
    · next hb => exact (Array.getElem?_eq_some_iff.1 hb).1
    · simp at hx
  refine del_raw 136 #[.pointer (some ⟨bx, o, none⟩)] b clock E (pdPid pid) w holdKeyed hb ⟨by omega, ⟨bc, bn, ?_⟩, fun x hx => ?_⟩ (fun x hx => ?_) (fun x hx => ?_) (kl := fun x => (keyOf Tryz.prog 168 x.key).getD (.bool false)) (fun x hx => ?_) (enters_of Tryz.func136 (by kernel_rfl) rfl) (fun W x hxm hgr => ?_)
  · rw [hkeys]
    exact List.Pairwise.map _ (fun a b h e => h (by simpa [Prod.ext_iff] using e)) hnd
  · obtain ⟨kl, e⟩ := hkey x hx
    exact ⟨(kl, .nil), by simp only [WideElems.rd, e, Option.bind_some, Option.map_some]⟩
  · obtain ⟨k, hk, e, _⟩ := hmem x hx
    exact ⟨_, _, e⟩
  · obtain ⟨k, hk, _, n, e⟩ := hmem x hx
    exact ⟨n, e⟩
  · obtain ⟨kl, e⟩ := hkey x hx
    rw [e]; rfl
  · obtain ⟨k, hk, e1, n, e2⟩ := hmem x hxm
    have hx' : W.cell? ⟨bx, o, none⟩ = some (.int .i64 pid) := (World.cell?_of_block (a := ⟨bx, o, none⟩) (hgr.block bx hbl (fun e => hne (by simpa using e)))).trans hx
    have ep : pdPid pid x = (k.1 == pid) := by unfold pdPid; rw [e1]; rfl
    rw [e1, e2, ep]
    exact leaveC_raw k.1 k.2 n pid bx o W hx'

def tl : Tab := ((tab0.with 146 (keysP 175)).with 145 (sortedP 175)).with 135 (delP 136)
theorem tl_ok : TabOk prog glb tl := ((tabOk.with keysK).with sortedK).with delK
end Go.Proofs.YtlggkknkbbhooaaGreat.Cm
