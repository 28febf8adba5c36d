/-
  The allocator's laws: maps.DeleteFunc at this program.
-/
import Derived.Test.YtlggkknkbbhooaaGreatCmAD
import Derived.Test.YtlggkknkbbhooaaGreatCmZ
namespace Go.Proofs.YtlggkknkbbhooaaGreat.Cm
open Go Go.RowKit Go.Maps Go.WideElems

set_option maxRecDepth 100000 in
set_option maxHeartbeats 1000000 in
theorem del_raw (g : Nat) (cb : Array Value) (b clock : Nat) (E : Array MapEntry) (pd : MapEntry → Bool) (w : World) (K : Keyed Tryz.prog 168) (hb : w.heap[b]? = some (.map E clock)) (F : Fit Tryz.prog 168 (fun _ => some ((.nil : DataW Unit), [])) E clock)
    (hk : ∀ x ∈ E.toList, ∃ p q : Int, x.key = .agg #[.int .i64 p, .int .i64 q]) (hv : ∀ x ∈ E.toList, ∃ n : Int, x.val = .int .i64 n)
    {kl : MapEntry → Lit} (hkey : ∀ x ∈ E.toList, keyOf Tryz.prog 168 x.key = some (kl x))
    (eg : ∀ args w, (callFunc g args).run Tryz.prog w = .ok (.enter g args) w)
    (hdel : ∀ (W : World) (x : MapEntry), x ∈ E.toList → w.grownBy W (some b) → Calls Tryz.prog g (#[x.key, x.val] ++ cb) W fun e w' => e = .returned (.bool (pd x)) ∧ W.grownBy w' none) :
    Calls Tryz.prog 135 #[.map (some b), .func (.func g) #[] cb] w fun e w' => e = .returned (.tuple #[]) ∧ ∃ E' : Array MapEntry, w'.heap[b]? = some (.map E' clock) ∧ E'.toList = E.toList.filter (fun x => !pd x) ∧ w.grownBy w' (some b) := by
  have hst := (MapKept.stamped_iff E clock).1 F.stamped
  have hblt : b < w.heap.size := (Array.getElem?_eq_some_iff.1 hb).1
  go_enter Tryz.func135, Tryz.ntmps135
  go_wp2_with (first
    | (at_range; refine wpL_range rfl _ 145 rfl Tryz.underlying145 rfl hb pd ?_; intro w0 hs0)
    | go_in)
  go_frame
  go_loopw [8] (fun _ wr => ∃ seen, Strk w b w.heap.size E clock pd seen wr) (fun _ wr => wr.rangeLeft b w.heap.size)
  case atStart => exact ⟨_, hs0⟩
  case round =>
    obtain ⟨seen, hS⟩ := hrel
    go_wp2_with (first
        | (at_next; refine wpL_next rfl _ rfl rfl hS (by omega) (Nat.le_refl _) hst.1 ?_ ?_)
        | go_in)
    · intro hall
      go_wp2
      go_end0
      exact ⟨rfl, hS.done (by simpa using hall)⟩
    · intro x w1 hC
      have hen := hC.entry (P := Tryz.prog) hst.2.1
      have hm := hC.1
      obtain ⟨p, q, ekey⟩ := hk x hm
      obtain ⟨n, eval⟩ := hv x hm
      have hc := fun W => hdel W x hm
      rw [ekey, eval] at hen hc
      rw [ekey, eval]
      have hgw : w.grownBy w1 (some b) := by obtain ⟨_, _, _, _, _, _, hg⟩ := hC; exact hg
      cases hp : pd x <;> rw [hp] at hc
      · go_wp2_with (first
          | (go_at_fn g; refine (hc _ ?_).mono ?_; rotate_left; rintro e w2 ⟨rfl, hg2⟩)
          | go_in)
        · have hC2 := (hC.kept (World.grownBy_alloc w1 _ none)).kept hg2
          have hS2 := hC2.stay hst.2.1 hp
          exact ⟨⟨_, hS2⟩, hS.less hS2 hm hC.2.1⟩
        · exact hgw.andThen (World.grownBy_alloc w1 _ none) (fun j hj => by cases hj)
      · go_wp2_with (first
          | (go_at_fn g; refine (hc _ ?_).mono ?_; rotate_left; rintro e w2 ⟨rfl, hg2⟩; have c0 := cell_kept hg2 (i := 0) rfl; have c1 := cell_kept hg2 (i := 1) rfl)
          | (at_delete; refine wpL_delete rfl _ _ 145 rfl K Tryz.underlying145 rfl ((hC.kept (World.grownBy_alloc w1 _ none)).kept hg2) (by omega) F ekey.symm (hkey x hm) hp ?_; intro w3 hS3; go_frame)
          | go_in)
        · exact ⟨⟨_, hS3⟩, hS.less hS3 hm hC.2.1⟩
        · exact hgw.andThen (World.grownBy_alloc w1 _ none) (fun j hj => by cases hj)
end Go.Proofs.YtlggkknkbbhooaaGreat.Cm
