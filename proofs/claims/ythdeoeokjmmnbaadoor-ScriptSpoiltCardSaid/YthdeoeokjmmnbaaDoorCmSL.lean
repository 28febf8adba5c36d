/-
  Jobs as texts: two jobs that are the same.
-/
import Derived.Test.YthdeoeokjmmnbaaDoorCmSK
import Derived.Test.YthdeoeokjmmnbaaDoorCmZ
namespace Go.Proofs.YthdeoeokjmmnbaaDoor.Cm
open Go.RowKit Go.IntWalk
attribute [local irreducible] Heap.set Heap.new Heap.kill Heap.get Heap.room Cal WP

theorem OPN.eqS3 {N : Nat} {ρ : Env} {h : Heap} {X Y : CX} {a b c : Int} {K : CVal → Heap → Prop} (hx : X.on N ρ = .agg [.int .i64 a, .int .i64 b, .int .i64 c]) (hy : Y.on N ρ = .agg [.int .i64 a, .int .i64 b, .int .i64 c]) (k : K (.bool true) h) : OPN N (.eqS [.int, .int, .int] false X Y) ρ h K := by
  refine .mk (v := .bool true) (h' := h) ?_ k
  simp [cop, CX.on_ev, hx, hy, peqs, peq]

set_option maxHeartbeats 4000000 in
theorem jobs_cal {j : Job} {va vb wa wb : CVal} {h : Heap} {Q : CVal → Heap → Prop} (ha : RIn h va j.ins) (hb : RIn h vb j.pk) (ka : RIn h wa j.ins) (kb : RIn h wb j.pk) (li : j.ins.length ≤ 200000) (lp : j.pk.length ≤ 200000)
    (k : ∀ h', Exd h h' → Q (.bool true) h') : Cal tt 10 [.agg (j.cs va vb), .agg (j.cs wa wb)] h Q := by
  obtain ⟨cl, p, st, so, I, L⟩ := j
  show Cal tt 10 [.agg [.bool cl, .int .i64 p, .int .i64 st, .int .i64 so, va, vb], .agg [.bool cl, .int .i64 p, .int .i64 st, .int .i64 so, wa, wb]] h Q
  change RIn h va I at ha
  change RIn h vb L at hb
  change RIn h wa I at ka
  change RIn h wb L at kb
  simp only at li lp
  have xx : ∀ {a b : CObj}, Exd h ((h.new a).new b) := Exd.new (Exd.new (Exd.refl _))
  rcases ha.head with ⟨rfl, e1⟩ | ⟨_, _, _, _, rfl⟩ <;> rcases hb.head with ⟨rfl, e2⟩ | ⟨_, _, _, _, rfl⟩ <;> rcases ka.head with ⟨rfl, e3⟩ | ⟨_, _, _, _, rfl⟩ <;> rcases kb.head with ⟨rfl, e4⟩ | ⟨_, _, _, _, rfl⟩ <;> cases cl
  all_goals
  refine Cal.run rfl rfl rfl rfl ?_
  (repeat' ((conv => whnf); (first | (refine OPN.eqS3 rfl rfl ?_) | ((refine Za (ints_cal (A := I) (ha.exd xx) (ka.exd xx) (by omega) ?_))) | ((refine Za (ints_cal (A := L) (hb.exd xx) (kb.exd xx) (by omega) ?_))) | (refine ZA (by omega) ?_) | (refine ZB (by omega) ?_) | (refine ZC (fun _ => ?_) fun _ => ?_) | (refine ZD (by omega) ?_) | (refine ZE (by omega) ?_) | (refine ZF (fun _ => ?_) fun _ => ?_) | (refine ZG (by first | rfl | assumption) ?_) | (refine ZH (by first | decide | assumption) ?_) | (refine ZI (fun _ => ?_) fun _ => ?_) | (refine ZJ (by omega) ?_) | (refine ZK (by first | (apply u8_in; omega) | (apply i32_in; omega) | (apply u32_in; omega)) ?_) | (refine ZL (by omega) ?_) | (refine ZM (by omega) ?_) | (refine ZN (by omega) ?_) | ((first | (show GETN _ _ _; apply ZO) | (show GETM _ _ _; apply ZP) | (show SETN _ _ _ _ _ _; apply ZQ) | (show LOOKN _ _ _ _ _ _; apply ZR (QV.load rfl ?g ?hl)) | (show LOOKN _ _ _ _ _ _; apply ZR (QV.loadA rfl ?g ?hl ?ho))); (case g => ((repeat first | refine Z5 ?_ | refine Z6 (by omega) ?_ | refine Z7 (by ((repeat first | apply Z1 | apply Z2 | apply Z3 | apply Z4); first | assumption | rfl)) (by omega) ?_ | refine Z8 (by assumption) (by omega) ?_); first | assumption | exact Z9 (by omega) | exact Z0 (by ((repeat first | apply Z1 | apply Z2 | apply Z3 | apply Z4); first | assumption | rfl)) (by omega))); (try (case hl => rfl)); (try (case ho => first | rfl | (first | decide | (simp; done) | (simp; omega) | exact Nat.le_of_ble_eq_true rfl)))) | (show NEWN _ _; refine ZS (by ((repeat first | apply Z1 | apply Z2 | apply Z3 | apply Z4); first | assumption | rfl)) ?_) | (show DOESN _ _; refine ZT (by first | rfl | omega | (simp; done) | (simp; omega)) ?_) | (refine ZU (by assumption) ?_) | (refine ZV (by assumption) ?_) | (refine ZW (fun _ => ?_) fun _ => ?_) | (refine ZX (by rfl) ?_) | (refine scopeC ?_) | (refine ZZ rfl ?_) | (refine Zz rfl ?_) | (show NUMN _ _; refine ZY (by ((repeat first | apply Z1 | apply Z2 | apply Z3 | apply Z4); first | assumption | rfl)) ?_) | fail)))
  refine k _ ?_
  exact xx
end Go.Proofs.YthdeoeokjmmnbaaDoor.Cm
