/-
  Jobs as texts: the law's walk, a job's text that is spoilt.
-/
import Derived.Test.YthdeoeokjmmnbaaDoorCmSQ
import Derived.Test.YthdeoeokjmmnbaaDoorCmZ
namespace Go.Proofs.YthdeoeokjmmnbaaDoor.Cm
open Go.RowKit Go.IntWalk
attribute [local irreducible] Heap.set Heap.new Heap.kill Heap.get Heap.room Cal WP

def J64 (j : Job) : Prop := I64 j.lim ∧ I64 j.ins ∧ I64 j.pk
theorem stepJ_64 {n : Nat} {s : List UInt8} {j : Job} (h : J64 j) : J64 (stepJ n s j).2 := by
  have b := numsB_64 s
  obtain ⟨h1, h2, h3⟩ := h
  unfold stepJ
  split
  · exact ⟨h1, h2, h3⟩
  · split
    · split
      · next x y z e => rw [e] at b; exact ⟨b, h2, h3⟩
      · exact ⟨h1, h2, h3⟩
    · split
      · exact ⟨h1, b, h3⟩
      · split
        · exact ⟨h1, h2, b⟩
        · exact ⟨h1, h2, h3⟩
theorem readL_64 : ∀ {ls : List (List UInt8)} {n : Nat} {j : Job}, J64 j → J64 (readL n j ls).2.2
  | [], _, _, h => h
  | l :: ls, n, j, h => by
    rw [readL]
    have := stepJ_64 (n := n + 1) (s := l) h
    generalize stepJ (n + 1) l j = r at this
    obtain ⟨r1, r2⟩ := r
    cases r1
    · exact this
    · exact readL_64 this
theorem job0_64 : J64 job0 := ⟨fun n hn => by simp [job0, Job.lim] at hn; omega, fun n hn => by simp [job0] at hn, fun n hn => by simp [job0] at hn⟩
theorem read_64 {s : List UInt8} {j : Job} {a c : Int} (h : readS s = (j, a, c)) : J64 j := by
  rw [readS_fin] at h
  have := readL_64 (ls := linesOf s) (n := 0) job0_64
  generalize readL 0 job0 (linesOf s) = r at h this
  obtain ⟨b, m, j0⟩ := r
  cases b with
  | false => simp only [finL, Prod.mk.injEq] at h; rw [← h.1]; exact job0_64
  | true =>
    simp only [finL] at h
    split at h
    · simp only [Prod.mk.injEq] at h; rw [← h.1]; exact job0_64
    · simp only [Prod.mk.injEq] at h; rw [← h.1]; exact this

def tail5 : CCode := match c5.code with
  | .seq _ (.seq _ (.seq _ (.seq _ (.seq _ (.seq _ (.seq _ t)))))) => t
  | _ => .skip

set_option maxHeartbeats 8000000 in
theorem tail_cal {U : List UInt8} {ρ₀ : Env} {h : Heap} (lU : U.length ≤ 99990) : wC tt 98 tail5 (ρ₀.putO (some 11) (.str U)) [] h (endE tt 98 [CRV.tmp 8] fun v _ => v = .bool true) := by
  (repeat' ((conv => whnf); (first | (refine ZA (by omega) ?_) | (refine ZB (by omega) ?_) | (refine ZC (fun _ => ?_) fun _ => ?_) | (refine ZD (by omega) ?_) | (refine ZE (by omega) ?_) | (refine ZF (fun _ => ?_) fun _ => ?_) | (refine ZG (by first | rfl | assumption) ?_) | (refine ZH (by first | decide | assumption) ?_) | (refine ZI (fun _ => ?_) fun _ => ?_) | (refine ZJ (by omega) ?_) | (refine ZK (by first | (apply u8_in; omega) | (apply i32_in; omega) | (apply u32_in; omega)) ?_) | (refine ZL (by omega) ?_) | (refine ZM (by omega) ?_) | (refine ZN (by omega) ?_) | ((first | (show GETN _ _ _; apply ZO) | (show GETM _ _ _; apply ZP) | (show SETN _ _ _ _ _ _; apply ZQ) | (show LOOKN _ _ _ _ _ _; apply ZR (QV.load rfl ?g ?hl)) | (show LOOKN _ _ _ _ _ _; apply ZR (QV.loadA rfl ?g ?hl ?ho))); (case g => ((repeat first | refine Z5 ?_ | refine Z6 (by omega) ?_ | refine Z7 (by ((repeat first | apply Z1 | apply Z2 | apply Z3 | apply Z4); first | assumption | rfl)) (by omega) ?_ | refine Z8 (by assumption) (by omega) ?_); first | assumption | exact Z9 (by omega) | exact Z0 (by ((repeat first | apply Z1 | apply Z2 | apply Z3 | apply Z4); first | assumption | rfl)) (by omega))); (try (case hl => rfl)); (try (case ho => first | rfl | (first | decide | (simp; done) | (simp; omega) | exact Nat.le_of_ble_eq_true rfl)))) | (show NEWN _ _; refine ZS (by ((repeat first | apply Z1 | apply Z2 | apply Z3 | apply Z4); first | assumption | rfl)) ?_) | (show DOESN _ _; refine ZT (by first | rfl | omega | (simp; done) | (simp; omega)) ?_) | (refine ZU (by assumption) ?_) | (refine ZV (by assumption) ?_) | (refine ZW (fun _ => ?_) fun _ => ?_) | (refine ZX (by rfl) ?_) | (refine scopeC ?_) | (refine ZZ rfl ?_) | (refine Zz rfl ?_) | (show NUMN _ _; refine ZY (by ((repeat first | apply Z1 | apply Z2 | apply Z3 | apply Z4); first | assumption | rfl)) ?_) | fail)))
  refine Za (read_cal lU fun j a c vi vp h1 e1 x1 r1 r2 => ?_)
  have lj := read_len e1
  have j6 := read_64 e1
  obtain ⟨ui, hui⟩ : ∃ x, x = vi := ⟨_, rfl⟩
  obtain ⟨up, hup⟩ : ∃ x, x = vp := ⟨_, rfl⟩
  rcases r1.head with ⟨rfl, _⟩ | ⟨_, _, _, _, rfl⟩ <;> rcases r2.head with ⟨rfl, _⟩ | ⟨_, _, _, _, rfl⟩
  all_goals
  obtain ⟨N, hN⟩ : ∃ N, h1.next = N := ⟨_, rfl⟩
  (repeat' ((conv => whnf); (first | (refine ZA (by omega) ?_) | (refine ZB (by omega) ?_) | (refine ZC (fun _ => ?_) fun _ => ?_) | (refine ZD (by omega) ?_) | (refine ZE (by omega) ?_) | (refine ZF (fun _ => ?_) fun _ => ?_) | (refine ZG (by first | rfl | assumption) ?_) | (refine ZH (by first | decide | assumption) ?_) | (refine ZI (fun _ => ?_) fun _ => ?_) | (refine ZJ (by omega) ?_) | (refine ZK (by first | (apply u8_in; omega) | (apply i32_in; omega) | (apply u32_in; omega)) ?_) | (refine ZL (by omega) ?_) | (refine ZM (by omega) ?_) | (refine ZN (by omega) ?_) | ((first | (show GETN _ _ _; apply ZO) | (show GETM _ _ _; apply ZP) | (show SETN _ _ _ _ _ _; apply ZQ) | (show LOOKN _ _ _ _ _ _; apply ZR (QV.load rfl ?g ?hl)) | (show LOOKN _ _ _ _ _ _; apply ZR (QV.loadA rfl ?g ?hl ?ho))); (case g => ((repeat first | refine Z5 ?_ | refine Z6 (by omega) ?_ | refine Z7 (by ((repeat first | apply Z1 | apply Z2 | apply Z3 | apply Z4); first | assumption | rfl)) (by omega) ?_ | refine Z8 (by assumption) (by omega) ?_); first | assumption | exact Z9 (by omega) | exact Z0 (by ((repeat first | apply Z1 | apply Z2 | apply Z3 | apply Z4); first | assumption | rfl)) (by omega))); (try (case hl => rfl)); (try (case ho => first | rfl | (first | decide | (simp; done) | (simp; omega) | exact Nat.le_of_ble_eq_true rfl)))) | (show NEWN _ _; refine ZS (by ((repeat first | apply Z1 | apply Z2 | apply Z3 | apply Z4); first | assumption | rfl)) ?_) | (show DOESN _ _; refine ZT (by first | rfl | omega | (simp; done) | (simp; omega)) ?_) | (refine ZU (by assumption) ?_) | (refine ZV (by assumption) ?_) | (refine ZW (fun _ => ?_) fun _ => ?_) | (refine ZX (by rfl) ?_) | (refine scopeC ?_) | (refine ZZ rfl ?_) | (refine Zz rfl ?_) | (show NUMN _ _; refine ZY (by ((repeat first | apply Z1 | apply Z2 | apply Z3 | apply Z4); first | assumption | rfl)) ?_) | fail)))
  generalize hh : Heap.set (Heap.new h1 _) _ _ = hm
  have nm : hm.next = N + 1 := by rw [← hh]; ((repeat first | apply Z1 | apply Z2 | apply Z3 | apply Z4); first | assumption | rfl)
  have gm : hm.get N = some (.cells (j.cs ui up) true none) := by rw [← hh, hui, hup]; exact Z9 rfl
  have xm : Exd h1 hm := by rw [← hh]; (repeat' first | exact Exd.refl _ | assumption | refine Exd.new ?_ | refine Exd.set ?_ (by omega) | refine Exd.kill ?_ (by omega))
  clear hh
  subst hui hup
  rw [Job.cs] at gm
  have r1 := r1.exd xm
  have r2 := r2.exd xm
  refine Za (readR_cal lU fun j' a' c' wi wp h2 e2 x2 q1 q2 => ?_)
  have ee := e1.symm.trans ((read_alike U).trans e2)
  simp only [Prod.mk.injEq] at ee
  obtain ⟨rfl, rfl, rfl⟩ := ee
  have gm2 := Z8 x2 (by omega) gm
  have l2 := x2.le
  have r1 := r1.exd x2
  have r2 := r2.exd x2
  rcases q1.head with ⟨rfl, _⟩ | ⟨_, _, _, _, rfl⟩ <;> rcases q2.head with ⟨rfl, _⟩ | ⟨_, _, _, _, rfl⟩
  all_goals
  by_cases c0 : c = 0
  · subst c0
    have tu := text_read e1
    (repeat' ((conv => whnf); (first | (refine ZD rfl ?_) | ((refine Za (jobs_cal (j := j) (r1.exd (by (repeat' first | exact Exd.refl _ | assumption | refine Exd.new ?_ | refine Exd.set ?_ (by omega) | refine Exd.kill ?_ (by omega)))) (r2.exd (by (repeat' first | exact Exd.refl _ | assumption | refine Exd.new ?_ | refine Exd.set ?_ (by omega) | refine Exd.kill ?_ (by omega)))) (q1.exd (by (repeat' first | exact Exd.refl _ | assumption | refine Exd.new ?_ | refine Exd.set ?_ (by omega) | refine Exd.kill ?_ (by omega)))) (q2.exd (by (repeat' first | exact Exd.refl _ | assumption | refine Exd.new ?_ | refine Exd.set ?_ (by omega) | refine Exd.kill ?_ (by omega)))) (by omega) (by omega) fun h3 x3 => ?_); have x23 := Exd.trans (Exd.set (Exd.new (Exd.refl _)) (Nat.le_refl _)) x3; have gm3 := Z8 x23 (by omega) gm2)) | ((refine Za (text_cal (j := j) (r1.exd x23) (r2.exd x23) ⟨j6.1, j6.2.1, j6.2.2, by omega, by omega⟩ fun h4 x4 => ?_))) | (refine ZG tu ?_) | (refine Za (awake_cal ?_)) | (refine ZA (by omega) ?_) | (refine ZB (by omega) ?_) | (refine ZC (fun _ => ?_) fun _ => ?_) | (refine ZD (by omega) ?_) | (refine ZE (by omega) ?_) | (refine ZF (fun _ => ?_) fun _ => ?_) | (refine ZG (by first | rfl | assumption) ?_) | (refine ZH (by first | decide | assumption) ?_) | (refine ZI (fun _ => ?_) fun _ => ?_) | (refine ZJ (by omega) ?_) | (refine ZK (by first | (apply u8_in; omega) | (apply i32_in; omega) | (apply u32_in; omega)) ?_) | (refine ZL (by omega) ?_) | (refine ZM (by omega) ?_) | (refine ZN (by omega) ?_) | ((first | (show GETN _ _ _; apply ZO) | (show GETM _ _ _; apply ZP) | (show SETN _ _ _ _ _ _; apply ZQ) | (show LOOKN _ _ _ _ _ _; apply ZR (QV.load rfl ?g ?hl)) | (show LOOKN _ _ _ _ _ _; apply ZR (QV.loadA rfl ?g ?hl ?ho))); (case g => ((repeat first | refine Z5 ?_ | refine Z6 (by omega) ?_ | refine Z7 (by ((repeat first | apply Z1 | apply Z2 | apply Z3 | apply Z4); first | assumption | rfl)) (by omega) ?_ | refine Z8 (by assumption) (by omega) ?_); first | assumption | exact Z9 (by omega) | exact Z0 (by ((repeat first | apply Z1 | apply Z2 | apply Z3 | apply Z4); first | assumption | rfl)) (by omega))); (try (case hl => rfl)); (try (case ho => first | rfl | (first | decide | (simp; done) | (simp; omega) | exact Nat.le_of_ble_eq_true rfl)))) | (show NEWN _ _; refine ZS (by ((repeat first | apply Z1 | apply Z2 | apply Z3 | apply Z4); first | assumption | rfl)) ?_) | (show DOESN _ _; refine ZT (by first | rfl | omega | (simp; done) | (simp; omega)) ?_) | (refine ZU (by assumption) ?_) | (refine ZV (by assumption) ?_) | (refine ZW (fun _ => ?_) fun _ => ?_) | (refine ZX (by rfl) ?_) | (refine scopeC ?_) | (refine ZZ rfl ?_) | (refine Zz rfl ?_) | (show NUMN _ _; refine ZY (by ((repeat first | apply Z1 | apply Z2 | apply Z3 | apply Z4); first | assumption | rfl)) ?_) | fail)))
    rfl
  · (repeat' ((conv => whnf); (first | (refine ZE c0 ?_) | (refine ZD rfl ?_) | ((refine Za (jobs_cal (j := j) (r1.exd (by (repeat' first | exact Exd.refl _ | assumption | refine Exd.new ?_ | refine Exd.set ?_ (by omega) | refine Exd.kill ?_ (by omega)))) (r2.exd (by (repeat' first | exact Exd.refl _ | assumption | refine Exd.new ?_ | refine Exd.set ?_ (by omega) | refine Exd.kill ?_ (by omega)))) (q1.exd (by (repeat' first | exact Exd.refl _ | assumption | refine Exd.new ?_ | refine Exd.set ?_ (by omega) | refine Exd.kill ?_ (by omega)))) (q2.exd (by (repeat' first | exact Exd.refl _ | assumption | refine Exd.new ?_ | refine Exd.set ?_ (by omega) | refine Exd.kill ?_ (by omega)))) (by omega) (by omega) fun h3 x3 => ?_))) | (refine Za (awake_cal ?_)) | (refine ZA (by omega) ?_) | (refine ZB (by omega) ?_) | (refine ZC (fun _ => ?_) fun _ => ?_) | (refine ZD (by omega) ?_) | (refine ZE (by omega) ?_) | (refine ZF (fun _ => ?_) fun _ => ?_) | (refine ZG (by first | rfl | assumption) ?_) | (refine ZH (by first | decide | assumption) ?_) | (refine ZI (fun _ => ?_) fun _ => ?_) | (refine ZJ (by omega) ?_) | (refine ZK (by first | (apply u8_in; omega) | (apply i32_in; omega) | (apply u32_in; omega)) ?_) | (refine ZL (by omega) ?_) | (refine ZM (by omega) ?_) | (refine ZN (by omega) ?_) | ((first | (show GETN _ _ _; apply ZO) | (show GETM _ _ _; apply ZP) | (show SETN _ _ _ _ _ _; apply ZQ) | (show LOOKN _ _ _ _ _ _; apply ZR (QV.load rfl ?g ?hl)) | (show LOOKN _ _ _ _ _ _; apply ZR (QV.loadA rfl ?g ?hl ?ho))); (case g => ((repeat first | refine Z5 ?_ | refine Z6 (by omega) ?_ | refine Z7 (by ((repeat first | apply Z1 | apply Z2 | apply Z3 | apply Z4); first | assumption | rfl)) (by omega) ?_ | refine Z8 (by assumption) (by omega) ?_); first | assumption | exact Z9 (by omega) | exact Z0 (by ((repeat first | apply Z1 | apply Z2 | apply Z3 | apply Z4); first | assumption | rfl)) (by omega))); (try (case hl => rfl)); (try (case ho => first | rfl | (first | decide | (simp; done) | (simp; omega) | exact Nat.le_of_ble_eq_true rfl)))) | (show NEWN _ _; refine ZS (by ((repeat first | apply Z1 | apply Z2 | apply Z3 | apply Z4); first | assumption | rfl)) ?_) | (show DOESN _ _; refine ZT (by first | rfl | omega | (simp; done) | (simp; omega)) ?_) | (refine ZU (by assumption) ?_) | (refine ZV (by assumption) ?_) | (refine ZW (fun _ => ?_) fun _ => ?_) | (refine ZX (by rfl) ?_) | (refine scopeC ?_) | (refine ZZ rfl ?_) | (refine Zz rfl ?_) | (show NUMN _ _; refine ZY (by ((repeat first | apply Z1 | apply Z2 | apply Z3 | apply Z4); first | assumption | rfl)) ?_) | fail)))
    rfl

theorem env_same {ρ : Env} {t : Nat} {v : CVal} (e : ρ t = v) : ρ.putO (some t) v = ρ := by
  funext s
  show (if s = t then v else ρ s) = ρ s
  by_cases h : s = t
  · subst h; rw [if_pos rfl, e]
  · rw [if_neg h]
def front5 (t : CCode) : CCode := match c5.code with
  | .seq a (.seq b (.seq c (.seq d (.seq e (.seq f (.seq g _)))))) => .seq a (.seq b (.seq c (.seq d (.seq e (.seq f (.seq g t))))))
  | _ => .skip
theorem front5_eq : c5.code = front5 tail5 := rfl

set_option maxHeartbeats 8000000 in
theorem front_cal {j : Job} {vi vp : CVal} {at_ : Int} {raw : List UInt8} {cut : Bool} {h : Heap} {t : CCode} {Q : QT} (ri : RIn h vi j.ins) (rp : RIn h vp j.pk) (h1 : I64 j.lim) (h2 : I64 j.ins) (h3 : I64 j.pk) (_ha : -9223372036854775808 ≤ at_ ∧ at_ ≤ 9223372036854775807)
    (ls : ¬ (50 < j.ins.length ∨ 50 < j.pk.length ∨ 50 < raw.length))
    (k : ∀ (ρ : Env) (h' : Heap) (U : List UInt8), ρ 11 = .str U → U.length ≤ 99990 → wC tt 98 t ρ [] h' Q) :
    wC tt 98 (front5 t) (argsE [.agg (j.cs vi vp), .int .i64 at_, .str raw, .bool cut]) [] h Q := by
  obtain ⟨N, hN⟩ : ∃ N, h.next = N := ⟨_, rfl⟩
  obtain ⟨cl, p, st, so, A, B⟩ := j
  change RIn h vi A at ri
  change RIn h vp B at rp
  show wC tt 98 (front5 t) (argsE [.agg [.bool cl, .int .i64 p, .int .i64 st, .int .i64 so, vi, vp], .int .i64 at_, .str raw, .bool cut]) [] h _
  obtain ⟨ui, hui⟩ : ∃ x, x = vi := ⟨_, rfl⟩
  obtain ⟨up, hup⟩ : ∃ x, x = vp := ⟨_, rfl⟩
  simp only [not_or] at ls
  rcases ri.len with ⟨rfl, e1⟩ | ⟨_, _, _, rfl⟩ <;> rcases rp.len with ⟨rfl, e2⟩ | ⟨_, _, _, rfl⟩
  all_goals
  have ok : (Job.mk cl p st so A B).ok := ⟨h1, h2, h3, by show A.length ≤ _; omega, by show B.length ≤ _; omega⟩
  have jl := jobT_len h1 h2 h3 (by show A.length ≤ _; omega) (by show B.length ≤ _; omega)
  (repeat' ((conv => whnf); (first | (refine ZA (by omega) ?_) | (refine ZB (by omega) ?_) | (refine ZC (fun _ => ?_) fun _ => ?_) | (refine ZD (by omega) ?_) | (refine ZE (by omega) ?_) | (refine ZF (fun _ => ?_) fun _ => ?_) | (refine ZG (by first | rfl | assumption) ?_) | (refine ZH (by first | decide | assumption) ?_) | (refine ZI (fun _ => ?_) fun _ => ?_) | (refine ZJ (by omega) ?_) | (refine ZK (by first | (apply u8_in; omega) | (apply i32_in; omega) | (apply u32_in; omega)) ?_) | (refine ZL (by omega) ?_) | (refine ZM (by omega) ?_) | (refine ZN (by omega) ?_) | ((first | (show GETN _ _ _; apply ZO) | (show GETM _ _ _; apply ZP) | (show SETN _ _ _ _ _ _; apply ZQ) | (show LOOKN _ _ _ _ _ _; apply ZR (QV.load rfl ?g ?hl)) | (show LOOKN _ _ _ _ _ _; apply ZR (QV.loadA rfl ?g ?hl ?ho))); (case g => ((repeat first | refine Z5 ?_ | refine Z6 (by omega) ?_ | refine Z7 (by ((repeat first | apply Z1 | apply Z2 | apply Z3 | apply Z4); first | assumption | rfl)) (by omega) ?_ | refine Z8 (by assumption) (by omega) ?_); first | assumption | exact Z9 (by omega) | exact Z0 (by ((repeat first | apply Z1 | apply Z2 | apply Z3 | apply Z4); first | assumption | rfl)) (by omega))); (try (case hl => rfl)); (try (case ho => first | rfl | (first | decide | (simp; done) | (simp; omega) | exact Nat.le_of_ble_eq_true rfl)))) | (show NEWN _ _; refine ZS (by ((repeat first | apply Z1 | apply Z2 | apply Z3 | apply Z4); first | assumption | rfl)) ?_) | (show DOESN _ _; refine ZT (by first | rfl | omega | (simp; done) | (simp; omega)) ?_) | (refine ZU (by assumption) ?_) | (refine ZV (by assumption) ?_) | (refine ZW (fun _ => ?_) fun _ => ?_) | (refine ZX (by rfl) ?_) | (refine scopeC ?_) | (refine ZZ rfl ?_) | (refine Zz rfl ?_) | (show NUMN _ _; refine ZY (by ((repeat first | apply Z1 | apply Z2 | apply Z3 | apply Z4); first | assumption | rfl)) ?_) | fail)))
  generalize hh : Heap.new h _ = hm
  have nm : hm.next = N + 1 := by rw [← hh]; ((repeat first | apply Z1 | apply Z2 | apply Z3 | apply Z4); first | assumption | rfl)
  have xm : Exd h hm := by rw [← hh]; (repeat' first | exact Exd.refl _ | assumption | refine Exd.new ?_ | refine Exd.set ?_ (by omega) | refine Exd.kill ?_ (by omega))
  clear hh
  subst hui hup
  have ri := ri.exd xm
  have rp := rp.exd xm
  refine Za (textR_cal (j := ⟨cl, p, st, so, A, B⟩) ri rp ok fun hb xb => ?_)
  generalize jobT _ = T at jl
  have m1 := Int.tmod_lt_of_pos at_ (b := (T.length : Int) + 1) (by omega)
  have m0 := Int.tmod_lt_of_pos (-at_) (b := (T.length : Int) + 1) (by omega)
  rw [Int.neg_tmod] at m0
  obtain ⟨K, hK, hKl⟩ : ∃ K : Nat, ((at_.tmod ((T.length : Int) + 1) < 0 → at_.tmod ((T.length : Int) + 1) + T.length + 1 = K) ∧ (¬ at_.tmod ((T.length : Int) + 1) < 0 → at_.tmod ((T.length : Int) + 1) = K)) ∧ K ≤ T.length := by
    by_cases hn : at_.tmod ((T.length : Int) + 1) < 0
    · exact ⟨(at_.tmod ((T.length : Int) + 1) + T.length + 1).toNat, ⟨fun _ => by omega, fun h => absurd hn h⟩, by omega⟩
    · exact ⟨(at_.tmod ((T.length : Int) + 1)).toNat, ⟨fun h => absurd h hn, fun _ => by omega⟩, by omega⟩
  obtain ⟨hK1, hK2⟩ := hK
  cases cut
  all_goals
  (repeat' ((conv => whnf); (first | (refine ZX (bounds0 (q := K) (by omega) hKl) ?_) | (refine ZX (bounds1 (p := K) (by omega) hKl (Nat.le_refl _)) ?_) | (refine ZT (by simp only [List.length_append, List.length_take, List.length_drop]; omega) ?_) | (refine ZA (by omega) ?_) | (refine ZB (by omega) ?_) | (refine ZC (fun _ => ?_) fun _ => ?_) | (refine ZD (by omega) ?_) | (refine ZE (by omega) ?_) | (refine ZF (fun _ => ?_) fun _ => ?_) | (refine ZG (by first | rfl | assumption) ?_) | (refine ZH (by first | decide | assumption) ?_) | (refine ZI (fun _ => ?_) fun _ => ?_) | (refine ZJ (by omega) ?_) | (refine ZK (by first | (apply u8_in; omega) | (apply i32_in; omega) | (apply u32_in; omega)) ?_) | (refine ZL (by omega) ?_) | (refine ZM (by omega) ?_) | (refine ZN (by omega) ?_) | ((first | (show GETN _ _ _; apply ZO) | (show GETM _ _ _; apply ZP) | (show SETN _ _ _ _ _ _; apply ZQ) | (show LOOKN _ _ _ _ _ _; apply ZR (QV.load rfl ?g ?hl)) | (show LOOKN _ _ _ _ _ _; apply ZR (QV.loadA rfl ?g ?hl ?ho))); (case g => ((repeat first | refine Z5 ?_ | refine Z6 (by omega) ?_ | refine Z7 (by ((repeat first | apply Z1 | apply Z2 | apply Z3 | apply Z4); first | assumption | rfl)) (by omega) ?_ | refine Z8 (by assumption) (by omega) ?_); first | assumption | exact Z9 (by omega) | exact Z0 (by ((repeat first | apply Z1 | apply Z2 | apply Z3 | apply Z4); first | assumption | rfl)) (by omega))); (try (case hl => rfl)); (try (case ho => first | rfl | (first | decide | (simp; done) | (simp; omega) | exact Nat.le_of_ble_eq_true rfl)))) | (show NEWN _ _; refine ZS (by ((repeat first | apply Z1 | apply Z2 | apply Z3 | apply Z4); first | assumption | rfl)) ?_) | (show DOESN _ _; refine ZT (by first | rfl | omega | (simp; done) | (simp; omega)) ?_) | (refine ZU (by assumption) ?_) | (refine ZV (by assumption) ?_) | (refine ZW (fun _ => ?_) fun _ => ?_) | (refine ZX (by rfl) ?_) | (refine scopeC ?_) | (refine ZZ rfl ?_) | (refine Zz rfl ?_) | (show NUMN _ _; refine ZY (by ((repeat first | apply Z1 | apply Z2 | apply Z3 | apply Z4); first | assumption | rfl)) ?_) | fail)))
  all_goals
  refine k _ _ _ rfl ?_
  simp only [List.length_append, List.length_take, List.length_drop]
  omega

set_option maxHeartbeats 8000000 in
theorem spoilt_cal {j : Job} {vi vp : CVal} {at_ : Int} {raw : List UInt8} {cut : Bool} {h : Heap} (ri : RIn h vi j.ins) (rp : RIn h vp j.pk) (h1 : I64 j.lim) (h2 : I64 j.ins) (h3 : I64 j.pk) (ha : -9223372036854775808 ≤ at_ ∧ at_ ≤ 9223372036854775807) : Cal tt 5 [.agg (j.cs vi vp), .int .i64 at_, .str raw, .bool cut] h fun v _ => v = .bool true := by
  by_cases hl : 50 < j.ins.length ∨ 50 < j.pk.length ∨ 50 < raw.length
  · obtain ⟨N, hN⟩ : ∃ N, h.next = N := ⟨_, rfl⟩
    obtain ⟨cl, p, st, so, A, B⟩ := j
    change RIn h vi A at ri
    change RIn h vp B at rp
    change 50 < A.length ∨ 50 < B.length ∨ 50 < raw.length at hl
    show Cal tt 5 [.agg [.bool cl, .int .i64 p, .int .i64 st, .int .i64 so, vi, vp], .int .i64 at_, .str raw, .bool cut] h _
    rcases ri.len with ⟨rfl, e1⟩ | ⟨_, _, _, rfl⟩ <;> rcases rp.len with ⟨rfl, e2⟩ | ⟨_, _, _, rfl⟩
    all_goals
    refine Cal.run rfl rfl rfl rfl ?_
    rcases hl with hl | hl | hl
    all_goals try (exfalso; omega)
    all_goals
    (repeat' ((conv => whnf); (first | (refine Za (awake_cal ?_)) | (refine ZA (by omega) ?_) | (refine ZB (by omega) ?_) | (refine ZC (fun _ => ?_) fun _ => ?_) | (refine ZD (by omega) ?_) | (refine ZE (by omega) ?_) | (refine ZF (fun _ => ?_) fun _ => ?_) | (refine ZG (by first | rfl | assumption) ?_) | (refine ZH (by first | decide | assumption) ?_) | (refine ZI (fun _ => ?_) fun _ => ?_) | (refine ZJ (by omega) ?_) | (refine ZK (by first | (apply u8_in; omega) | (apply i32_in; omega) | (apply u32_in; omega)) ?_) | (refine ZL (by omega) ?_) | (refine ZM (by omega) ?_) | (refine ZN (by omega) ?_) | ((first | (show GETN _ _ _; apply ZO) | (show GETM _ _ _; apply ZP) | (show SETN _ _ _ _ _ _; apply ZQ) | (show LOOKN _ _ _ _ _ _; apply ZR (QV.load rfl ?g ?hl)) | (show LOOKN _ _ _ _ _ _; apply ZR (QV.loadA rfl ?g ?hl ?ho))); (case g => ((repeat first | refine Z5 ?_ | refine Z6 (by omega) ?_ | refine Z7 (by ((repeat first | apply Z1 | apply Z2 | apply Z3 | apply Z4); first | assumption | rfl)) (by omega) ?_ | refine Z8 (by assumption) (by omega) ?_); first | assumption | exact Z9 (by omega) | exact Z0 (by ((repeat first | apply Z1 | apply Z2 | apply Z3 | apply Z4); first | assumption | rfl)) (by omega))); (try (case hl => rfl)); (try (case ho => first | rfl | (first | decide | (simp; done) | (simp; omega) | exact Nat.le_of_ble_eq_true rfl)))) | (show NEWN _ _; refine ZS (by ((repeat first | apply Z1 | apply Z2 | apply Z3 | apply Z4); first | assumption | rfl)) ?_) | (show DOESN _ _; refine ZT (by first | rfl | omega | (simp; done) | (simp; omega)) ?_) | (refine ZU (by assumption) ?_) | (refine ZV (by assumption) ?_) | (refine ZW (fun _ => ?_) fun _ => ?_) | (refine ZX (by rfl) ?_) | (refine scopeC ?_) | (refine ZZ rfl ?_) | (refine Zz rfl ?_) | (show NUMN _ _; refine ZY (by ((repeat first | apply Z1 | apply Z2 | apply Z3 | apply Z4); first | assumption | rfl)) ?_) | fail)))
    all_goals rfl
  · refine Cal.run2 rfl rfl rfl ?_
    show wC tt 98 c5.code _ [] h (endE tt 98 [CRV.tmp 8] _)
    rw [front5_eq]
    refine front_cal ri rp h1 h2 h3 ha hl fun ρ h' U e lU => ?_
    rw [← env_same e]
    exact tail_cal lU
end Go.Proofs.YthdeoeokjmmnbaaDoor.Cm
