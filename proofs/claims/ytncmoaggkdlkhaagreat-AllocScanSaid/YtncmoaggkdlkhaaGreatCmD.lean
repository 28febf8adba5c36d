/-
  The clean machine, and what the law's functions do in it: part D of this claim's own texts. No conditions.
-/
import Derived.Test.YtncmoaggkdlkhaaGreatCmC
import Derived.IntWalk
namespace Go.Proofs.YtncmoaggkdlkhaaGreat.Cm
open Go.RowKit Go.IntWalk
theorem Heap.set_skip {h : Heap} {i j : Nat} {o : CObj} {x : Option CObj} (e : j ≠ i) (g : h.get j = x) : (h.set i o).get j = x := (h.get_set_ne i j o e).trans g
theorem Heap.new_skip {h : Heap} {j n : Nat} {o : CObj} {x : Option CObj} (hn : h.next = n) (e : j ≠ n) (g : h.get j = x) : (h.new o).get j = x := (h.get_new_ne j o (hn ▸ e)).trans g
theorem Heap.kill_skip {h : Heap} {i j : Nat} {x : Option CObj} (e : j ≠ i) (g : h.get j = x) : (h.kill i).get j = x := (h.get_kill_ne i j e).trans g
theorem Heap.new_at {h : Heap} {j n : Nat} {o : CObj} (hn : h.next = n) (e : j = n) : (h.new o).get j = some o := by subst hn; subst e; exact h.get_new_same o
theorem Heap.set_at {h : Heap} {i j : Nat} {o : CObj} (e : j = i) : (h.set i o).get j = some o := by subst e; exact h.get_set_same j o
theorem Heap.nx_set {h : Heap} {i n : Nat} {o : CObj} (e : h.next = n) : (h.set i o).next = n := e
theorem Heap.nx_new {h : Heap} {n : Nat} {o : CObj} (e : h.next = n) : (h.new o).next = n + 1 := by rw [Heap.next_new, e]
structure Exd (h h' : Heap) : Prop where
 le : h.next ≤ h'.next
 get : ∀ i, i < h.next → h'.get i = h.get i
theorem Exd.refl (h : Heap) : Exd h h := ⟨Nat.le_refl _, fun _ _ => rfl⟩
theorem Exd.trans {h h' h'' : Heap} (a : Exd h h') (b : Exd h' h'') : Exd h h'' := ⟨Nat.le_trans a.le b.le, fun i hi => (b.get i (Nat.lt_of_lt_of_le hi a.le)).trans (a.get i hi)⟩
theorem Exd.new {h h' : Heap} {o : CObj} (e : Exd h h') : Exd h (h'.new o) := ⟨Nat.le_succ_of_le e.le, fun i hi => by rw [Heap.get_new_ne _ _ _ (by have := e.le; omega)]; exact e.get i hi⟩
theorem Exd.set {h h' : Heap} {i : Nat} {o : CObj} (e : Exd h h') (hi : h.next ≤ i) : Exd h (h'.set i o) := ⟨e.le, fun j hj => by rw [Heap.get_set_ne _ _ _ _ (by omega)]; exact e.get j hj⟩
theorem Exd.kill {h h' : Heap} {i : Nat} (e : Exd h h') (hi : h.next ≤ i) : Exd h (h'.kill i) := ⟨e.le, fun j hj => by rw [Heap.get_kill_ne _ _ _ (by omega)]; exact e.get j hj⟩
theorem Exd.skip {h h' : Heap} {i : Nat} {x : Option CObj} (e : Exd h h') (hi : i < h.next) (g : h.get i = x) : h'.get i = x := (e.get i hi).trans g
structure Upd (S : Nat → Prop) (h h' : Heap) : Prop where
 le : h.next ≤ h'.next
 get : ∀ i, i < h.next → ¬ S i → h'.get i = h.get i
theorem Upd.refl (S : Nat → Prop) (h : Heap) : Upd S h h := ⟨Nat.le_refl _, fun _ _ _ => rfl⟩
theorem Upd.trans {S : Nat → Prop} {h h' h'' : Heap} (a : Upd S h h') (b : Upd S h' h'') : Upd S h h'' := ⟨Nat.le_trans a.le b.le, fun i hi hs => (b.get i (Nat.lt_of_lt_of_le hi a.le) hs).trans (a.get i hi hs)⟩
theorem Upd.new {S : Nat → Prop} {h h' : Heap} {o : CObj} (e : Upd S h h') : Upd S h (h'.new o) := ⟨Nat.le_succ_of_le e.le, fun i hi hs => by rw [Heap.get_new_ne _ _ _ (by have := e.le; omega)]; exact e.get i hi hs⟩
theorem Upd.set {S : Nat → Prop} {h h' : Heap} {i : Nat} {o : CObj} (e : Upd S h h') (hi : S i ∨ h.next ≤ i) : Upd S h (h'.set i o) := ⟨e.le, fun j hj hs => by rw [Heap.get_set_ne _ _ _ _ (by rintro rfl; rcases hi with h1 | h1; exact hs h1; omega)]; exact e.get j hj hs⟩
theorem Exd.upd {S : Nat → Prop} {h h' : Heap} (e : Exd h h') : Upd S h h' := ⟨e.le, fun i hi _ => e.get i hi⟩
section
variable {a : Fr} {h : Heap} {Q : CExit → Fr → Heap → Prop} {K : Fr → Heap → Prop} {id l : Nat}
theorem blockQ_xT {id' : Nat} (e : Nat.beq id' id = true) (k : Q .normal a h) : blockQ id Q (.exit id') a h := by
 have e := Nat.eq_of_beq_eq_true e
 simp only [blockQ, e, if_true]; exact k
theorem blockQ_xF {id' : Nat} (e : Nat.beq id' id = false) (k : Q (.exit id') a h) : blockQ id Q (.exit id') a h := by
 have e := Nat.ne_of_beq_eq_false e
 simp only [blockQ, e, if_false]; exact k
end
inductive RES (N : Nat) (ρ : Env) (h : Heap) : List CRV → List CVal → Prop where
 | nil : RES N ρ h [] []
 | t {i : Nat} {v : CVal} {rs : List CRV} {vs : List CVal} (e : (CX.t i).on N ρ = v) (k : RES N ρ h rs vs) : RES N ρ h (.tmp i :: rs) (v :: vs)
 | c {i j p n : Nat} {v : CVal} {us : List CVal} {wr : Bool} {opn : Option Nat} {rs : List CRV} {vs : List CVal} (e : (CX.t i).on N ρ = .ptr j p) (g : h.get j = some (.cells us wr opn)) (ev : us[p]? = some v) (k : RES N ρ h rs vs) : RES N ρ h (.cell i false n :: rs) (v :: vs)
section
variable {T : Tab} {N : Nat} {ρ : Env} {ds : List (FuncId × List CVal)} {h : Heap} {Q : CExit → Fr → Heap → Prop} {c : CX} {x y : CCode}
theorem condT (hc : c.on N ρ = .bool true) (k : WP T x ⟨envL N ρ, ds⟩ h Q) : WP T (.cond c x y) ⟨envL N ρ, ds⟩ h Q :=
 WP.cond ((CX.on_ev N ρ c).trans hc) (fun _ => k) (fun e => by simp at e)
theorem condF (hc : c.on N ρ = .bool false) (k : WP T y ⟨envL N ρ, ds⟩ h Q) : WP T (.cond c x y) ⟨envL N ρ, ds⟩ h Q :=
 WP.cond ((CX.on_ev N ρ c).trans hc) (fun e => by simp at e) (fun _ => k)
def Env.puts (ρ : Env) : List (Nat × CVal) → Env
 | [] => ρ
 | p :: l => (ρ.puts l).put p.1 p.2
def Env.Has (ρ : Env) : List (Nat × CVal) → Prop
 | [] => True
 | p :: l => ρ p.1 = p.2 ∧ ρ.Has l
theorem Env.put_own (ρ : Env) (t : Nat) : ρ.put t (ρ t) = ρ := by
 funext s; rw [Env.put_at]; split
 ·next e => rw [e]
 ·rfl
theorem Env.Has.eq {ρ : Env} : ∀ {l : List (Nat × CVal)}, ρ.Has l → ρ.puts l = ρ
 | [], _ => rfl
 | p :: l, ⟨e, k⟩ => by rw [Env.puts, Env.Has.eq k, ← e, Env.put_own]
theorem loopE {α : Type} (L : α → List (Nat × CVal)) (I : α → Heap → Prop) (μ : α → Nat) (s₀ : α) (i₀ : ρ.Has (L s₀)) (j₀ : I s₀ h)
  (round : ∀ (s : α) (ρ : Env) (h : Heap), I s h → WP T x ⟨envL N (ρ.puts (L s)), ds⟩ h (thenQ (fun a' h' => ∃ (s' : α) (ρ' : Env), a' = ⟨envL N ρ', ds⟩ ∧ ρ'.Has (L s') ∧ I s' h' ∧ μ s' < μ s) Q)) : WP T (.loop x) ⟨envL N ρ, ds⟩ h Q := by
 refine WP.loop_inv (fun s a h => ∃ ρ, a = ⟨envL N ρ, ds⟩ ∧ ρ.Has (L s) ∧ I s h) μ ?_ s₀ ⟨ρ, rfl, i₀, j₀⟩
 rintro s a h ⟨ρ, rfl, hl, hi⟩
 refine (hl.eq ▸ round s ρ h hi : WP T x ⟨envL N ρ, ds⟩ h _).mono ?_
 intro e a' h' q
 cases e with
 | normal => obtain ⟨s', ρ', e1, e2, e3, e4⟩ := q; exact ⟨s', ⟨ρ', e1, e2, e3⟩, e4⟩
 | _ => exact q
def scopeQ (rests : List (Nat × CCode)) (T : Tab) (Q : CExit → Fr → Heap → Prop) : CExit → Fr → Heap → Prop
 | .goto l, a, h => ∃ r, findRest l rests = some r ∧ WP T (.scope r rests) a h Q
 | x, a, h => Q x a h
theorem WP.scope {a : Fr} {b : CCode} {rests : List (Nat × CCode)} (k : WP T b a h (scopeQ rests T Q)) : WP T (.scope b rests) a h Q := by
 obtain ⟨n, e, a', h', ev, q⟩ := k
 cases e with
 | goto l =>
  obtain ⟨r, hr, m, e', a'', h'', ev', q'⟩ := q
  refine ⟨max n m + 1, e', a'', h'', ?_, q'⟩
  have hn : n ≤ max n m := Nat.le_max_left _ _
  have hm : m ≤ max n m := Nat.le_max_right _ _
  simp only [evCode]
  rw [evCode_mono (callF_mono T (Nat.le_succ_of_le hn)) hn ev]
  simp only [hr]
  exact evCode_mono (callF_mono T (Nat.le_succ_of_le hm)) hm ev'
 | _ =>
  refine ⟨n + 1, _, a', h', ?_, q⟩
  simp only [evCode]
  rw [evCode_mono (callF_mono T (Nat.le_succ n)) (Nat.le_refl n) ev]
theorem WP.wipe {a : Fr} {ts : List Nat} (k : Q .normal (a.wipe ts) h) : WP T (.wipe ts) a h Q := ⟨1, _, _, _, rfl, k⟩
def Env.wipe (ρ : Env) : List Nat → Env
 | [] => ρ
 | t :: ts => (ρ.put t .undef).wipe ts
theorem wipe_env : ∀ (ts : List Nat) (ρ : Env), Fr.wipe ⟨envL N ρ, ds⟩ ts = ⟨envL N (ρ.wipe ts), ds⟩
 | [], _ => rfl
 | t :: ts, ρ => by rw [Fr.wipe, Env.wipe, ← wipe_env ts]; simp only [envL_put]
end
namespace O
end O
def WPD (T : Tab) (base : Nat) (its : List DIt) (a : Fr) (h : Heap) (K : Fr → Heap → List (Fr × Heap) → Prop) : Prop := ∃ n a' h' hs, evD (callF T n) base its a h = some (a', h', hs) ∧ K a' h' hs
section
variable {T : Tab} {N base : Nat} {ρ : Env} {ds : List (FuncId × List CVal)} {h h' : Heap} {its : List DIt} {K : Fr → Heap → List (Fr × Heap) → Prop} {Q : CExit → Fr → Heap → Prop}
theorem WP.draw {k : Nat} {a : Fr} (w : WPD T h.next its a { h with next := h.next + k } fun a' h' hs => checkD a'.tmps hs its hs = true ∧ Q .normal a' h') : WP T (.draw its k) a h Q := by
 obtain ⟨n, a', h', hs, ev, hc, q⟩ := w
 refine ⟨n + 1, .normal, a', h', ?_, q⟩
 simp only [evCode]
 rw [evD_mono (callF_mono T (Nat.le_succ n)) ev]
 simp only [hc, if_true]
theorem WPD.nil {a : Fr} (k : K a h [(a, h)]) : WPD T base [] a h K := ⟨0, a, h, _, rfl, k⟩
theorem WPD.quiet {a : Fr} {ix : Nat} {c : COper} {ks : List Nat} {v : CVal} (e : evOp1 noCall c a.tmps h = some (v, [], h')) (k : evOp1 noCall c a.tmps h = some (v, [], h') → WPD T base its (a.put c.dst v) h fun a' h' hs => K a' h' ((a, h) :: hs)) : WPD T base (⟨ix, c, .quiet ks⟩ :: its) a h K := by
 obtain ⟨n, a', h', hs, ev, q⟩ := k e
 exact ⟨n, a', h', _, by simp only [evD, stepD, e, ev], q⟩
theorem WPD.alloc {a : Fr} {ix aid : Nat} {d : Option Nat} {op : COp} {v : CVal} {obj : CObj} (e : allocC op a.tmps (base + aid) = some (v, obj)) (k : WPD T base its (a.put d v) (h.set (base + aid) obj) fun a' h' hs => K a' h' ((a, h) :: hs)) : WPD T base (⟨ix, ⟨d, op, none⟩, .alloc aid⟩ :: its) a h K := by
 obtain ⟨n, a', h', hs, ev, q⟩ := k
 exact ⟨n, a', h', _, by simp only [evD, stepD, e, ev], q⟩
theorem WPD.eff {a : Fr} {ix : Nat} {c : COper} (k : WPO T [c] a h fun a₁ h₁ => WPD T base its a₁ h₁ fun a' h' hs => K a' h' ((a, h) :: hs)) : WPD T base (⟨ix, c, .eff⟩ :: its) a h K := by
 obtain ⟨n, a₁, h₁, ev, m, a', h', hs, ev', q⟩ := k
 refine ⟨max n m, a', h', (a, h) :: hs, ?_, q⟩
 have hn : n ≤ max n m := Nat.le_max_left _ _
 have hm : m ≤ max n m := Nat.le_max_right _ _
 have e₁ : evOper (callF T (max n m)) c a h = some (a₁, h₁) := by
  have := evOps_mono (callF_mono T hn) ev
  simp only [evOps] at this
  split at this
  ·next h1 => simp only [Option.some.injEq, Prod.mk.injEq] at this; obtain ⟨rfl, rfl⟩ := this; exact h1
  ·simp at this
 simp only [evD, stepD, e₁, evD_mono (callF_mono T hm) ev']
def QV (N : Nat) (ρ : Env) (h : Heap) (op : COp) (v : CVal) : Prop := cop op (envL N ρ) h = some (.val v, h)
theorem QV.load {n : Nat} {x : CX} {i o : Nat} {vs : List CVal} {wr : Bool} {opn : Option Nat} {v : CVal} (hx : x.on N ρ = .ptr i o) (hg : h.get i = some (.cells vs wr opn)) (hv : vs[o]? = some v) : QV N ρ h (.load false n x) v := by simp only [QV, cop, CX.on_ev, hx, hg, hv, Bool.false_eq_true, if_false]
def freeOp : COp → Bool
 | .move _ | .pick .. | .build .. | .nilCheck _ | .bin .. | .eq .. | .eqS .. | .un .. | .conv .. | .iface .. | .func .. | .sliceStr .. | .fieldAddr .. | .part .. | .indexAddr .. | .indexAddrArr .. | .indexArr .. | .indexStr .. | .extract .. | .maxmin .. => true
 | .len k _ => (match k with | .map => false | _ => true)
 | .slice _ _ _ _ none => true
 | _ => false
theorem cop_free {op : COp} (hf : freeOp op = true) {a : List CVal} {h h₁ h' : Heap} {r : CRes} (e : cop op a h = some (r, h')) : cop op a h₁ = some (r, h₁) := by
 cases op
 case slice sz x lo hi mx =>
  cases mx with
  | some _ => simp [freeOp] at hf
  | none =>
   simp only [cop, Option.isSome, Bool.false_eq_true, false_and, if_false] at e ⊢
   repeat' (split at e)
   all_goals simp_all
 case len k x =>
  cases k <;> simp [freeOp] at hf <;> simp only [cop] at e ⊢ <;> (repeat' (split at e)) <;> simp_all
 all_goals first
  | (exfalso; simp only [freeOp, Bool.false_eq_true] at hf; done)
  | (simp only [cop] at e ⊢; (repeat' (split at e)) <;> simp_all)
theorem evOp1_free {d : Option Nat} {op : COp} {g : Option (Nat × Bool)} (hf : freeOp op = true) {a : List CVal} {h h₁ h' : Heap} {v : CVal} (e : evOp1 noCall ⟨d, op, g⟩ a h = some (v, [], h')) : evOp1 noCall ⟨d, op, g⟩ a h₁ = some (v, [], h₁) := by
 simp only [evOp1] at e ⊢
 split at e
 ·simp at e
 ·next hw => simp only [Option.some.injEq, Prod.mk.injEq] at e; simp only [e.1]
 ·next hw =>
  (try simp only [hw])
  split at e
  ·simp at e
  ·next hc => rw [cop_free hf hc]; simp only [Option.some.injEq, Prod.mk.injEq] at e; simp only [e.1]
  ·next hc => simp [noCall] at e
  ·next hc => split at e <;> simp at e
  ·next hc => simp [noCall] at e
end
end Go.Proofs.YtncmoaggkdlkhaaGreat.Cm
namespace Go.Proofs.YtncmoaggkdlkhaaGreat.Cm
open Go.RowKit Go.IntWalk
set_option linter.unusedVariables false
abbrev DS := List (FuncId × List CVal)
structure LTN (a b : Int) (A B : Prop) : Prop where
 t : a < b → A
 f : b ≤ a → B
theorem LTN.yes {a b : Int} {A B : Prop} (h : a < b) (k : A) : LTN a b A B := ⟨fun _ => k, fun _ => by omega⟩
theorem LTN.no {a b : Int} {A B : Prop} (h : b ≤ a) (k : B) : LTN a b A B := ⟨fun _ => by omega, fun _ => k⟩
structure EQN (a b : Int) (A B : Prop) : Prop where
 t : a = b → A
 f : a ≠ b → B
theorem EQN.yes {a b : Int} {A B : Prop} (h : a = b) (k : A) : EQN a b A B := ⟨fun _ => k, fun e => (e h).elim⟩
theorem EQN.no {a b : Int} {A B : Prop} (h : a ≠ b) (k : B) : EQN a b A B := ⟨fun e => (h e).elim, fun _ => k⟩
structure EQSN (a b : List UInt8) (A B : Prop) : Prop where
 t : a = b → A
 f : a ≠ b → B
structure ARN (k : IntKind) (r : Int) (K : Int → Prop) : Prop where
 w : K (k.wrap r)
theorem ARN.in {r : Int} {K : Int → Prop} (h : -9223372036854775808 ≤ r ∧ r ≤ 9223372036854775807) (k : K r) : ARN .i64 r K := ⟨by rw [i64_in r h]; exact k⟩
structure QUON (k : IntKind) (a b : Int) (K : Int → Prop) : Prop where
 n : b ≠ 0
 w : K (k.wrap (a.tdiv b))
theorem QUON.pos {a b : Int} {K : Int → Prop} (h : 0 ≤ a ∧ a ≤ 9223372036854775807 ∧ 1 ≤ b) (k : K (a / b)) : QUON .i64 a b K := ⟨by omega, by rw [i64_quo a b h]; exact k⟩
structure REMN (a b : Int) (K : Int → Prop) : Prop where
 n : b ≠ 0
 w : K (a.tmod b)
theorem REMN.pos {a b : Int} {K : Int → Prop} (h : 0 ≤ a ∧ b ≠ 0) (k : K (a % b)) : REMN a b K := ⟨h.2, by rw [Int.tmod_eq_emod_of_nonneg h.1]; exact k⟩
inductive GETN (h : Heap) (i : Nat) (K : List CVal → Bool → Option Nat → Prop) : Prop where
 | mk {vs : List CVal} {wr : Bool} {opn : Option Nat} (g : h.get i = some (.cells vs wr opn)) (k : K vs wr opn)
inductive GETM (h : Heap) (i : Nat) (K : List (CVal × CVal) → Bool → Option (List Nat × Nat) → Prop) : Prop where
 | mk {es : List (CVal × CVal)} {wr : Bool} {st : Option (List Nat × Nat)} (g : h.get i = some (.map es wr st)) (k : K es wr st)
inductive NEWN (h : Heap) (K : Nat → Prop) : Prop where
 | mk {n : Nat} (e : h.next = n) (k : K n)
inductive SETN (h : Heap) (i o n : Nat) (us : List CVal) (K : Heap → Prop) : Prop where
 | mk {vs : List CVal} {opn : Option Nat} (g : h.get i = some (.cells vs true opn)) (hl : us.length = n) (ho : o + n ≤ vs.length) (k : K (h.set i (.cells (putCells vs o us) true opn)))
inductive SOMEN {α : Type} (x : Option α) (K : α → Prop) : Prop where
 | mk {a : α} (e : x = some a) (k : K a)
inductive CALLN (T : Tab) (f : FuncId) (args : List CVal) (h : Heap) (K : CVal → Heap → Prop) : Prop where
 | mk (k : Cal T f args h K)
inductive LKN (kt : KT) (zero : CVal) (ok : Bool) (x : CVal) (es : List (CVal × CVal)) (K : CVal → Prop) : Prop where
 | mk {r : Option (Nat × CVal)} (e : findK kt x es 0 = some r) (k : K (match r with | some q => if ok then .tuple [q.2, .bool true] else q.2 | none => if ok then .tuple [zero, .bool false] else zero))
inductive UPN (kt : KT) (i : Nat) (x z : CVal) (es : List (CVal × CVal)) (st : Option (List Nat × Nat)) (h : Heap) (K : Heap → Prop) : Prop where
 | mk {r : Option (Nat × CVal)} (e : findK kt x es 0 = some r) (k : K (h.set i (.map (match r with | some q => es.set q.1 (x, z) | none => es ++ [(x, z)]) true (match r with | some _ => st | none => stPush st))))
inductive ROUNDN (T : Tab) (i : Nat) (args : List CVal) (h : Heap) (K : CVal → Heap → Prop) : Prop where
 | mk {st : LoopState} {pend : Option CJ} {fn k np : Nat} {tmps : List CVal} {d : Nat} (g : h.get i = some (.loop st pend fn k np tmps d)) (hl : args.length = np) (c : CalR T i args h K)
inductive DOESN (P : Prop) (A : Prop) : Prop where
 | mk (p : P) (a : A)
inductive OPN (N : Nat) (op : COp) (ρ : Env) (h : Heap) (K : CVal → Heap → Prop) : Prop where
 | mk {v : CVal} {h' : Heap} (e : cop op (envL N ρ) h = some (.val v, h')) (k : K v h')
inductive CODEN (T : Tab) (N : Nat) (c : CCode) (ρ : Env) (ds : DS) (h : Heap) (Q : CExit → Env → DS → Heap → Prop) : Prop where
 | mk (k : WP T c ⟨envL N ρ, ds⟩ h fun e a h' => ∃ ρ' ds', a = ⟨envL N ρ', ds'⟩ ∧ Q e ρ' ds' h')
def BC (b : Bool) (A B : Prop) : Prop := match b with
 | true => A
 | false => B
theorem BC.yes {b : Bool} {A B : Prop} (e : b = true) (k : A) : BC b A B := by subst e; exact k
theorem BC.no {b : Bool} {A B : Prop} (e : b = false) (k : B) : BC b A B := by subst e; exact k
def vK (v : CVal) : (CVal → Prop) → Prop := match v with
 | .undef => fun K => K .undef
 | .bool b => fun K => K (.bool b)
 | .int k n => fun K => K (.int k n)
 | .str s => fun K => K (.str s)
 | .nilPtr => fun K => K .nilPtr
 | .ptr i o => fun K => K (.ptr i o)
 | .nilSlice => fun K => K .nilSlice
 | .slice i o l c => fun K => K (.slice i o l c)
 | .nilMap => fun K => K .nilMap
 | .map i => fun K => K (.map i)
 | .nilFunc => fun K => K .nilFunc
 | .func f p q => fun K => K (.func f p q)
 | .yield i => fun K => K (.yield i)
 | .nilIface => fun K => K .nilIface
 | .iface t v => fun K => K (.iface t v)
 | .agg cs => fun K => K (.agg cs)
 | .tuple vs => fun K => K (.tuple vs)
theorem vK_any {v : CVal} {K : CVal → Prop} (k : K v) : vK v K := by cases v <;> exact k
theorem vK_out {v : CVal} {K : CVal → Prop} (k : vK v K) : K v := by cases v <;> exact k
def AT (vs : List CVal) (o : Nat) (K : CVal → Prop) : Prop := match vs[o]? with
 | some v => vK v K
 | none => False
theorem AT.of {vs : List CVal} {o : Nat} {v : CVal} {K : CVal → Prop} (e : vs[o]? = some v) (k : K v) : AT vs o K := by rw [AT, e]; exact vK_any k
theorem AT.out {vs : List CVal} {o : Nat} {K : CVal → Prop} (k : AT vs o K) : ∃ v, vs[o]? = some v ∧ K v := by
 unfold AT at k
 split at k
 ·next v e => exact ⟨v, e, vK_out k⟩
 ·exact k.elim
def SM {α : Type} (x : Option α) (K : α → Prop) : Prop := match x with
 | some a => K a
 | none => SOMEN (none : Option α) K
theorem SM.out {α : Type} {x : Option α} {K : α → Prop} (k : SM x K) : ∃ a, x = some a ∧ K a := by
 cases x with
 | some a => exact ⟨a, rfl, k⟩
 | none => obtain ⟨e, _⟩ := k; simp at e
def intK (op : BinOp) (k : IntKind) (a b : Int) (K : CVal → Prop) : Prop := match op with
 | .add => ARN k (a + b) fun r => K (.int k r)
 | .sub => ARN k (a - b) fun r => K (.int k r)
 | .mul => ARN k (a * b) fun r => K (.int k r)
 | .quo => QUON k a b fun r => K (.int k r)
 | .rem => REMN a b fun r => K (.int k r)
 | .eql => EQN a b (K (.bool true)) (K (.bool false))
 | .neq => EQN a b (K (.bool false)) (K (.bool true))
 | .lss => LTN a b (K (.bool true)) (K (.bool false))
 | .leq => LTN b a (K (.bool false)) (K (.bool true))
 | .gtr => LTN b a (K (.bool true)) (K (.bool false))
 | .geq => LTN a b (K (.bool false)) (K (.bool true))
 | op => SOMEN (intBin op k a b) K
theorem intK_out {op : BinOp} {k : IntKind} {a b : Int} {K : CVal → Prop} (q : intK op k a b K) : ∃ r, intBin op k a b = some r ∧ K r := by
 cases op <;> simp only [intK] at q <;> (try (obtain ⟨e, q⟩ := q; exact ⟨_, e, q⟩)) <;> simp only [intBin]
 case add => exact ⟨_, rfl, q.w⟩
 case sub => exact ⟨_, rfl, q.w⟩
 case mul => exact ⟨_, rfl, q.w⟩
 case quo => exact ⟨_, if_neg q.n, q.w⟩
 case rem => exact ⟨_, if_neg q.n, q.w⟩
 case eql => by_cases e : a = b; exact ⟨_, rfl, by rw [beq_iff_eq.2 e]; exact q.t e⟩; exact ⟨_, rfl, by rw [beq_eq_false_iff_ne.2 e]; exact q.f e⟩
 case neq => by_cases e : a = b; exact ⟨_, rfl, by rw [bne, beq_iff_eq.2 e]; exact q.t e⟩; exact ⟨_, rfl, by rw [bne, beq_eq_false_iff_ne.2 e]; exact q.f e⟩
 case lss => by_cases e : a < b; exact ⟨_, rfl, by rw [decide_eq_true e]; exact q.t e⟩; exact ⟨_, rfl, by rw [decide_eq_false e]; exact q.f (by omega)⟩
 case leq => by_cases e : b < a; exact ⟨_, rfl, by rw [decide_eq_false (by omega)]; exact q.t e⟩; exact ⟨_, rfl, by rw [decide_eq_true (by omega)]; exact q.f (by omega)⟩
 case gtr => by_cases e : b < a; exact ⟨_, rfl, by rw [decide_eq_true (show a > b from e)]; exact q.t e⟩; exact ⟨_, rfl, by rw [decide_eq_false (show ¬ a > b from e)]; exact q.f (by omega)⟩
 case geq => by_cases e : a < b; exact ⟨_, rfl, by rw [decide_eq_false (by omega)]; exact q.t e⟩; exact ⟨_, rfl, by rw [decide_eq_true (by omega)]; exact q.f (by omega)⟩
def strK (op : BinOp) (a b : List UInt8) (K : CVal → Prop) : Prop := match op with
 | .eql => EQSN a b (K (.bool true)) (K (.bool false))
 | .neq => EQSN a b (K (.bool false)) (K (.bool true))
 | .add => DOESN (a.length + b.length ≤ 281474976710656) (K (.str (a ++ b)))
 | op => SOMEN (strBin op a b) K
theorem strK_out {op : BinOp} {a b : List UInt8} {K : CVal → Prop} (q : strK op a b K) : ∃ r, strBin op a b = some r ∧ K r := by
 cases op <;> simp only [strK] at q <;> (try (obtain ⟨e, q⟩ := q; exact ⟨_, e, q⟩)) <;> simp only [strBin]
 case add => obtain ⟨p, q⟩ := q; exact ⟨_, if_pos p, q⟩
 case eql => by_cases e : a = b; exact ⟨_, rfl, by rw [beq_iff_eq.2 e]; exact q.t e⟩; exact ⟨_, rfl, by rw [beq_eq_false_iff_ne.2 e]; exact q.f e⟩
 case neq => by_cases e : a = b; exact ⟨_, rfl, by rw [beq_iff_eq.2 e]; exact q.t e⟩; exact ⟨_, rfl, by rw [beq_eq_false_iff_ne.2 e]; exact q.f e⟩
def kindEq (k k' : IntKind) (A B : Prop) : Prop := match k, k' with
 | .i64, .i64 => A
 | .u8, .u8 => A
 | .i32, .i32 => A
 | k, k' => if k = k' then A else B
theorem kindEq_out {k k' : IntKind} {A B : Prop} (q : kindEq k k' A B) : (k = k' ∧ A) ∨ (k ≠ k' ∧ B) := by
 unfold kindEq at q
 split at q
 ·exact .inl ⟨rfl, q⟩
 ·exact .inl ⟨rfl, q⟩
 ·exact .inl ⟨rfl, q⟩
 ·split at q
  ·next h => exact .inl ⟨h, q⟩
  ·next h => exact .inr ⟨h, q⟩
def binK (op : BinOp) (u v : CVal) (K : CVal → Prop) : Prop := match u with
 | .int k a => match v with
  | .int k' b => (match op with
   | .shl => SOMEN (shiftBin .shl k a b) K
   | .shr => SOMEN (shiftBin .shr k a b) K
   | op => kindEq k k' (intK op k a b K) False)
  | _ => False
 | .str a => match v with
  | .str b => strK op a b K
  | _ => False
 | _ => False
theorem binK_out {op : BinOp} {u v : CVal} {K : CVal → Prop} (q : binK op u v K) : ∃ r, binC op u v = some r ∧ K r := by
 unfold binK at q
 split at q
 ·split at q
  ·next k a k' b =>
   split at q
   ·obtain ⟨e, q⟩ := q; exact ⟨_, e, q⟩
   ·obtain ⟨e, q⟩ := q; exact ⟨_, e, q⟩
   ·next h1 h2 =>
    rcases kindEq_out q with ⟨hk, q⟩ | ⟨_, q⟩
    ·obtain ⟨r, e, q⟩ := intK_out q
     refine ⟨r, ?_, q⟩
     cases op <;> first
      | exact (h1 rfl).elim
      | exact (h2 rfl).elim
      | (simp only [binC]; rw [if_pos hk]; exact e)
    ·exact q.elim
  ·exact q.elim
 ·split at q
  ·obtain ⟨r, e, q⟩ := strK_out q; exact ⟨r, e, q⟩
  ·exact q.elim
 ·exact q.elim
def eqK (tk : TK) (neg : Bool) (u v : CVal) (K : CVal → Prop) : Prop := match tk with
 | .bool => (match u with
  | .bool a => (match v with
   | .bool b => BC a (BC b (K (.bool (!neg))) (K (.bool neg))) (BC b (K (.bool neg)) (K (.bool (!neg))))
   | _ => False)
  | _ => False)
 | tk => SM (keq tk u v) fun b => BC b (K (.bool (!neg))) (K (.bool neg))
theorem eqK_out {tk : TK} {neg : Bool} {u v : CVal} {K : CVal → Prop} (q : eqK tk neg u v K) : ∃ b, keq tk u v = some b ∧ K (.bool (if neg then !b else b)) := by
 have fin : ∀ {b : Bool}, BC b (K (.bool (!neg))) (K (.bool neg)) → K (.bool (if neg then !b else b)) := by
  intro b h
  cases b <;> cases neg <;> exact h
 unfold eqK at q
 split at q
 ·split at q
  ·split at q
   ·next a _ b =>
    refine ⟨_, rfl, ?_⟩
    cases a <;> cases b <;> cases neg <;> exact q
   ·exact q.elim
  ·exact q.elim
 ·obtain ⟨b, e, q⟩ := SM.out q
  exact ⟨b, e, fin q⟩
def unK (op : UnOp) (u : CVal) (K : CVal → Prop) : Prop := match u with
 | .bool b => (match op with
  | .not => BC b (K (.bool false)) (K (.bool true))
  | _ => False)
 | .int k n => (match op with
  | .neg => ARN k (0 - n) fun r => K (.int k r)
  | op => SOMEN (unC op (.int k n)) K)
 | _ => False
theorem unK_out {op : UnOp} {u : CVal} {K : CVal → Prop} (q : unK op u K) : ∃ r, unC op u = some r ∧ K r := by
 unfold unK at q
 split at q
 ·split at q
  ·next b _ => exact ⟨.bool (!b), rfl, by cases b <;> exact q⟩
  ·exact q.elim
 ·split at q
  ·exact ⟨_, rfl, q.w⟩
  ·obtain ⟨e, q⟩ := q; exact ⟨_, e, q⟩
 ·exact q.elim
def mapOn (N : Nat) (ρ : Env) : List CX → List CVal
 | [] => []
 | x :: xs => x.on N ρ :: mapOn N ρ xs
theorem mapOn_eq (N : Nat) (ρ : Env) : ∀ xs : List CX, xs.map (·.ev (envL N ρ)) = mapOn N ρ xs
 | [] => rfl
 | x :: xs => by rw [List.map_cons, mapOn, mapOn_eq N ρ xs, CX.on_ev]
noncomputable def argsK (vs : List CVal) : (List CVal → Prop) → Prop :=
 List.rec (motive := fun _ => (List CVal → Prop) → Prop) (fun K => K []) (fun v _ ih K => vK v fun u => ih fun us => K (u :: us)) vs
theorem argsK_out : ∀ {vs : List CVal} {K : List CVal → Prop}, argsK vs K → K vs
 | [], _, q => q
 | v :: vs, K, q => by
  have q := vK_out (show vK v fun u => argsK vs fun us => K (u :: us) from q)
  exact argsK_out (K := fun us => K (v :: us)) q
def lenS (v : CVal) : (Int → Prop) → Prop := match v with
 | .slice _ _ l _ => fun K => K l
 | .nilSlice => fun K => K 0
 | _ => fun _ => False
theorem lenS_out {v : CVal} {K : Int → Prop} (q : lenS v K) : (∃ i o l c, v = .slice i o l c ∧ K l) ∨ (v = .nilSlice ∧ K 0) := by
 unfold lenS at q
 split at q
 ·exact .inl ⟨_, _, _, _, rfl, q⟩
 ·exact .inr ⟨rfl, q⟩
 ·exact q.elim
def idxS (sz : Nat) (v : CVal) : Int → (Nat → Nat → Prop) → Prop := match v with
 | .slice b o l _ => fun i K => DOESN (0 ≤ i ∧ i < l) (K b (o + i.toNat * sz))
 | _ => fun _ _ => False
theorem idxS_out {sz : Nat} {v : CVal} {i : Int} {K : Nat → Nat → Prop} (q : idxS sz v i K) : ∃ b o l c, v = .slice b o l c ∧ (0 ≤ i ∧ i < l) ∧ K b (o + i.toNat * sz) := by
 unfold idxS at q
 split at q
 ·obtain ⟨p, q⟩ := q; exact ⟨_, _, _, _, rfl, p, q⟩
 ·exact q.elim
def slcS (sz : Nat) (v : CVal) (lo hi : Option CVal) : (CVal → Prop) → Prop := match v with
 | .slice i o len cap => fun K => SOMEN (boundsC len cap lo hi none) fun r => K (.slice i (o + r.1 * sz) (r.2.1 - r.1) (r.2.2 - r.1))
 | .nilSlice => fun K => SOMEN (boundsC 0 0 lo hi none) fun _ => K .nilSlice
 | _ => fun _ => False
theorem slcS_out {sz : Nat} {v : CVal} {lo hi : Option CVal} {K : CVal → Prop} (q : slcS sz v lo hi K) : (∃ i o len cap r, v = .slice i o len cap ∧ boundsC len cap lo hi none = some r ∧ K (.slice i (o + r.1 * sz) (r.2.1 - r.1) (r.2.2 - r.1))) ∨ ∃ r, v = .nilSlice ∧ boundsC 0 0 lo hi none = some r ∧ K .nilSlice := by
 cases v <;> first
  | exact q.elim
  | (obtain ⟨e, q⟩ := q; exact .inl ⟨_, _, _, _, _, rfl, e, q⟩)
  | (obtain ⟨e, q⟩ := q; exact .inr ⟨_, rfl, e, q⟩)
def oneS (v : CVal) : Prop → Prop := match v with
 | .undef => fun _ => False
 | .agg _ => fun _ => False
 | .tuple _ => fun _ => False
 | .bool _ => fun A => A
 | .int _ _ => fun A => A
 | .str _ => fun A => A
 | .nilPtr => fun A => A
 | .ptr _ _ => fun A => A
 | .nilSlice => fun A => A
 | .slice _ _ _ _ => fun A => A
 | .nilMap => fun A => A
 | .map _ => fun A => A
 | .nilFunc => fun A => A
 | .func _ _ _ => fun A => A
 | .yield _ => fun A => A
 | .nilIface => fun A => A
 | .iface _ _ => fun A => A
theorem oneS_out {v : CVal} {A : Prop} (q : oneS v A) : v.one = true ∧ A := by
 cases v <;> first
  | exact ⟨rfl, q⟩
  | exact q.elim
theorem oneS_of {v : CVal} {A : Prop} (h : v.one = true) (k : A) : oneS v A := by
 cases v <;> first
  | exact k
  | simp [CVal.one] at h
noncomputable def onesK (cs : List CVal) : Prop → Prop :=
 List.rec (motive := fun _ => Prop → Prop) (fun A => A) (fun c _ ih A => oneS c (ih A)) cs
theorem onesK_out : ∀ {cs : List CVal} {A : Prop}, onesK cs A → cs.all CVal.one = true ∧ A
 | [], _, q => ⟨rfl, q⟩
 | c :: cs, A, q => by
  obtain ⟨h, q⟩ := oneS_out (show oneS c (onesK cs A) from q)
  obtain ⟨h2, q⟩ := onesK_out q
  exact ⟨by rw [List.all_cons, h, h2]; rfl, q⟩
noncomputable def celS (v : CVal) : (List CVal → Prop) → Prop := match v with
 | .agg cs => fun K => onesK cs (K cs)
 | .undef => fun _ => False
 | .tuple _ => fun _ => False
 | .bool b => fun K => K [.bool b]
 | .int k n => fun K => K [.int k n]
 | .str s => fun K => K [.str s]
 | .nilPtr => fun K => K [.nilPtr]
 | .ptr i o => fun K => K [.ptr i o]
 | .nilSlice => fun K => K [.nilSlice]
 | .slice i o l c => fun K => K [.slice i o l c]
 | .nilMap => fun K => K [.nilMap]
 | .map i => fun K => K [.map i]
 | .nilFunc => fun K => K [.nilFunc]
 | .func f p q => fun K => K [.func f p q]
 | .yield i => fun K => K [.yield i]
 | .nilIface => fun K => K [.nilIface]
 | .iface t v => fun K => K [.iface t v]
theorem celS_out {v : CVal} {K : List CVal → Prop} (q : celS v K) : ∃ us, v.cellsOf = some us ∧ K us := by
 cases v <;> first
  | exact q.elim
  | exact ⟨_, rfl, q⟩
  | (obtain ⟨p, q⟩ := onesK_out q; exact ⟨_, by simp only [CVal.cellsOf]; rw [if_pos p], q⟩)
theorem celS_one {v : CVal} {K : List CVal → Prop} (h : v.one = true) (k : K [v]) : celS v K := by
 cases v <;> first
  | exact k
  | simp [CVal.one] at h
noncomputable def setK (u : CVal) (cs : List CVal) : Nat → (List CVal → Prop) → Prop :=
 List.rec (motive := fun _ => Nat → (List CVal → Prop) → Prop) (fun _ _ => False) (fun c cs ih o K => match o with
  | 0 => K (u :: cs)
  | o + 1 => ih o fun l => K (c :: l)) cs
theorem setK_out {u : CVal} : ∀ {cs : List CVal} {o : Nat} {K : List CVal → Prop}, setK u cs o K → o < cs.length ∧ K (cs.set o u)
 | [], _, _, q => False.elim q
 | c :: cs, 0, K, q => ⟨Nat.succ_pos _, q⟩
 | c :: cs, o + 1, K, q => by
  have q : setK u cs o fun l => K (c :: l) := q
  have := setK_out q
  exact ⟨Nat.succ_lt_succ this.1, this.2⟩
noncomputable def putK (us : List CVal) : Nat → List CVal → (List CVal → Prop) → Prop :=
 List.rec (motive := fun _ => Nat → List CVal → (List CVal → Prop) → Prop) (fun _ cs K => K cs) (fun u _ ih o cs K => setK u cs o fun cs => ih (o + 1) cs K) us
theorem putK_out : ∀ {us cs : List CVal} {o : Nat} {K : List CVal → Prop}, o ≤ cs.length → putK us o cs K → o + us.length ≤ cs.length ∧ K (putCells cs o us)
 | [], _, _, _, h, q => ⟨h, q⟩
 | u :: us, cs, o, K, h, q => by
  have q : setK u cs o fun cs => putK us (o + 1) cs K := q
  obtain ⟨h1, q⟩ := setK_out q
  have h2 : (cs.set o u).length = cs.length := List.length_set
  obtain ⟨h3, q⟩ := putK_out (by omega) q
  exact ⟨by rw [List.length_cons]; omega, q⟩
noncomputable def fill1 (us : List CVal) (off n : Nat) (cs : List CVal) (ih : List CVal → Prop) : Prop := match Nat.beq us.length n with
 | true => (match us with
  | [] => (match Nat.ble off cs.length with
   | true => ih cs
   | false => False)
  | u :: us => putK (u :: us) off cs ih)
 | false => False
theorem fill1_out {us : List CVal} {off n : Nat} {cs : List CVal} {ih : List CVal → Prop} (q : fill1 us off n cs ih) : (us.length = n ∧ off + n ≤ cs.length) ∧ ih (putCells cs off us) := by
 unfold fill1 at q
 split at q
 ·next hb =>
  have h3 := Nat.eq_of_beq_eq_true hb
  cases us with
  | nil =>
   simp only at q
   split at q
   ·next hl => exact ⟨⟨h3, by rw [← h3]; exact Nat.le_of_ble_eq_true hl⟩, q⟩
   ·exact q.elim
  | cons u us =>
   have hu' : off ≤ cs.length := Nat.le_of_lt (setK_out (show setK u cs off fun cs => putK us (off + 1) cs _ from q)).1
   obtain ⟨h1, q⟩ := putK_out hu' q
   exact ⟨⟨h3, by omega⟩, q⟩
 ·exact q.elim
noncomputable def fillK (ps : List (Nat × Nat × CVal)) : List CVal → (List CVal → Prop) → Prop :=
 List.rec (motive := fun _ => List CVal → (List CVal → Prop) → Prop) (fun cs K => K cs) (fun p _ ih cs K => celS p.2.2 fun us => fill1 us p.1 p.2.1 cs fun cs => ih cs K) ps
theorem fillK_out : ∀ {ps : List (Nat × Nat × CVal)} {cs : List CVal} {K : List CVal → Prop}, fillK ps cs K → ∃ ds, fillC cs ps = some ds ∧ K ds
 | [], cs, K, q => ⟨cs, rfl, q⟩
 | (off, n, v) :: ps, cs, K, q => by
  have q : celS v fun us => fill1 us off n cs fun cs => fillK ps cs K := q
  obtain ⟨us, e, q⟩ := celS_out q
  obtain ⟨hc, q⟩ := fill1_out q
  obtain ⟨ds, e2, q⟩ := fillK_out q
  refine ⟨ds, ?_, q⟩
  simp only [fillC, e]
  rw [if_pos hc]
  exact e2
noncomputable def opK (T : Tab) (N : Nat) (op : COp) (ρ : Env) (h : Heap) (K : CVal → Heap → Prop) : Prop := match op with
 | .move x => vK (x.on N ρ) fun v => K v h
 | .pick c x y => (match c.on N ρ with
  | .bool b => BC b (vK (x.on N ρ) fun v => K v h) (vK (y.on N ρ) fun v => K v h)
  | _ => False)
 | .bin op x y => binK op (x.on N ρ) (y.on N ρ) fun v => K v h
 | .eq tk neg x y => eqK tk neg (x.on N ρ) (y.on N ρ) fun v => K v h
 | .un op x => unK op (x.on N ρ) fun v => K v h
 | .conv k x => (match x.on N ρ with
  | .int _ n => ARN k n fun r => K (.int k r) h
  | _ => False)
 | .new zero => NEWN h fun n => K (.ptr n 0) (h.new (.cells zero true none))
 | .newMap => NEWN h fun n => K (.map n) (h.new (.map [] true (some ([], 0))))
 | .box x => celS (x.on N ρ) fun us => argsK us fun us => NEWN h fun n => K (.ptr n 0) (h.new (.cells us true none))
 | .build zero parts => fillK (parts.map fun p => (p.1, p.2.1, p.2.2.on N ρ)) zero fun cs => argsK cs fun cs => K (.agg cs) h
 | .buildSlice zero len parts => fillK (parts.map fun p => (p.1, p.2.1, p.2.2.on N ρ)) (repC len zero) fun cs => argsK cs fun cs => onesK cs (NEWN h fun n => K (.slice n 0 len len) (h.new (.cells cs true none)))
 | .load false _ x => (match x.on N ρ with
  | .ptr i o => GETN h i fun vs _ _ => AT vs o fun v => K v h
  | _ => False)
 | .load true n x => (match x.on N ρ with
  | .ptr i o => GETN h i fun vs _ _ => argsK ((vs.drop o).take n) fun us => DOESN (us.length = n) (K (.agg us) h)
  | _ => False)
 | .store n p x => (match p.on N ρ with
  | .ptr i o => celS (x.on N ρ) fun us => argsK us fun us => SETN h i o n us fun h' => K .un h'
  | _ => False)
 | .nilCheck x => (match x.on N ρ with
  | .ptr i o => K (.ptr i o) h
  | _ => False)
 | .func f first cap => argsK (mapOn N ρ first) fun p => argsK (mapOn N ρ cap) fun q => K (.func f p q) h
 | .fieldAddr off x => (match x.on N ρ with
  | .ptr i o => K (.ptr i (o + off)) h
  | _ => False)
 | .part agg off n x => (match x.on N ρ with
  | .agg cs => SM (partC agg off n cs) fun v => vK v fun v => K v h
  | _ => False)
 | .indexAddr sz x y => (match y.on N ρ with
  | .int _ i => idxS sz (x.on N ρ) i fun b o => K (.ptr b o) h
  | _ => False)
 | .indexAddrArr len sz x y => (match x.on N ρ with
  | .ptr b o => (match y.on N ρ with
   | .int _ i => DOESN (0 ≤ i ∧ i < len) (K (.ptr b (o + i.toNat * sz)) h)
   | _ => False)
  | _ => False)
 | .indexStr x y => (match x.on N ρ with
  | .str s => (match y.on N ρ with
   | .int _ i => DOESN (0 ≤ i) (SOMEN s[i.toNat]? fun b => K (.int .u8 b.toNat) h)
   | _ => False)
  | _ => False)
 | .len .slice x => lenS (x.on N ρ) fun l => K (.int .i64 l) h
 | .len .str x => (match x.on N ρ with
  | .str s => K (.int .i64 s.length) h
  | _ => False)
 | .len .map x => (match x.on N ρ with
  | .map i => GETM h i fun es _ _ => K (.int .i64 es.length) h
  | .nilMap => K (.int .i64 0) h
  | _ => False)
 | .extract x i => (match x.on N ρ with
  | .tuple vs => AT vs i fun v => K v h
  | _ => False)
 | .makeSlice zero bytes l c => (match l.on N ρ with
  | .int _ a => (match c.on N ρ with
   | .int _ b => DOESN (0 ≤ a ∧ a ≤ b ∧ b * bytes ≤ 1099511627776 ∧ b ≤ 1099511627776) (NEWN h fun n => K (.slice n 0 a.toNat b.toNat) (h.new (.cells (repC b.toNat zero) true none)))
   | _ => False)
  | _ => False)
 | .append sz bytes s x => SOMEN (appendC h sz bytes (s.on N ρ) (x.on N ρ)) fun r => K r.1 r.2
 | .maxmin isMax x [y] => (match x.on N ρ with
  | .int k a => (match y.on N ρ with
   | .int k' b => kindEq k k' (K (.int k (if isMax then max a b else min a b)) h) False
   | _ => False)
  | _ => False)
 | .iface t x => K (.iface t (x.on N ρ)) h
 | .slice sz x lo hi none => slcS sz (x.on N ρ) (lo.map (CX.on N ρ)) (hi.map (CX.on N ρ)) fun v => K v h
 | .sliceStr x lo hi => (match x.on N ρ with
  | .str s => SOMEN (boundsC s.length s.length (lo.map (CX.on N ρ)) (hi.map (CX.on N ρ)) none) fun r => K (.str ((s.drop r.1).take (r.2.1 - r.1))) h
  | _ => False)
 | .lookup kt zero ok m x => DOESN (keyok kt (x.on N ρ) = true) (SOMEN (mapC h (m.on N ρ)) fun es => vK (x.on N ρ) fun u => LKN kt zero ok u es fun v => K v h)
 | .mapUpdate kt m x y => (match m.on N ρ with
  | .map i => DOESN (keyok kt (x.on N ρ) = true) (GETM h i fun es wr st => DOESN (wr = true) (vK (x.on N ρ) fun u => vK (y.on N ρ) fun z => UPN kt i u z es st h fun h' => K .un h'))
  | _ => False)
 | .call f args => (match f.on N ρ with
  | .func g first cap => argsK (first ++ mapOn N ρ args ++ cap) fun as => CALLN T g as h K
  | .yield i => argsK (mapOn N ρ args) fun as => ROUNDN T i as h K
  | _ => False)
 | op => OPN N op ρ h K
theorem opK_out {T : Tab} {N : Nat} {op : COp} {ρ : Env} {h : Heap} {K : CVal → Heap → Prop} (q : opK T N op ρ h K) :
  (∃ v h', cop op (envL N ρ) h = some (.val v, h') ∧ K v h') ∨ (∃ g as, cop op (envL N ρ) h = some (.enter g as, h) ∧ Cal T g as h K) ∨ (∃ i as, cop op (envL N ρ) h = some (.round i as, h) ∧ CalR T i as h K) := by
 unfold opK at q
 split at q
 case h_1 x => exact .inl ⟨_, _, by simp only [cop, CX.on_ev], vK_out q⟩
 case h_2 c x y =>
  split at q
  ·next b hb =>
   cases b
   ·have q : vK (y.on N ρ) fun v => K v h := q
    exact .inl ⟨_, _, by simp only [cop, CX.on_ev, hb]; rfl, vK_out q⟩
   ·have q : vK (x.on N ρ) fun v => K v h := q
    exact .inl ⟨_, _, by simp only [cop, CX.on_ev, hb]; rfl, vK_out q⟩
  ·exact q.elim
 case h_3 op x y => obtain ⟨r, e, q⟩ := binK_out q; exact .inl ⟨_, _, by simp only [cop, CX.on_ev, e], q⟩
 case h_4 tk neg x y => obtain ⟨r, e, q⟩ := eqK_out q; exact .inl ⟨_, _, by simp only [cop, CX.on_ev, e], q⟩
 case h_5 op x => obtain ⟨r, e, q⟩ := unK_out q; exact .inl ⟨_, _, by simp only [cop, CX.on_ev, e], q⟩
 case h_6 k x =>
  split at q
  ·next k' n hx => exact .inl ⟨_, _, by simp only [cop, CX.on_ev, hx], q.w⟩
  ·exact q.elim
 case h_7 zero => obtain ⟨e, q⟩ := q; subst e; exact .inl ⟨_, _, by simp only [cop], q⟩
 case h_8 => obtain ⟨e, q⟩ := q; subst e; exact .inl ⟨_, _, by simp only [cop], q⟩
 case h_9 x =>
  obtain ⟨us, e, q⟩ := celS_out q
  obtain ⟨e', q⟩ := argsK_out q; subst e'
  exact .inl ⟨_, _, by simp only [cop, CX.on_ev, e], q⟩
 case h_10 zero parts =>
  obtain ⟨us, e, q⟩ := fillK_out q
  exact .inl ⟨_, _, by simp only [cop, CX.on_ev, e], argsK_out q⟩
 case h_11 zero len parts =>
  obtain ⟨us, e, q⟩ := fillK_out q
  obtain ⟨p, e', q⟩ := onesK_out (argsK_out q); subst e'
  exact .inl ⟨_, _, by simp only [cop, CX.on_ev, e]; rw [if_pos p], q⟩
 case h_12 n x =>
  split at q
  ·next i o hx =>
   obtain ⟨g, q⟩ := q
   obtain ⟨v, e, q⟩ := AT.out q
   exact .inl ⟨_, _, by simp only [cop, CX.on_ev, hx, g, e, Bool.false_eq_true, if_false], q⟩
  ·exact q.elim
 case h_13 n x =>
  split at q
  ·next i o hx =>
   obtain ⟨g, q⟩ := q
   obtain ⟨p, q⟩ := argsK_out q
   exact .inl ⟨_, _, by simp only [cop, CX.on_ev, hx, g, p, if_true], q⟩
  ·exact q.elim
 case h_14 n p x =>
  split at q
  ·next i o hx =>
   obtain ⟨us, e, q⟩ := celS_out q
   obtain ⟨g, hl, ho, q⟩ := argsK_out q
   exact .inl ⟨_, _, by simp only [cop, CX.on_ev, hx, e, g]; rw [if_pos ⟨hl, ho⟩], q⟩
  ·exact q.elim
 case h_15 x =>
  split at q
  ·next i o hx => exact .inl ⟨_, _, by simp only [cop, CX.on_ev, hx], q⟩
  ·exact q.elim
 case h_16 f first cap => exact .inl ⟨_, _, by simp only [cop, mapOn_eq], argsK_out (argsK_out q)⟩
 case h_17 off x =>
  split at q
  ·next i o hx => exact .inl ⟨_, _, by simp only [cop, CX.on_ev, hx], q⟩
  ·exact q.elim
 case h_18 agg off n x =>
  split at q
  ·next cs hx =>
   obtain ⟨v, e, q⟩ := SM.out q
   exact .inl ⟨_, _, by simp only [cop, CX.on_ev, hx, e], vK_out q⟩
  ·exact q.elim
 case h_19 sz x y =>
  split at q
  ·next k i hy =>
   obtain ⟨b, o, l, c, hx, p, q⟩ := idxS_out q
   exact .inl ⟨_, _, by simp only [cop, CX.on_ev, hx, hy, asNat]; rw [if_pos p.1]; simp only []; rw [if_pos (by omega)], q⟩
  ·exact q.elim
 case h_20 len sz x y =>
  split at q
  ·next b o hx =>
   split at q
   ·next k i hy =>
    obtain ⟨p, q⟩ := q
    exact .inl ⟨_, _, by simp only [cop, CX.on_ev, hx, hy, asNat]; rw [if_pos p.1]; simp only []; rw [if_pos (by omega)], q⟩
   ·exact q.elim
  ·exact q.elim
 case h_21 x y =>
  split at q
  ·next s hx =>
   split at q
   ·next k i hy =>
    obtain ⟨p, e, q⟩ := q
    exact .inl ⟨_, _, by simp only [cop, CX.on_ev, hx, hy, asNat]; rw [if_pos p]; simp only [e], q⟩
   ·exact q.elim
  ·exact q.elim
 case h_22 x =>
  rcases lenS_out q with ⟨i, o, l, c, hx, q⟩ | ⟨hx, q⟩
  ·exact .inl ⟨_, _, by simp only [cop, CX.on_ev, hx], q⟩
  ·exact .inl ⟨_, _, by simp only [cop, CX.on_ev, hx], q⟩
 case h_23 x =>
  split at q
  ·next hx => exact .inl ⟨_, _, by simp only [cop, CX.on_ev, hx], q⟩
  ·exact q.elim
 case h_24 x =>
  split at q
  ·next hx => obtain ⟨g, q⟩ := q; exact .inl ⟨_, _, by simp only [cop, CX.on_ev, hx, g], q⟩
  ·next hx => exact .inl ⟨_, _, by simp only [cop, CX.on_ev, hx], q⟩
  ·exact q.elim
 case h_25 x i =>
  split at q
  ·next vs hx =>
   obtain ⟨v, e, q⟩ := AT.out q
   exact .inl ⟨_, _, by simp only [cop, CX.on_ev, hx, e], q⟩
  ·exact q.elim
 case h_26 zero bytes l c =>
  split at q
  ·next k a hl =>
   split at q
   ·next k' b hc =>
    obtain ⟨p, e, q⟩ := q
    subst e
    refine .inl ⟨_, _, ?_, q⟩
    have h1 : 0 ≤ b := by omega
    have h2 : b.toNat * bytes ≤ 1099511627776 := by
     have e2 : ((b.toNat * bytes : Nat) : Int) ≤ ((1099511627776 : Nat) : Int) := by
      rw [Int.natCast_mul, Int.toNat_of_nonneg h1]; exact p.2.2.1
     exact Int.ofNat_le.mp e2
    simp only [cop, CX.on_ev, hl, hc, asNat]
    rw [if_pos p.1, if_pos h1]
    simp only
    rw [if_pos ⟨by omega, h2, by omega⟩]
   ·exact q.elim
  ·exact q.elim
 case h_27 sz bytes s x =>
  obtain ⟨e, q⟩ := q
  exact .inl ⟨_, _, by simp only [cop, CX.on_ev, e], q⟩
 case h_28 isMax x y =>
  split at q
  ·next k a hx =>
   split at q
   ·next k' b hy =>
    rcases kindEq_out q with ⟨hk, q'⟩ | ⟨_, q'⟩
    ·subst hk
     have e : foldC isMax (.int k a) [.int k b] = some (.int k (if isMax then max a b else min a b)) := by
      simp only [foldC, maxC, if_true]
      congr 2
      cases isMax <;> simp <;> split <;> omega
     exact .inl ⟨_, _, by simp only [cop, CX.on_ev, List.map, hx, hy, e], q'⟩
    ·exact q'.elim
   ·exact q.elim
  ·exact q.elim
 case h_29 t x => exact .inl ⟨_, _, by simp only [cop, CX.on_ev], q⟩
 case h_30 sz x lo hi =>
  rcases slcS_out q with @⟨i, o, len, cap, r, hx, e, q⟩ | ⟨r, hx, e, q⟩
  ·exact .inl ⟨_, _, by simp only [cop, CX.on_ev, hx]; simp only [Option.isSome, Bool.false_eq_true, false_and, if_false, Option.map_none, e], q⟩
  ·exact .inl ⟨_, _, by simp only [cop, CX.on_ev, hx, Option.map_none, e], q⟩
 case h_31 x lo hi =>
  split at q
  ·next s hx =>
   obtain ⟨e, q⟩ := q
   exact .inl ⟨_, _, by simp only [cop, CX.on_ev, hx, e], q⟩
  ·exact q.elim
 case h_32 kt zero ok m x =>
  obtain ⟨p, @⟨es, e1, q⟩⟩ := q
  obtain @⟨r, e2, q⟩ := vK_out q
  refine .inl ⟨_, _, ?_, q⟩
  simp only [cop, CX.on_ev, p, e1, e2]
  cases r <;> simp
 case h_33 kt m x y =>
  split at q
  ·next i hm =>
   obtain ⟨p, @⟨es, wr, st, g, rfl, q⟩⟩ := q
   obtain @⟨r, e, q⟩ := vK_out (vK_out q)
   refine .inl ⟨_, _, ?_, q⟩
   simp only [cop, CX.on_ev, hm, p, g, e]
   cases r <;> simp
  ·exact q.elim
 case h_34 f args =>
  split at q
  ·next g first cap hf =>
   obtain ⟨q⟩ := argsK_out q
   exact .inr (.inl ⟨_, _, by simp only [cop, mapOn_eq]; simp only [CX.on_ev, hf], q⟩)
  ·next i hf =>
   obtain @⟨_, _, _, _, _, _, _, g, hl, q⟩ := argsK_out q
   have hl' : args.length = (mapOn N ρ args).length := by rw [← mapOn_eq, List.length_map]
   exact .inr (.inr ⟨_, _, by simp only [cop, mapOn_eq]; simp only [CX.on_ev, hf, g, if_pos (hl'.trans hl)], q⟩)
  ·exact q.elim
 case h_35 =>
  obtain ⟨e, q⟩ := q
  exact .inl ⟨_, _, e, q⟩
def wO1 (T : Tab) (N : Nat) (o : COper) (ih : Env → DS → Heap → (Env → DS → Heap → Prop) → Prop) (ρ : Env) (ds : DS) (h : Heap) (K : Env → DS → Heap → Prop) : Prop := match o.guard with
  | none => (match o.op with
   | .defer f args => (match f.on N ρ with
    | .func g first cap => argsK (first ++ mapOn N ρ args ++ cap) fun as => DOESN (isMark (g, as) = none) (ih (ρ.putO o.dst .un) ((g, as) :: ds) h K)
    | _ => False)
   | op => opK T N op ρ h fun v h' => ih (ρ.putO o.dst v) ds h' K)
  | some g => (match (CX.t g.1).on N ρ with
   | .bool b => BC b
     (match g.2 with
      | true => opK T N o.op ρ h fun v h' => ih (ρ.putO o.dst v) ds h' K
      | false => ih (ρ.putO o.dst .un) ds h K)
     (match g.2 with
      | true => ih (ρ.putO o.dst .un) ds h K
      | false => opK T N o.op ρ h fun v h' => ih (ρ.putO o.dst v) ds h' K)
   | .tuple [] => ih (ρ.putO o.dst .un) ds h K
   | _ => False)
noncomputable def wO (T : Tab) (N : Nat) (os : List COper) : Env → DS → Heap → (Env → DS → Heap → Prop) → Prop :=
 List.rec (motive := fun _ => Env → DS → Heap → (Env → DS → Heap → Prop) → Prop) (fun ρ ds h K => K ρ ds h) (fun o _ ih => wO1 T N o ih) os
theorem wO_nil {T : Tab} {N : Nat} {ρ : Env} {ds : DS} {h : Heap} {K : Env → DS → Heap → Prop} : wO T N [] ρ ds h K = K ρ ds h := rfl
theorem wO_cons {T : Tab} {N : Nat} {o : COper} {os : List COper} {ρ : Env} {ds : DS} {h : Heap} {K : Env → DS → Heap → Prop} : wO T N (o :: os) ρ ds h K = wO1 T N o (wO T N os) ρ ds h K := rfl
theorem wO_ok {T : Tab} {N : Nat} {K : Env → DS → Heap → Prop} : ∀ {os : List COper} {ρ : Env} {ds : DS} {h : Heap}, wO T N os ρ ds h K → WPO T os ⟨envL N ρ, ds⟩ h fun a h' => ∃ ρ' ds', a = ⟨envL N ρ', ds'⟩ ∧ K ρ' ds' h'
 | [], ρ, ds, h, q => WPO.nil ⟨ρ, ds, rfl, q⟩
 | ⟨d, op, g⟩ :: os, ρ, ds, h, q => by
  have run : ∀ {g : Option (Nat × Bool)}, wantC (envL N ρ) g = some true → opK T N op ρ h (fun v h' => wO T N os (ρ.putO d v) ds h' K) → WPO T (⟨d, op, g⟩ :: os) ⟨envL N ρ, ds⟩ h fun a h' => ∃ ρ' ds', a = ⟨envL N ρ', ds'⟩ ∧ K ρ' ds' h' := by
   intro g hg q
   rcases opK_out q with ⟨v, h', e, q⟩ | ⟨f, as, e, q⟩ | ⟨i, as, e, q⟩
   ·refine WPO.op (v := v) (ds := []) (h' := h') (by simp only [evOp1, hg, e]) ?_
    rw [done_env]; exact wO_ok q
   ·refine WPO.call hg e (q.mono fun v h' q => ?_)
    rw [done_env]; exact wO_ok q
   ·refine WPO.round hg e (q.mono fun v h' q => ?_)
    rw [done_env]; exact wO_ok q
  have past : ∀ {t : Nat} {w b : Bool}, (envL N ρ).getD t .undef = .bool b → (b == w) = false → wO T N os (ρ.putO d .un) ds h K → WPO T (⟨d, op, some (t, w)⟩ :: os) ⟨envL N ρ, ds⟩ h fun a h' => ∃ ρ' ds', a = ⟨envL N ρ', ds'⟩ ∧ K ρ' ds' h' := by
   intro t w b hv hb q
   refine WPO.op (v := .un) (ds := []) (h' := h) (by simp only [evOp1, wantC, hv, hb]) ?_
   rw [done_env]; exact wO_ok q
  simp only [wO_cons, wO1] at q
  split at q
  ·split at q
   ·next f args =>
    split at q
    ·next g' first cap hf =>
     obtain ⟨hm, q⟩ := argsK_out q
     refine WPO.op (v := .un) (ds := [(g', first ++ mapOn N ρ args ++ cap)]) (h' := h) (by simp only [evOp1, wantC, cop, mapOn_eq]; simp only [CX.on_ev, hf, hm]) ?_
     rw [done_env]; exact wO_ok q
    ·exact q.elim
   ·exact run rfl q
  ·next g' =>
   obtain ⟨t, w⟩ := g'
   split at q
   ·next b hb =>
    have hv : (envL N ρ).getD t .undef = .bool b := (CX.on_ev N ρ (.t t)).trans hb
    cases b <;> cases w
    ·exact run (by simp only [wantC, hv, beq_self_eq_true]) q
    ·exact past hv rfl q
    ·exact past hv rfl q
    ·exact run (by simp only [wantC, hv, beq_self_eq_true]) q
   ·next hb =>
    have hv : (envL N ρ).getD t .undef = .tuple [] := (CX.on_ev N ρ (.t t)).trans hb
    refine WPO.op (v := .un) (ds := []) (h' := h) (by simp only [evOp1, wantC, hv]) ?_
    rw [done_env]; exact wO_ok q
   ·exact q.elim
abbrev QT := CExit → Env → DS → Heap → Prop
def condK (v : CVal) (A B : Prop) : Prop := match v with
 | .bool b => BC b A B
 | _ => False
def seqQ (k : Env → DS → Heap → QT → Prop) (Q : QT) : QT := fun e ρ ds h => match e with
 | .normal => k ρ ds h Q
 | .exit id => Q (.exit id) ρ ds h
 | .ret => Q .ret ρ ds h
 | .goto l => Q (.goto l) ρ ds h
def blkQ (id : Nat) (Q : QT) : QT := fun e ρ ds h => match e with
 | .normal => Q .normal ρ ds h
 | .exit id' => (match Nat.beq id' id with
  | true => Q .normal ρ ds h
  | false => Q (.exit id') ρ ds h)
 | .ret => Q .ret ρ ds h
 | .goto l => Q (.goto l) ρ ds h
noncomputable def wC (T : Tab) (N : Nat) (c : CCode) : Env → DS → Heap → QT → Prop :=
 CCode.rec (motive_1 := fun _ => Env → DS → Heap → QT → Prop) (motive_2 := fun _ => PUnit) (motive_3 := fun _ => PUnit)
  (fun ρ ds h Q => Q .normal ρ ds h)
  (fun os ρ ds h Q => wO T N os ρ ds h (Q .normal))
  (fun its n ρ ds h Q => CODEN T N (.draw its n) ρ ds h Q)
  (fun _ _ kx ky ρ ds h Q => kx ρ ds h (seqQ ky Q))
  (fun c _ _ kx ky ρ ds h Q => condK (c.on N ρ) (kx ρ ds h Q) (ky ρ ds h Q))
  (fun id _ k ρ ds h Q => k ρ ds h (blkQ id Q))
  (fun x _ ρ ds h Q => CODEN T N (.loop x) ρ ds h Q)
  (fun id ρ ds h Q => Q (.exit id) ρ ds h)
  (fun ρ ds h Q => Q .ret ρ ds h)
  (fun ts ρ ds h Q => Q .normal (ρ.wipe ts) ds h)
  (fun l ρ ds h Q => Q (.goto l) ρ ds h)
  (fun b rs _ _ ρ ds h Q => CODEN T N (.scope b rs) ρ ds h Q)
  (fun fn k np f ρ ds h Q => CODEN T N (.rangeF fn k np f) ρ ds h Q)
  ⟨⟩ (fun _ _ _ _ => ⟨⟩) (fun _ _ _ => ⟨⟩) c
def frQ (N : Nat) (Q : QT) : CExit → Fr → Heap → Prop := fun e a h' => ∃ ρ' ds', a = ⟨envL N ρ', ds'⟩ ∧ Q e ρ' ds' h'
theorem wC_ok {T : Tab} {N : Nat} : ∀ (c : CCode) {ρ : Env} {ds : DS} {h : Heap} {Q : QT}, wC T N c ρ ds h Q → WP T c ⟨envL N ρ, ds⟩ h (frQ N Q)
 | .skip, ρ, ds, _, _, q => WP.skip ⟨ρ, ds, rfl, q⟩
 | .exit _, ρ, ds, _, _, q => WP.exit ⟨ρ, ds, rfl, q⟩
 | .ret, ρ, ds, _, _, q => WP.ret ⟨ρ, ds, rfl, q⟩
 | .goto _, ρ, ds, _, _, q => WP.goto ⟨ρ, ds, rfl, q⟩
 | .wipe ts, ρ, ds, _, _, q => WP.wipe ⟨ρ.wipe ts, ds, wipe_env ts ρ, q⟩
 | .region os, ρ, ds, h, Q, q => WP.region (wO_ok q)
 | .seq x y, ρ, ds, h, Q, q => by
  refine WP.seq ((wC_ok x (Q := seqQ (wC T N y) Q) q).mono ?_)
  rintro e a' h' ⟨ρ', ds', rfl, q⟩
  cases e with
  | normal => exact wC_ok y q
  | _ => exact ⟨ρ', ds', rfl, q⟩
 | .cond c x y, ρ, ds, h, Q, q => by
  have q : condK (c.on N ρ) (wC T N x ρ ds h Q) (wC T N y ρ ds h Q) := q
  unfold condK at q
  split at q
  ·next b hb =>
   cases b with
   | true => exact condT hb (wC_ok x q)
   | false => exact condF hb (wC_ok y q)
  ·exact q.elim
 | .block id x, ρ, ds, h, Q, q => by
  refine WP.block ((wC_ok x (Q := blkQ id Q) q).mono ?_)
  rintro e a' h' ⟨ρ', ds', rfl, q⟩
  cases e with
  | exit id' =>
   simp only [blkQ] at q
   split at q
   ·next e => exact blockQ_xT e ⟨ρ', ds', rfl, q⟩
   ·next e => exact blockQ_xF e ⟨ρ', ds', rfl, q⟩
  | _ => exact ⟨ρ', ds', rfl, q⟩
 | .loop _, _, _, _, _, q => let ⟨k⟩ := q; k
 | .draw _ _, _, _, _, _, q => let ⟨k⟩ := q; k
 | .scope _ _, _, _, _, _, q => let ⟨k⟩ := q; k
 | .rangeF _ _ _ _, _, _, _, _, q => let ⟨k⟩ := q; k
def resE (N : Nat) (ρ : Env) (h : Heap) : List CRV → (List CVal → Prop) → Prop
 | [], K => K []
 | .tmp t :: rs, K => vK ((CX.t t).on N ρ) fun v => resE N ρ h rs fun vs => K (v :: vs)
 | .cell t agg n :: rs, K => match (CX.t t).on N ρ with
  | .ptr i o => GETN h i fun us _ _ => (match agg with
   | false => AT us o fun v => resE N ρ h rs fun vs => K (v :: vs)
   | true => DOESN (((us.drop o).take n).length = n) (resE N ρ h rs fun vs => K (.agg ((us.drop o).take n) :: vs)))
  | _ => False
theorem resE_ok {N : Nat} {ρ : Env} {h : Heap} : ∀ {rs : List CRV} {K : List CVal → Prop}, resE N ρ h rs K → ∃ vs, resultsC (envL N ρ) h rs = some vs ∧ K vs
 | [], _, q => ⟨[], rfl, q⟩
 | .tmp t :: rs, K, q => by
  obtain ⟨vs, e, q⟩ := resE_ok (vK_out q)
  have e' : (envL N ρ).getD t .undef = _ := (CX.on_ev N ρ (.t t))
  exact ⟨_, by simp only [resultsC, resC, e, e'], q⟩
 | .cell t agg n :: rs, K, q => by
  simp only [resE] at q
  split at q
  ·next i o hx =>
   obtain ⟨g, q⟩ := q
   cases agg with
   | false =>
    obtain ⟨v, ev, q⟩ := AT.out q
    obtain ⟨vs, e, q⟩ := resE_ok q
    exact ⟨_, by simp only [resultsC, resC, cop, CX.on_ev, hx, g, ev, e, Bool.false_eq_true, if_false], q⟩
   | true =>
    obtain ⟨p, q⟩ := q
    obtain ⟨vs, e, q⟩ := resE_ok q
    exact ⟨_, by simp only [resultsC, resC, cop, CX.on_ev, hx, g, p, e, if_true], q⟩
  ·exact q.elim
inductive DEFN (T : Tab) (ds : DS) (h : Heap) (K : Heap → Prop) : Prop where
 | mk (k : DefP T ds h K)
def endE (T : Tab) (N : Nat) (rs : List CRV) (Q : CVal → Heap → Prop) : QT := fun e ρ ds h => match e with
 | .normal => (match ds with
  | [] => resE N ρ h rs fun vs => Q (packC vs) h
  | d :: ds => DEFN T (d :: ds) h fun h' => resE N ρ h' rs fun vs => Q (packC vs) h')
 | .ret => (match ds with
  | [] => resE N ρ h rs fun vs => Q (packC vs) h
  | d :: ds => DEFN T (d :: ds) h fun h' => resE N ρ h' rs fun vs => Q (packC vs) h')
 | _ => False
theorem DefP.mono {T : Tab} : ∀ {ds : DS} {h : Heap} {K K' : Heap → Prop}, DefP T ds h K → (∀ h', K h' → K' h') → DefP T ds h K'
 | [], _, _, _, k, f => f _ k
 | x :: ds, h, K, K', k, f => by
  unfold DefP at k ⊢
  split
  ·next d hm => rw [hm] at k; exact ⟨k.1, k.2.mono f⟩
  ·next hm => rw [hm] at k; obtain ⟨n, v, h', e, k⟩ := k; exact ⟨n, v, h', e, k.mono f⟩
theorem Cal.run {T : Tab} {f : FuncId} {fn : CFunc} {N : Nat} {rs : List CRV} {c : CCode} {args : List CVal} {h : Heap} {Q : CVal → Heap → Prop} (hp : T.prim f = none) (hf : T.code f = some fn) (hn : fn = ⟨N, rs, c⟩) (hl : Nat.ble args.length N = true)
  (k : wC T N c (argsE args) [] h (endE T N rs Q)) : Cal T f args h Q := by
 subst hn
 refine Cal.codeD hp hf ?_
 rw [frame_env _ args (Nat.le_of_ble_eq_true hl)]
 refine (wC_ok c k).mono ?_
 rintro x a' h' ⟨ρ, ds, rfl, q⟩
 have fin : ∀ {ds : DS}, (match ds with
  | [] => resE N ρ h' rs fun vs => Q (packC vs) h'
  | d :: ds => DEFN T (d :: ds) h' fun h' => resE N ρ h' rs fun vs => Q (packC vs) h') → DefP T ds h' fun h'' => ∃ vs, resultsC (envL N ρ) h'' rs = some vs ∧ Q (packC vs) h'' := by
  intro ds q
  cases ds with
  | nil => exact resE_ok q
  | cons d ds => obtain ⟨q⟩ := q; exact q.mono fun _ => resE_ok
 cases x with
 | normal => exact ⟨.inl rfl, fin q⟩
 | ret => exact ⟨.inr rfl, fin q⟩
 | exit id => exact q.elim
 | goto l => exact q.elim
theorem CalD.run {T : Tab} {f : FuncId} {fn : CFunc} {N : Nat} {rs : List CRV} {c : CCode} {args : List CVal} {h : Heap} {K : Heap → Prop} (hf : T.code f = some fn) (hn : fn = ⟨N, rs, c⟩) (hl : Nat.ble args.length N = true)
  (k : wC T N c (argsE args) [] h fun e ρ ds h' => match e with
   | .normal => (match ds with
    | [] => resE N ρ h' rs fun _ => K h'
    | _ => False)
   | .ret => (match ds with
    | [] => resE N ρ h' rs fun _ => K h'
    | _ => False)
   | _ => False) : CalD T f args h K := by
 subst hn
 refine CalD.code hf ?_
 rw [frame_env _ args (Nat.le_of_ble_eq_true hl)]
 refine (wC_ok c k).mono ?_
 rintro x a' h' ⟨ρ, ds, rfl, q⟩
 cases x <;> cases ds <;> first | exact q.elim | exact ⟨.inl rfl, rfl, resE_ok q⟩ | exact ⟨.inr rfl, rfl, resE_ok q⟩
theorem rangeC {T : Tab} {N fn k np : Nat} {f : CX} {ρ : Env} {ds : DS} {h : Heap} {Q : QT} {g : FuncId} {first cap : List CVal} (hf : f.on N ρ = .func g first cap)
  (q : Cal T g (first ++ [.yield (h.new .dfr).next] ++ cap) ((h.new .dfr).new (.loop .ready none fn k np (envL N ρ) h.next)) fun _ h₁ => ∃ st pend fn' k' np' tmps' d', h₁.get (h.new .dfr).next = some (.loop st pend fn' k' np' tmps' d') ∧ st ≠ .busy ∧
   Q (match pend with | none => .normal | some j => j.cx) ρ (markD h.next :: ds) (h₁.set (h.new .dfr).next (.loop .exhausted pend fn' k' np' tmps' d'))) : CODEN T N (.rangeF fn k np f) ρ ds h Q :=
 ⟨WP.rangeF (by rw [CX.on_ev]; exact hf) (q.mono fun _ _ ⟨st, pend, fn', k', np', tmps', d', hg, hst, q⟩ => ⟨st, pend, fn', k', np', tmps', d', hg, hst, ρ, _, rfl, by cases pend <;> exact q⟩)⟩
def Env.sets (ρ : Env) : List Nat → List CVal → Env
 | t :: ts, v :: vs => Env.sets (ρ.put t v) ts vs
 | _, _ => ρ
theorem setsC_env (N : Nat) : ∀ (ts : List Nat) (vs : List CVal) (ρ : Env), setsC (envL N ρ) ts vs = envL N (ρ.sets ts vs)
 | [], _, _ => by simp [setsC, Env.sets]
 | _ :: _, [], _ => by simp [setsC, Env.sets]
 | t :: ts, v :: vs, ρ => by simp only [setsC, Env.sets, envL_put]; exact setsC_env N ts vs _
theorem roundC {T : Tab} {i : Nat} {args : List CVal} {h : Heap} {Q : CVal → Heap → Prop} {st : LoopState} {pend : Option CJ} {fn k np N : Nat} {ρ : Env} {d : Nat} {rc : RoundC} (hg : h.get i = some (.loop st pend fn k np (envL N ρ) d)) (hl : args.length = np) (hr : T.rounds fn k = some rc)
  (q : wC T N rc.asg (ρ.sets rc.params args) [] h fun x ρ₁ ds₁ h₁ => x = .normal ∧ ∃ pend' fn' k' np' tmps' d', h₁.get i = some (.loop .ready pend' fn' k' np' tmps' d') ∧
   wC T N rc.body ρ₁ ds₁ (h₁.set i (.loop .busy pend' fn' k' np' tmps' d')) fun x _ ds₂ h₂ => ds₂ = [] ∧ ∃ st'' pend'' fn'' k'' np'' tmps'' d'', h₂.get i = some (.loop st'' pend'' fn'' k'' np'' tmps'' d'') ∧ (match x with
    | .normal => Q (.bool true) (h₂.set i (.loop .ready none fn'' k'' np'' tmps'' d''))
    | .exit id => Q (.bool false) (h₂.set i (.loop .done (some (.exit id)) fn'' k'' np'' tmps'' d''))
    | .ret => Q (.bool false) (h₂.set i (.loop .done (some .ret) fn'' k'' np'' tmps'' d''))
    | .goto l => Q (.bool false) (h₂.set i (.loop .done (some (.goto l)) fn'' k'' np'' tmps'' d'')))) : CalR T i args h Q := by
 refine CalR.run hg hl hr ?_
 rw [setsC_env]
 refine (wC_ok _ q).mono ?_
 rintro x a₁ h₁ ⟨ρ₁, ds₁, rfl, rfl, pend', fn', k', np', tmps', d', hg₁, q⟩
 refine ⟨rfl, pend', fn', k', np', tmps', d', hg₁, (wC_ok _ q).mono ?_⟩
 rintro y a₂ h₂ ⟨ρ₂, ds₂, rfl, hd, st'', pend'', fn'', k'', np'', tmps'', d'', hg₂, q⟩
 exact ⟨hd, st'', pend'', fn'', k'', np'', tmps'', d'', hg₂, by cases y <;> exact q⟩
theorem CALLN.of {T : Tab} {f : FuncId} {args : List CVal} {h : Heap} {K : CVal → Heap → Prop} (k : Cal T f args h K) : CALLN T f args h K := ⟨k⟩
def againQ {α : Type} (L : α → List (Nat × CVal)) (I : α → Heap → Prop) (lt : α → Prop) (ds : DS) (Q : QT) : QT := fun e ρ' ds' h' => match e with
 | .normal => ds' = ds ∧ ∃ s', ρ'.Has (L s') ∧ I s' h' ∧ lt s'
 | .exit id => Q (.exit id) ρ' ds' h'
 | .ret => Q .ret ρ' ds' h'
 | .goto l => Q (.goto l) ρ' ds' h'
theorem loopC {T : Tab} {N : Nat} {x : CCode} {ρ : Env} {ds : DS} {h : Heap} {Q : QT} {α : Type} (L : α → List (Nat × CVal)) (I : α → Heap → Prop) (μ : α → Nat) (s₀ : α) (i₀ : ρ.Has (L s₀)) (j₀ : I s₀ h)
  (round : ∀ (s : α) (ρ : Env) (h : Heap), I s h → wC T N x (ρ.puts (L s)) ds h (againQ L I (fun s' => μ s' < μ s) ds Q)) : CODEN T N (.loop x) ρ ds h Q := by
 refine ⟨?_⟩
 refine loopE L I μ s₀ i₀ j₀ fun s ρ h hi => (wC_ok x (round s ρ h hi)).mono ?_
 rintro e a' h' ⟨ρ', ds', rfl, q⟩
 cases e with
 | normal => obtain ⟨rfl, s', e2, e3, e4⟩ := q; exact ⟨s', ρ', rfl, e2, e3, e4⟩
 | _ => exact ⟨ρ', ds', rfl, q⟩
theorem loop1 {T : Tab} {N : Nat} {x : CCode} {ρ : Env} {ds : DS} {h : Heap} {Q : QT} (k : wC T N x ρ ds h fun e ρ ds h => match e with
  | .normal => CODEN T N (.loop x) ρ ds h Q
  | .exit id => Q (.exit id) ρ ds h
  | .ret => Q .ret ρ ds h
  | .goto l => Q (.goto l) ρ ds h) : CODEN T N (.loop x) ρ ds h Q := by
 refine ⟨WP.loop ((wC_ok x k).mono ?_)⟩
 rintro e a' h' ⟨ρ', ds', rfl, q⟩
 cases e with
 | normal => obtain ⟨k⟩ := q; exact k
 | _ => exact ⟨ρ', ds', rfl, q⟩
theorem scopeC {T : Tab} {N : Nat} {b : CCode} {rests : List (Nat × CCode)} {ρ : Env} {ds : DS} {h : Heap} {Q : QT} (k : wC T N b ρ ds h fun e ρ ds h => match e with
  | .goto l => SM (findRest l rests) fun r => CODEN T N (.scope r rests) ρ ds h Q
  | .normal => Q .normal ρ ds h
  | .exit id => Q (.exit id) ρ ds h
  | .ret => Q .ret ρ ds h) : CODEN T N (.scope b rests) ρ ds h Q := by
 refine ⟨WP.scope ((wC_ok b k).mono ?_)⟩
 rintro e a' h' ⟨ρ', ds', rfl, q⟩
 cases e with
 | goto l => obtain ⟨r, hr, ⟨k⟩⟩ := SM.out q; exact ⟨r, hr, k⟩
 | _ => exact ⟨ρ', ds', rfl, q⟩
end Go.Proofs.YtncmoaggkdlkhaaGreat.Cm
namespace Go.Proofs.YtncmoaggkdlkhaaGreat.Cm
open Go.RowKit
inductive NUMN (x : Nat) (K : Nat → Prop) : Prop where
 | mk {n : Nat} (e : x = n) (k : K n)
inductive LOOKN (N : Nat) (op : COp) (ρ : Env) (h : Heap) (v : CVal) (A : Prop) : Prop where
 | mk (e : cop op (envL N ρ) h = some (.val v, h)) (a : A)
structure Pend where
 k : Nat
 op : COp
 ρ : Env
 v : CVal
noncomputable def pendK (N p : Nat) (h : Heap) (qs : List Pend) (A : Prop) : Prop :=
 List.rec (motive := fun _ => Prop) A (fun q _ ih => match Nat.beq q.k p with
  | true => LOOKN N q.op q.ρ h q.v ih
  | false => ih) qs
noncomputable def pendE (N p : Nat) (h : Heap) (qs : List Pend) (A : Prop) : Prop :=
 List.rec (motive := fun _ => Prop) A (fun q _ ih => match Nat.beq q.k p with
  | true => LOOKN N q.op q.ρ h q.v ih
  | false => (match Nat.blt q.k p with
   | true => ih
   | false => False)) qs
noncomputable def pastK (N p : Nat) (hist : Nat → Heap) (op : COp) (ρ : Env) (v : CVal) (ks : List Nat) (A : Prop) : Prop :=
 List.rec (motive := fun _ => Prop) A (fun k _ ih => match Nat.blt k p with
  | true => LOOKN N op ρ (hist k) v ih
  | false => ih) ks
noncomputable def futP (p : Nat) (op : COp) (ρ : Env) (v : CVal) (ks : List Nat) (ps : List Pend) : List Pend :=
 List.rec (motive := fun _ => List Pend) ps (fun k _ ih => match Nat.blt p k with
  | true => ⟨k, op, ρ, v⟩ :: ih
  | false => ih) ks
theorem pendK_out {N p : Nat} {h : Heap} {A : Prop} : ∀ {qs : List Pend}, pendK N p h qs A → A ∧ ∀ q ∈ qs, q.k = p → cop q.op (envL N q.ρ) h = some (.val q.v, h)
 | [], k => ⟨k, fun _ m => by simp at m⟩
 | q :: qs, k => by
  have k : (match Nat.beq q.k p with | true => LOOKN N q.op q.ρ h q.v (pendK N p h qs A) | false => pendK N p h qs A) := k
  split at k
  ·obtain ⟨e, k⟩ := k
   obtain ⟨a, r⟩ := pendK_out k
   refine ⟨a, fun q' m hq => ?_⟩
   rcases List.mem_cons.1 m with rfl | m
   ·exact e
   ·exact r q' m hq
  ·next hb =>
   obtain ⟨a, r⟩ := pendK_out k
   refine ⟨a, fun q' m hq => ?_⟩
   rcases List.mem_cons.1 m with rfl | m
   ·exact (Nat.ne_of_beq_eq_false hb hq).elim
   ·exact r q' m hq
theorem pendE_out {N p : Nat} {h : Heap} {A : Prop} : ∀ {qs : List Pend}, pendE N p h qs A → A ∧ ∀ q ∈ qs, p ≤ q.k → q.k = p ∧ cop q.op (envL N q.ρ) h = some (.val q.v, h)
 | [], k => ⟨k, fun _ m => by simp at m⟩
 | q :: qs, k => by
  have k : (match Nat.beq q.k p with | true => LOOKN N q.op q.ρ h q.v (pendE N p h qs A) | false => (match Nat.blt q.k p with | true => pendE N p h qs A | false => False)) := k
  split at k
  ·next hb =>
   obtain ⟨e, k⟩ := k
   obtain ⟨a, r⟩ := pendE_out k
   refine ⟨a, fun q' m hq => ?_⟩
   rcases List.mem_cons.1 m with rfl | m
   ·exact ⟨Nat.eq_of_beq_eq_true hb, e⟩
   ·exact r q' m hq
  ·split at k
   ·next hl =>
    obtain ⟨a, r⟩ := pendE_out k
    refine ⟨a, fun q' m hq => ?_⟩
    rcases List.mem_cons.1 m with rfl | m
    ·exact absurd (blt_lt hl) (Nat.not_lt.2 hq)
    ·exact r q' m hq
   ·exact k.elim
theorem pastK_out {N p : Nat} {hist : Nat → Heap} {op : COp} {ρ : Env} {v : CVal} {A : Prop} : ∀ {ks : List Nat}, pastK N p hist op ρ v ks A → A ∧ ∀ k ∈ ks, k < p → cop op (envL N ρ) (hist k) = some (.val v, hist k)
 | [], k => ⟨k, fun _ m => by simp at m⟩
 | k₀ :: ks, k => by
  have k : (match Nat.blt k₀ p with | true => LOOKN N op ρ (hist k₀) v (pastK N p hist op ρ v ks A) | false => pastK N p hist op ρ v ks A) := k
  split at k
  ·obtain ⟨e, k⟩ := k
   obtain ⟨a, r⟩ := pastK_out k
   refine ⟨a, fun q' m hq => ?_⟩
   rcases List.mem_cons.1 m with rfl | m
   ·exact e
   ·exact r q' m hq
  ·next hb =>
   obtain ⟨a, r⟩ := pastK_out k
   refine ⟨a, fun q' m hq => ?_⟩
   rcases List.mem_cons.1 m with rfl | m
   ·rw [lt_blt hq] at hb; simp at hb
   ·exact r q' m hq
theorem futP_mem {p : Nat} {op : COp} {ρ : Env} {v : CVal} {ps : List Pend} : ∀ {ks : List Nat}, (∀ q ∈ ps, q ∈ futP p op ρ v ks ps) ∧ ∀ k ∈ ks, p < k → (⟨k, op, ρ, v⟩ : Pend) ∈ futP p op ρ v ks ps
 | [] => ⟨fun _ m => m, fun _ m => by simp at m⟩
 | k₀ :: ks => by
  obtain ⟨r1, r2⟩ := futP_mem (p := p) (op := op) (ρ := ρ) (v := v) (ps := ps) (ks := ks)
  have e : futP p op ρ v (k₀ :: ks) ps = (match Nat.blt p k₀ with | true => ⟨k₀, op, ρ, v⟩ :: futP p op ρ v ks ps | false => futP p op ρ v ks ps) := rfl
  rw [e]
  split
  ·refine ⟨fun q m => List.mem_cons_of_mem _ (r1 q m), fun k m hk => ?_⟩
   rcases List.mem_cons.1 m with rfl | m
   ·exact List.mem_cons_self ..
   ·exact List.mem_cons_of_mem _ (r2 k m hk)
  ·next hb =>
   refine ⟨r1, fun k m hk => ?_⟩
   rcases List.mem_cons.1 m with rfl | m
   ·rw [lt_blt hk] at hb; simp at hb
   ·exact r2 k m hk
def callOp : COp → Bool
 | .call .. => true
 | .defer .. => true
 | _ => false
theorem cop_call {op : COp} (hc : callOp op = false) {a : List CVal} {h h' : Heap} {g : FuncId} {as : List CVal} : cop op a h ≠ some (.enter g as, h') := by
 cases op <;> simp only [callOp, Bool.true_eq_false] at hc <;> simp only [cop] <;> (repeat' split) <;> simp
theorem cop_round {op : COp} (hc : callOp op = false) {a : List CVal} {h h' : Heap} {i : Nat} {as : List CVal} : cop op a h ≠ some (.round i as, h') := by
 cases op <;> simp only [callOp, Bool.true_eq_false] at hc <;> simp only [cop] <;> (repeat' split) <;> simp
def allocK (N : Nat) (op : COp) (ρ : Env) (id : Nat) (K : CVal → CObj → Prop) : Prop := match op with
 | .new zero => K (.ptr id 0) (.cells zero true none)
 | .box x => celS (x.on N ρ) fun cs => argsK cs fun cs => K (.ptr id 0) (.cells cs true none)
 | .buildSlice zero len parts => fillK (parts.map fun p => (p.1, p.2.1, p.2.2.on N ρ)) (repC len zero) fun cs => argsK cs fun cs => onesK cs (K (.slice id 0 len len) (.cells cs true none))
 | .newMap => K (.map id) (.map [] true (some ([], 0)))
 | .makeSlice zero bytes l c => (match l.on N ρ with
  | .int _ a => (match c.on N ρ with
   | .int _ b => DOESN (0 ≤ a ∧ a ≤ b ∧ b * bytes ≤ 1099511627776 ∧ b ≤ 1099511627776) (K (.slice id 0 a.toNat b.toNat) (.cells (repC b.toNat zero) true none))
   | _ => False)
  | _ => False)
 | _ => False
theorem allocK_out {N : Nat} {op : COp} {ρ : Env} {id : Nat} {K : CVal → CObj → Prop} (q : allocK N op ρ id K) : ∃ v obj, allocC op (envL N ρ) id = some (v, obj) ∧ K v obj := by
 unfold allocK at q
 split at q
 ·exact ⟨_, _, rfl, q⟩
 ·obtain ⟨cs, e, q⟩ := celS_out q
  exact ⟨_, _, by simp only [allocC, CX.on_ev, e], argsK_out q⟩
 ·obtain ⟨cs, e, q⟩ := fillK_out q
  obtain ⟨p, q⟩ := onesK_out (argsK_out q)
  exact ⟨_, _, by simp only [allocC, CX.on_ev, e]; rw [if_pos p], q⟩
 ·exact ⟨_, _, rfl, q⟩
 ·next zero bytes l c =>
  split at q
  ·next k a hl =>
   split at q
   ·next k' b hc =>
    obtain ⟨p, q⟩ := q
    refine ⟨_, _, ?_, q⟩
    have h1 : 0 ≤ b := by omega
    have h2 : b.toNat * bytes ≤ 1099511627776 := by
     have e2 : ((b.toNat * bytes : Nat) : Int) ≤ ((1099511627776 : Nat) : Int) := by
      rw [Int.natCast_mul, Int.toNat_of_nonneg h1]; exact p.2.2.1
     exact Int.ofNat_le.mp e2
    simp only [allocC, CX.on_ev, hl, hc, asNat]
    rw [if_pos p.1, if_pos h1]
    simp only
    rw [if_pos ⟨by omega, h2, by omega⟩]
   ·exact q.elim
  ·exact q.elim
 ·exact q.elim
def dstNe (d : Option Nat) (t : Nat) : Bool := match d with
 | none => true
 | some s => (match Nat.beq s t with
  | true => false
  | false => true)
noncomputable def lateIn (t : Nat) (its : List DIt) : Bool := List.rec (motive := fun _ => Bool) true (fun it _ ih => match dstNe it.c.dst t with
  | true => ih
  | false => false) its
noncomputable def lateNe (N : Nat) (d : Option Nat) (its : List DIt) : Bool := match d with
 | none => true
 | some t => (match Nat.blt t N with
  | true => lateIn t its
  | false => false)
noncomputable def allLe (n : Nat) (ks : List Nat) : Bool := List.rec (motive := fun _ => Bool) true (fun k _ ih => match Nat.ble k n with
  | true => ih
  | false => false) ks
theorem allLe_out {n : Nat} : ∀ {ks : List Nat}, allLe n ks = true → ∀ k ∈ ks, k ≤ n
 | [], _, _, m => by simp at m
 | k₀ :: ks, e, k, m => by
  have e : (match Nat.ble k₀ n with | true => allLe n ks | false => false) = true := e
  split at e
  ·next hb =>
   rcases List.mem_cons.1 m with rfl | m
   ·exact Nat.le_of_ble_eq_true hb
   ·exact allLe_out e k m
  ·simp at e
def onlyIf (b : Bool) (A : Prop) : Prop := match b with
 | true => A
 | false => False
theorem onlyIf_out {b : Bool} {A : Prop} (q : onlyIf b A) : b = true ∧ A := by
 cases b
 ·exact q.elim
 ·exact ⟨rfl, q⟩
abbrev DRun := Nat → (Nat → Heap) → List Pend → Env → DS → Heap → (Env → DS → Heap → Prop) → Prop
noncomputable def quietK (T : Tab) (N : Nat) (c : COper) (ks : List Nat) (ih : DRun) (p : Nat) (hist : Nat → Heap) (pend : List Pend) (ρ : Env) (ds : DS) (h : Heap) (K : Env → DS → Heap → Prop) : Prop :=
 opK T N c.op ρ h fun v _ => match freeOp c.op with
  | true => ih (p + 1) (fun k => match Nat.beq k p with | true => h | false => hist k) pend (ρ.putO c.dst v) ds h K
  | false => pastK N p hist c.op ρ v ks (ih (p + 1) (fun k => match Nat.beq k p with | true => h | false => hist k) (futP p c.op ρ v ks pend) (ρ.putO c.dst v) ds h K)
noncomputable def wD1 (T : Tab) (N base n : Nat) (it : DIt) (its : List DIt) (ih : DRun) : DRun := fun p hist pend ρ ds h K =>
 pendK N p h pend (match it.kind with
  | .quiet ks => onlyIf (lateNe N it.c.dst its) (onlyIf (allLe n ks) (onlyIf (!callOp it.c.op) (match it.c.guard with
   | none => quietK T N it.c ks ih p hist pend ρ ds h K
   | some g => (match (CX.t g.1).on N ρ with
    | .bool b => BC b
     (match g.2 with
      | true => quietK T N it.c ks ih p hist pend ρ ds h K
      | false => ih (p + 1) (fun k => match Nat.beq k p with | true => h | false => hist k) pend (ρ.putO it.c.dst .un) ds h K)
     (match g.2 with
      | true => ih (p + 1) (fun k => match Nat.beq k p with | true => h | false => hist k) pend (ρ.putO it.c.dst .un) ds h K
      | false => quietK T N it.c ks ih p hist pend ρ ds h K)
    | .tuple [] => ih (p + 1) (fun k => match Nat.beq k p with | true => h | false => hist k) pend (ρ.putO it.c.dst .un) ds h K
    | _ => False))))
  | .alloc aid => (match it.c.guard with
   | none => NUMN (base + aid) fun id => allocK N it.c.op ρ id fun v obj => ih (p + 1) (fun k => match Nat.beq k p with | true => h | false => hist k) pend (ρ.putO it.c.dst v) ds (h.set id obj) K
   | some _ => False)
  | .eff => wO1 T N it.c (fun ρ' ds' h' _ => ih (p + 1) (fun k => match Nat.beq k p with | true => h | false => hist k) pend ρ' ds' h' K) ρ ds h K)
noncomputable def wD (T : Tab) (N base n : Nat) (its : List DIt) : DRun :=
 List.rec (motive := fun _ => DRun) (fun p _ pend ρ ds h K => pendE N p h pend (K ρ ds h)) (fun it its ih => wD1 T N base n it its ih) its
theorem lateIn_out {t : Nat} : ∀ {its : List DIt}, lateIn t its = true → ∀ it ∈ its, it.c.dst ≠ some t
 | [], _, _, m => by simp at m
 | i₀ :: its, e, it, m => by
  have e : (match dstNe i₀.c.dst t with | true => lateIn t its | false => false) = true := e
  split at e
  ·next hb =>
   rcases List.mem_cons.1 m with rfl | m
   ·intro hd
    rw [hd] at hb
    simp only [dstNe] at hb
    split at hb
    ·simp at hb
    ·next h2 => exact Nat.ne_of_beq_eq_false h2 rfl
   ·exact lateIn_out e it m
  ·simp at e
theorem lateNe_out {N t : Nat} {its : List DIt} (e : lateNe N (some t) its = true) : Nat.blt t N = true ∧ ∀ it ∈ its, it.c.dst ≠ some t := by
 simp only [lateNe] at e
 split at e
 ·next h => exact ⟨h, lateIn_out e⟩
 ·simp at e
def DQ (N : Nat) (its : List DIt) (pre : List (Fr × Heap)) (pend : List Pend) (p : Nat) (ρ : Env) (K : Env → DS → Heap → Prop) : Fr → Heap → List (Fr × Heap) → Prop := fun a' h' hs =>
 hs.length = its.length + 1 ∧ checkD a'.tmps (pre ++ hs) its hs = true ∧ (∀ q ∈ pend, p ≤ q.k → ∃ f h₁, (pre ++ hs)[q.k]? = some (f, h₁) ∧ cop q.op (envL N q.ρ) h₁ = some (.val q.v, h₁)) ∧
 ∃ ρ' ds', a' = ⟨envL N ρ', ds'⟩ ∧ (∀ t, (∀ it ∈ its, it.c.dst ≠ some t) → (CX.t t).on N ρ' = (CX.t t).on N ρ) ∧ K ρ' ds' h'
theorem on_put_ne (N : Nat) (ρ : Env) (d : Option Nat) (v : CVal) (t : Nat) (h : d ≠ some t) : (CX.t t).on N (ρ.putO d v) = (CX.t t).on N ρ := by
 cases d with
 | none => rfl
 | some s =>
  have : t ≠ s := fun e => h (by rw [e])
  simp only [CX.on, Env.putO, Env.put_at, if_neg this]
theorem on_put_eq (N : Nat) (ρ : Env) (s : Nat) (v : CVal) (h : Nat.blt s N = true) : (CX.t s).on N (ρ.putO (some s) v) = v := by
 simp only [CX.on, h, if_true, Env.putO, Env.put_at]
theorem wO1_eff {T : Tab} {N : Nat} {o : COper} {R : Env → DS → Heap → Prop} {ρ : Env} {ds : DS} {h : Heap} {K : Env → DS → Heap → Prop} (q : wO1 T N o (fun ρ' ds' h' _ => R ρ' ds' h') ρ ds h K) :
  wO T N [o] ρ ds h (fun ρ' ds' h' => (∃ v, ρ' = ρ.putO o.dst v) ∧ R ρ' ds' h') := by
 have e : ∀ v ds' h', ((∃ v', ρ.putO o.dst v = ρ.putO o.dst v') ∧ R (ρ.putO o.dst v) ds' h') = R (ρ.putO o.dst v) ds' h' := by
  intro v ds' h'
  exact propext ⟨fun k => k.2, fun k => ⟨⟨v, rfl⟩, k⟩⟩
 rw [wO_cons]
 unfold wO1 at q ⊢
 simp only [wO_nil, e]
 exact q
theorem wD_ok {T : Tab} {N base n : Nat} {K : Env → DS → Heap → Prop} : ∀ {its : List DIt} {p : Nat} {hist : Nat → Heap} {pend : List Pend} {ρ : Env} {ds : DS} {h : Heap} {pre : List (Fr × Heap)}, pre.length = p → n = p + its.length → (∀ k, k < p → ∃ f, pre[k]? = some (f, hist k)) →
  wD T N base n its p hist pend ρ ds h K → WPD T base its ⟨envL N ρ, ds⟩ h (DQ N its pre pend p ρ K)
 | [], p, hist, pend, ρ, ds, h, pre, hp, _, _, q => by
  obtain ⟨k, r⟩ := pendE_out q
  refine WPD.nil ⟨rfl, rfl, fun q m hq => ?_, ρ, ds, rfl, fun _ _ => rfl, k⟩
  obtain ⟨e, c⟩ := r q m hq
  exact ⟨_, h, by rw [e, List.getElem?_append_right (by omega), hp, Nat.sub_self]; rfl, c⟩
 | it :: its, p, hist, pend, ρ, ds, h, pre, hp, hn, hh, q => by
  have hlen : (it :: its).length = its.length + 1 := rfl
  obtain ⟨q, now⟩ := pendK_out (show pendK N p h pend _ from q)
  let hist' : Nat → Heap := fun k => match Nat.beq k p with | true => h | false => hist k
  have hh' : ∀ k, k < p + 1 → ∃ f, (pre ++ [((⟨envL N ρ, ds⟩ : Fr), h)])[k]? = some (f, hist' k) := by
   intro k hk
   by_cases e : k = p
   ·subst e
    refine ⟨⟨envL N ρ, ds⟩, ?_⟩
    have hb : Nat.beq k k = true := by simp
    rw [List.getElem?_append_right (by omega), hp, Nat.sub_self]
    simp only [hist', hb]; rfl
   ·obtain ⟨f, hf⟩ := hh k (by omega)
    refine ⟨f, ?_⟩
    have hb : Nat.beq k p = false := by
     cases hq : Nat.beq k p
     ·rfl
     ·exact (e (Nat.eq_of_beq_eq_true hq)).elim
    rw [List.getElem?_append_left (by omega)]
    simp only [hist', hb]; exact hf
  have rest : ∀ {pend' : List Pend} {ρ' : Env} {ds' : DS} {h' : Heap} {a₀ : Fr} (_ : a₀ = ⟨envL N ρ, ds⟩), (∀ q ∈ pend, q ∈ pend') → (∀ t, it.c.dst ≠ some t → (CX.t t).on N ρ' = (CX.t t).on N ρ) →
    (∀ (out : List CVal) (hs : List (Fr × Heap)) (ρo : Env), hs.length = its.length + 1 → out = envL N ρo → (∀ t, (∀ x ∈ its, x.c.dst ≠ some t) → (CX.t t).on N ρo = (CX.t t).on N ρ') →
     (∀ q ∈ pend', p + 1 ≤ q.k → ∃ f h₁, (pre ++ (⟨envL N ρ, ds⟩, h) :: hs)[q.k]? = some (f, h₁) ∧ cop q.op (envL N q.ρ) h₁ = some (.val q.v, h₁)) →
     (match it.kind with | .quiet ks => ks.all (checkQ it.c (envL N ρ) out (pre ++ (⟨envL N ρ, ds⟩, h) :: hs)) | _ => true) = true) →
    wD T N base n its (p + 1) hist' pend' ρ' ds' h' K → WPD T base its ⟨envL N ρ', ds'⟩ h' fun a' h'' hs => DQ N (it :: its) pre pend p ρ K a' h'' ((a₀, h) :: hs) := by
   intro pend' ρ' ds' h' a₀ ha sub same chk w
   subst ha
   have w := wD_ok (pre := pre ++ [((⟨envL N ρ, ds⟩ : Fr), h)]) (by simp [hp]) (by rw [hn, hlen]; omega) hh' w
   obtain ⟨m, a', h'', hs, ev, hl, hck, hpd, ρo, dso, rfl, hsame, hK⟩ := w
   have ap : pre ++ [((⟨envL N ρ, ds⟩ : Fr), h)] ++ hs = pre ++ (⟨envL N ρ, ds⟩, h) :: hs := by simp
   rw [ap] at hck hpd
   refine ⟨m, _, h'', hs, ev, by simp [hl], ?_, fun q m hq => ?_, ρo, dso, rfl, fun t ht => ?_, hK⟩
   ·have c1 := chk (envL N ρo) hs ρo hl rfl hsame hpd
    simp only [checkD, hck, Bool.and_true]
    cases hk : it.kind with
    | quiet ks => simp only [hk] at c1; simpa using c1
    | alloc _ => rfl
    | eff => rfl
   ·by_cases e : q.k = p
    ·refine ⟨⟨envL N ρ, ds⟩, h, ?_, now q m e⟩
     rw [e, List.getElem?_append_right (by omega), hp, Nat.sub_self]; rfl
    ·exact hpd q (sub q m) (by omega)
   ·rw [hsame t fun x hx => ht x (List.mem_cons_of_mem _ hx)]
    exact same t (ht it (List.mem_cons_self ..))
  obtain ⟨ix, c, kind⟩ := it
  cases kind with
  | quiet ks =>
   obtain ⟨hlate, q⟩ := onlyIf_out q
   obtain ⟨hle, q⟩ := onlyIf_out q
   obtain ⟨hcall, q⟩ := onlyIf_out q
   have hcall : callOp c.op = false := by simpa using hcall
   have fin : ∀ {v : CVal} {h₁' : Heap}, evOp1 noCall c (envL N ρ) h = some (v, [], h₁') → ∀ (out : List CVal) (hs : List (Fr × Heap)) (ρo : Env), hs.length = its.length + 1 → out = envL N ρo → (∀ t, (∀ x ∈ its, x.c.dst ≠ some t) → (CX.t t).on N ρo = (CX.t t).on N (ρ.putO c.dst v)) →
     (∀ k ∈ ks, ∀ f h₁, (pre ++ (⟨envL N ρ, ds⟩, h) :: hs)[k]? = some (f, h₁) → ∃ h₂, evOp1 noCall c (envL N ρ) h₁ = some (v, [], h₂)) → ks.all (checkQ c (envL N ρ) out (pre ++ (⟨envL N ρ, ds⟩, h) :: hs)) = true := by
    intro v h₁' e0 out hs ρo hl hout hsame hev
    refine List.all_eq_true.2 fun k hk => ?_
    have hkn := allLe_out hle k hk
    have hlt : k < (pre ++ ((⟨envL N ρ, ds⟩ : Fr), h) :: hs).length := by
     rw [hlen] at hn
     simp only [List.length_append, List.length_cons, hl, hp]; omega
    obtain ⟨⟨f, h₁⟩, hg⟩ : ∃ x, (pre ++ ((⟨envL N ρ, ds⟩ : Fr), h) :: hs)[k]? = some x := ⟨_, List.getElem?_eq_getElem hlt⟩
    obtain ⟨h₂, he⟩ := hev k hk f h₁ hg
    simp only [checkQ, hg, he]
    cases hd : c.dst with
    | none => rfl
    | some d =>
     simp only
     have e2 : (envL N ρo).getD d .undef = (CX.t d).on N ρo := CX.on_ev N ρo (.t d)
     obtain ⟨hN, hla⟩ := lateNe_out (show lateNe N (some d) its = true from hd ▸ hlate)
     rw [hout, e2, hsame d hla, hd, on_put_eq N ρ d v hN]
     exact CVal.beq_refl v
   have put : ∀ v, Fr.put ⟨envL N ρ, ds⟩ c.dst v = ⟨envL N (ρ.putO c.dst v), ds⟩ := fun v => done_env N ρ ds [] c.dst v
   have skip : (∀ h₁, evOp1 noCall c (envL N ρ) h₁ = some (.un, [], h₁)) → wD T N base n its (p + 1) hist' pend (ρ.putO c.dst .un) ds h K → WPD T base (⟨ix, c, .quiet ks⟩ :: its) ⟨envL N ρ, ds⟩ h (DQ N (⟨ix, c, .quiet ks⟩ :: its) pre pend p ρ K) := by
    intro e w
    refine WPD.quiet (e h) fun _ => ?_
    rw [put]
    exact rest rfl (fun _ m => m) (fun t ht => on_put_ne N ρ c.dst _ t ht) (fun out hs ρo hl hout hsame _ => fin (e h) out hs ρo hl hout hsame fun k _ f h₁ _ => ⟨_, e h₁⟩) w
   have run : wantC (envL N ρ) c.guard = some true → quietK T N c ks (wD T N base n its) p hist pend ρ ds h K → WPD T base (⟨ix, c, .quiet ks⟩ :: its) ⟨envL N ρ, ds⟩ h (DQ N (⟨ix, c, .quiet ks⟩ :: its) pre pend p ρ K) := by
    intro hw w
    rcases opK_out w with ⟨v, h', e, w⟩ | ⟨g, as, e, _⟩ | ⟨i, as, e, _⟩
    ·have e0 : evOp1 noCall c (envL N ρ) h = some (v, [], h') := by simp only [evOp1, hw, e]
     refine WPD.quiet e0 fun _ => ?_
     rw [put]
     split at w
     ·next hf =>
      refine rest rfl (fun _ m => m) (fun t ht => on_put_ne N ρ c.dst _ t ht) (fun out hs ρo hl hout hsame _ => fin e0 out hs ρo hl hout hsame fun k _ f h₁ _ => ?_) w
      obtain ⟨d, op, g⟩ := c
      exact ⟨_, evOp1_free hf e0⟩
     ·next hf =>
      obtain ⟨w, past⟩ := pastK_out w
      refine rest rfl (futP_mem.1) (fun t ht => on_put_ne N ρ c.dst _ t ht) (fun out hs ρo hl hout hsame hpd => fin e0 out hs ρo hl hout hsame fun k hk f h₁ hg => ?_) w
      rcases Nat.lt_trichotomy k p with hkp | hkp | hkp
      ·obtain ⟨f', hf'⟩ := hh k hkp
       have : (pre ++ ((⟨envL N ρ, ds⟩ : Fr), h) :: hs)[k]? = some (f', hist k) := by rw [List.getElem?_append_left (by omega)]; exact hf'
       rw [this] at hg
       simp only [Option.some.injEq, Prod.mk.injEq] at hg
       obtain ⟨_, rfl⟩ := hg
       exact ⟨hist k, by simp only [evOp1, hw, past k hk hkp]⟩
      ·have : (pre ++ ((⟨envL N ρ, ds⟩ : Fr), h) :: hs)[k]? = some (⟨envL N ρ, ds⟩, h) := by rw [List.getElem?_append_right (by omega), hkp, hp, Nat.sub_self]; rfl
       rw [this] at hg
       simp only [Option.some.injEq, Prod.mk.injEq] at hg
       obtain ⟨_, rfl⟩ := hg
       exact ⟨_, e0⟩
      ·obtain ⟨f', h₂, hg', hc⟩ := hpd ⟨k, c.op, ρ, v⟩ (futP_mem.2 k hk hkp) hkp
       rw [hg'] at hg
       simp only [Option.some.injEq, Prod.mk.injEq] at hg
       obtain ⟨_, rfl⟩ := hg
       exact ⟨h₂, by simp only [evOp1, hw, hc]⟩
    ·exact (cop_call hcall e).elim
    ·exact (cop_round hcall e).elim
   split at q
   ·next hg => exact run (by show wantC _ c.guard = _; rw [show c.guard = none from hg]; rfl) q
   ·next g hg =>
    obtain ⟨t, w⟩ := g
    have hg : c.guard = some (t, w) := hg
    split at q
    ·next b hb =>
     have hv : (envL N ρ).getD t .undef = .bool b := (CX.on_ev N ρ (.t t)).trans hb
     cases b <;> cases w
     ·exact run (by simp only [hg, wantC, hv, beq_self_eq_true]) q
     ·exact skip (fun h₁ => by simp only [evOp1, hg, wantC, hv]; rfl) q
     ·exact skip (fun h₁ => by simp only [evOp1, hg, wantC, hv]; rfl) q
     ·exact run (by simp only [hg, wantC, hv, beq_self_eq_true]) q
    ·next hb =>
     have hv : (envL N ρ).getD t .undef = .tuple [] := (CX.on_ev N ρ (.t t)).trans hb
     exact skip (fun h₁ => by simp only [evOp1, hg, wantC, hv]) q
    ·exact q.elim
  | alloc aid =>
   simp only at q
   split at q
   ·next hg =>
    obtain ⟨e, q⟩ := q
    obtain ⟨v, obj, ea, q⟩ := allocK_out q
    subst e
    obtain ⟨d, op, g⟩ := c
    have hg : g = none := hg
    subst hg
    refine WPD.alloc ea ?_
    have put : Fr.put ⟨envL N ρ, ds⟩ d v = ⟨envL N (ρ.putO d v), ds⟩ := done_env N ρ ds [] d v
    rw [put]
    exact rest rfl (fun _ m => m) (fun t ht => on_put_ne N ρ d _ t ht) (fun _ _ _ _ _ _ _ => rfl) q
   ·exact q.elim
  | eff =>
   refine WPD.eff ?_
   have q := wO_ok (wO1_eff q)
   obtain ⟨m, a', h', ev, ρ', ds', rfl, ⟨v, rfl⟩, w⟩ := q
   exact ⟨m, _, h', ev, rest rfl (fun _ m => m) (fun t ht => on_put_ne N ρ c.dst v t ht) (fun _ _ _ _ _ _ _ => rfl) w⟩
def Heap.room (h : Heap) : Nat → Heap
 | 0 => h
 | k + 1 => { h with next := h.next + (k + 1) }
theorem Heap.room_eq (h : Heap) (k : Nat) : h.room k = { h with next := h.next + k } := by cases k <;> rfl
theorem Heap.room_get {h : Heap} {k i : Nat} {x : Option CObj} (g : h.get i = x) : (h.room k).get i = x := by rw [Heap.room_eq]; exact g
theorem Heap.nx_room {h : Heap} {k n : Nat} (e : h.next = n) : (h.room k).next = n + k := by rw [Heap.room_eq, ← e]
theorem drawC {T : Tab} {N n k : Nat} {its : List DIt} {ρ : Env} {ds : DS} {h : Heap} {Q : QT} {hist : Nat → Heap} (hn : its.length = n) (q : NUMN h.next fun base => wD T N base n its 0 hist [] ρ ds (h.room k) (Q .normal)) : CODEN T N (.draw its k) ρ ds h Q := by
 obtain ⟨e, q⟩ := q
 subst e
 refine ⟨WP.draw ?_⟩
 rw [Heap.room_eq] at q
 obtain ⟨m, a', h', hs, ev, hl, hck, _, ρ', ds', rfl, _, hK⟩ := wD_ok (pre := []) (p := 0) rfl (by omega) (fun k hk => absurd hk (Nat.not_lt_zero k)) q
 exact ⟨m, _, h', hs, ev, hck, ρ', ds', rfl, hK⟩
theorem drawC0 {T : Tab} {N n : Nat} {its : List DIt} {ρ : Env} {ds : DS} {h : Heap} {Q : QT} {hist : Nat → Heap} (hn : its.length = n) (q : NUMN h.next fun base => wD T N base n its 0 hist [] ρ ds h (Q .normal)) : CODEN T N (.draw its 0) ρ ds h Q := drawC hn q
end Go.Proofs.YtncmoaggkdlkhaaGreat.Cm
