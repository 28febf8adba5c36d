/-
  The clean machine, part Y: rules that split at once at a comparison, loops over slots by a function, drawn regions, results.
-/
import Derived.Test.YtmppoknfekdbbaaDoorCmXX
import Derived.IntWalk
namespace Go.Proofs.YtmppoknfekdbbaaDoor.Cm
open Go.RowKit Go.IntWalk

/-! ### Heaps -/
theorem Heap.set_skip {h : Heap} {i j : Nat} {o : CObj} {x : Option CObj} (e : j ≠ i) (g : h.get j = x) : (h.set i o).get j = x := (h.get_set_ne i j o e).trans g
theorem Heap.new_skip {h : Heap} {j n : Nat} {o : CObj} {x : Option CObj} (hn : h.next = n) (e : j ≠ n) (g : h.get j = x) : (h.new o).get j = x := (h.get_new_ne j o (hn ▸ e)).trans g
theorem Heap.kill_skip {h : Heap} {i j : Nat} {x : Option CObj} (e : j ≠ i) (g : h.get j = x) : (h.kill i).get j = x := (h.get_kill_ne i j e).trans g
theorem Heap.new_at {h : Heap} {j n : Nat} {o : CObj} (hn : h.next = n) (e : j = n) : (h.new o).get j = some o := by subst hn; subst e; exact h.get_new_same o
theorem Heap.set_at {h : Heap} {i j : Nat} {o : CObj} (e : j = i) : (h.set i o).get j = some o := by subst e; exact h.get_set_same j o
theorem Heap.nx_set {h : Heap} {i n : Nat} {o : CObj} (e : h.next = n) : (h.set i o).next = n := e
theorem Heap.nx_kill {h : Heap} {i n : Nat} (e : h.next = n) : (h.kill i).next = n := e
theorem Heap.nx_new {h : Heap} {n : Nat} {o : CObj} (e : h.next = n) : (h.new o).next = n + 1 := by rw [Heap.next_new, e]

/-- Nothing that stood is turned. -/
structure Exd (h h' : Heap) : Prop where
  le : h.next ≤ h'.next
  get : ∀ i, i < h.next → h'.get i = h.get i
theorem Exd.refl (h : Heap) : Exd h h := ⟨Nat.le_refl _, fun _ _ => rfl⟩
theorem Exd.trans {h h' h'' : Heap} (a : Exd h h') (b : Exd h' h'') : Exd h h'' := ⟨Nat.le_trans a.le b.le, fun i hi => (b.get i (Nat.lt_of_lt_of_le hi a.le)).trans (a.get i hi)⟩
theorem Exd.new {h h' : Heap} {o : CObj} (e : Exd h h') : Exd h (h'.new o) := ⟨Nat.le_succ_of_le e.le, fun i hi => by rw [Heap.get_new_ne _ _ _ (by have := e.le; omega)]; exact e.get i hi⟩
theorem Exd.set {h h' : Heap} {i : Nat} {o : CObj} (e : Exd h h') (hi : h.next ≤ i) : Exd h (h'.set i o) := ⟨e.le, fun j hj => by rw [Heap.get_set_ne _ _ _ _ (by omega)]; exact e.get j hj⟩
theorem Exd.kill {h h' : Heap} {i : Nat} (e : Exd h h') (hi : h.next ≤ i) : Exd h (h'.kill i) := ⟨e.le, fun j hj => by rw [Heap.get_kill_ne _ _ _ (by omega)]; exact e.get j hj⟩
theorem Exd.skip {h h' : Heap} {i : Nat} {x : Option CObj} (e : Exd h h') (hi : i < h.next) (g : h.get i = x) : h'.get i = x := (e.get i hi).trans g

/-- Nothing that stood is turned, but what stands at some places. -/
structure Upd (S : Nat → Prop) (h h' : Heap) : Prop where
  le : h.next ≤ h'.next
  get : ∀ i, i < h.next → ¬ S i → h'.get i = h.get i
theorem Upd.refl (S : Nat → Prop) (h : Heap) : Upd S h h := ⟨Nat.le_refl _, fun _ _ _ => rfl⟩
theorem Upd.trans {S : Nat → Prop} {h h' h'' : Heap} (a : Upd S h h') (b : Upd S h' h'') : Upd S h h'' := ⟨Nat.le_trans a.le b.le, fun i hi hs => (b.get i (Nat.lt_of_lt_of_le hi a.le) hs).trans (a.get i hi hs)⟩
theorem Upd.new {S : Nat → Prop} {h h' : Heap} {o : CObj} (e : Upd S h h') : Upd S h (h'.new o) := ⟨Nat.le_succ_of_le e.le, fun i hi hs => by rw [Heap.get_new_ne _ _ _ (by have := e.le; omega)]; exact e.get i hi hs⟩
theorem Upd.set {S : Nat → Prop} {h h' : Heap} {i : Nat} {o : CObj} (e : Upd S h h') (hi : S i ∨ h.next ≤ i) : Upd S h (h'.set i o) := ⟨e.le, fun j hj hs => by rw [Heap.get_set_ne _ _ _ _ (by rintro rfl; rcases hi with h1 | h1; exact hs h1; omega)]; exact e.get j hj hs⟩
theorem Upd.skip {S : Nat → Prop} {h h' : Heap} {i : Nat} {x : Option CObj} (e : Upd S h h') (hi : i < h.next) (hs : ¬ S i) (g : h.get i = x) : h'.get i = x := (e.get i hi hs).trans g
theorem Exd.upd {S : Nat → Prop} {h h' : Heap} (e : Exd h h') : Upd S h h' := ⟨e.le, fun i hi _ => e.get i hi⟩
theorem Upd.ext {S : Nat → Prop} {h h' : Heap} (e : Upd S h h') (hs : ∀ i, i < h.next → ¬ S i) : Exd h h' := ⟨e.le, fun i hi => e.get i hi (hs i hi)⟩

/-! ### Exits -/
section
variable {a : Fr} {h : Heap} {Q : CExit → Fr → Heap → Prop} {K : Fr → Heap → Prop} {id l : Nat}
theorem thenQ_n (k : K a h) : thenQ K Q .normal a h := k
theorem thenQ_x (k : Q (.exit id) a h) : thenQ K Q (.exit id) a h := k
theorem thenQ_r (k : Q .ret a h) : thenQ K Q .ret a h := k
theorem thenQ_g (k : Q (.goto l) a h) : thenQ K Q (.goto l) a h := k
theorem blockQ_n (k : Q .normal a h) : blockQ id Q .normal a h := k
theorem blockQ_r (k : Q .ret a h) : blockQ id Q .ret a h := k
theorem blockQ_g (k : Q (.goto l) a h) : blockQ id Q (.goto l) a h := k
theorem blockQ_xT {id' : Nat} (e : Nat.beq id' id = true) (k : Q .normal a h) : blockQ id Q (.exit id') a h := by
  have e := Nat.eq_of_beq_eq_true e
  simp only [blockQ, e, if_true]; exact k
theorem blockQ_xF {id' : Nat} (e : Nat.beq id' id = false) (k : Q (.exit id') a h) : blockQ id Q (.exit id') a h := by
  have e := Nat.ne_of_beq_eq_false e
  simp only [blockQ, e, if_false]; exact k
end

/-! ### Results -/
inductive RES (N : Nat) (ρ : Env) (h : Heap) : List CRV → List CVal → Prop where
  | nil : RES N ρ h [] []
  | t {i : Nat} {v : CVal} {rs : List CRV} {vs : List CVal} (e : (CX.t i).on N ρ = v) (k : RES N ρ h rs vs) : RES N ρ h (.tmp i :: rs) (v :: vs)
  | c {i j p n : Nat} {v : CVal} {us : List CVal} {wr : Bool} {opn : Option Nat} {rs : List CRV} {vs : List CVal} (e : (CX.t i).on N ρ = .ptr j p) (g : h.get j = some (.cells us wr opn)) (ev : us[p]? = some v) (k : RES N ρ h rs vs) : RES N ρ h (.cell i false n :: rs) (v :: vs)

theorem RES.ok {N : Nat} {ρ : Env} {h : Heap} {rs : List CRV} {vs : List CVal} (r : RES N ρ h rs vs) : resultsC (envL N ρ) h rs = some vs := by
  induction r with
  | nil => rfl
  | t e _ ih => 
    have e' : (envL N ρ).getD _ .undef = _ := (CX.on_ev N ρ (.t _)).trans e
    simp only [resultsC, resC, ih, e']
  | c e g ev _ ih => simp only [resultsC, resC, cop, CX.on_ev, e, g, ev, ih]; simp

theorem end_ret {N : Nat} {ρ : Env} {h : Heap} {rs : List CRV} {vs : List CVal} {Q : CVal → Heap → Prop} (r : RES N ρ h rs vs) (k : Q (packC vs) h) : endQ rs Q .ret ⟨envL N ρ, []⟩ h := ⟨rfl, vs, r.ok, k⟩
theorem end_nor {N : Nat} {ρ : Env} {h : Heap} {rs : List CRV} {vs : List CVal} {Q : CVal → Heap → Prop} (r : RES N ρ h rs vs) (k : Q (packC vs) h) : endQ rs Q .normal ⟨envL N ρ, []⟩ h := ⟨rfl, vs, r.ok, k⟩

/-- A call of a function whose text is known. -/
theorem Cal.go {T : Tab} {f : FuncId} {fn : CFunc} {args : List CVal} {h : Heap} {Q : CVal → Heap → Prop} (hp : T.prim f = none) (hf : T.code f = some fn) (hl : Nat.ble args.length fn.ntmps = true)
    (k : WP T fn.code ⟨envL fn.ntmps (argsE args), []⟩ h (endQ fn.results Q)) : Cal T f args h Q := by
  refine Cal.code hp hf ?_
  rw [frame_env fn args (Nat.le_of_ble_eq_true hl)]
  exact k.mono fun x a' h' q => by
    cases x with
    | normal => exact ⟨.inl rfl, q⟩
    | ret => exact ⟨.inr rfl, q⟩
    | _ => exact q.elim

/-! ### Conditions, loops -/
section
variable {T : Tab} {N : Nat} {ρ : Env} {ds : List (FuncId × List CVal)} {h : Heap} {Q : CExit → Fr → Heap → Prop} {c : CX} {x y : CCode}
theorem condT (hc : c.on N ρ = .bool true) (k : WP T x ⟨envL N ρ, ds⟩ h Q) : WP T (.cond c x y) ⟨envL N ρ, ds⟩ h Q :=
  WP.cond ((CX.on_ev N ρ c).trans hc) (fun _ => k) (fun e => by simp at e)
theorem condF (hc : c.on N ρ = .bool false) (k : WP T y ⟨envL N ρ, ds⟩ h Q) : WP T (.cond c x y) ⟨envL N ρ, ds⟩ h Q :=
  WP.cond ((CX.on_ev N ρ c).trans hc) (fun e => by simp at e) (fun _ => k)
theorem condS {b : Bool} (hc : c.on N ρ = .bool b) (k₁ : b = true → WP T x ⟨envL N ρ, ds⟩ h Q) (k₂ : b = false → WP T y ⟨envL N ρ, ds⟩ h Q) : WP T (.cond c x y) ⟨envL N ρ, ds⟩ h Q :=
  WP.cond ((CX.on_ev N ρ c).trans hc) k₁ k₂

def Env.puts (ρ : Env) : List (Nat × CVal) → Env
  | [] => ρ
  | p :: l => (ρ.puts l).put p.1 p.2
def Env.Has (ρ : Env) : List (Nat × CVal) → Prop
  | [] => True
  | p :: l => ρ p.1 = p.2 ∧ ρ.Has l
theorem Env.put_own (ρ : Env) (t : Nat) : ρ.put t (ρ t) = ρ := by
  funext s; rw [Env.put_at]; split
  · next e => rw [e]
  · rfl
theorem Env.Has.eq {ρ : Env} : ∀ {l : List (Nat × CVal)}, ρ.Has l → ρ.puts l = ρ
  | [], _ => rfl
  | p :: l, ⟨e, k⟩ => by rw [Env.puts, Env.Has.eq k, ← e, Env.put_own]

theorem loopE {α : Type} (L : α → List (Nat × CVal)) (I : α → Heap → Prop) (μ : α → Nat) (s₀ : α) (i₀ : ρ.Has (L s₀)) (j₀ : I s₀ h)
    (round : ∀ (s : α) (ρ : Env) (h : Heap), I s h → WP T x ⟨envL N (ρ.puts (L s)), ds⟩ h (thenQ (fun a' h' => ∃ (s' : α) (ρ' : Env), a' = ⟨envL N ρ', ds⟩ ∧ ρ'.Has (L s') ∧ I s' h' ∧ μ s' < μ s) Q)) : WP T (.loop x) ⟨envL N ρ, ds⟩ h Q := by
  refine WP.loop_inv (fun s a h => ∃ ρ, a = ⟨envL N ρ, ds⟩ ∧ ρ.Has (L s) ∧ I s h) μ ?_ s₀ ⟨ρ, rfl, i₀, j₀⟩
  rintro s a h ⟨ρ, rfl, hl, hi⟩
  refine (hl.eq ▸ round s ρ h hi : WP T x ⟨envL N ρ, ds⟩ h _).mono ?_
  intro e a' h' q
  cases e with
  | normal => obtain ⟨s', ρ', e1, e2, e3, e4⟩ := q; exact ⟨s', ⟨ρ', e1, e2, e3⟩, e4⟩
  | _ => exact q

/-- A scope of which no goto is reached, or one to a label. -/
def scopeQ (rests : List (Nat × CCode)) (T : Tab) (Q : CExit → Fr → Heap → Prop) : CExit → Fr → Heap → Prop
  | .goto l, a, h => ∃ r, findRest l rests = some r ∧ WP T (.scope r rests) a h Q
  | x, a, h => Q x a h
theorem WP.scope {a : Fr} {b : CCode} {rests : List (Nat × CCode)} (k : WP T b a h (scopeQ rests T Q)) : WP T (.scope b rests) a h Q := by
  obtain ⟨n, e, a', h', ev, q⟩ := k
  cases e with
  | goto l =>
    obtain ⟨r, hr, m, e', a'', h'', ev', q'⟩ := q
    refine ⟨max n m + 1, e', a'', h'', ?_, q'⟩
    have hn : n ≤ max n m := Nat.le_max_left _ _
    have hm : m ≤ max n m := Nat.le_max_right _ _
    simp only [evCode]
    rw [evCode_mono (callF_mono T (Nat.le_succ_of_le hn)) hn ev]
    simp only [hr]
    exact evCode_mono (callF_mono T (Nat.le_succ_of_le hm)) hm ev'
  | _ =>
    refine ⟨n + 1, _, a', h', ?_, q⟩
    simp only [evCode]
    rw [evCode_mono (callF_mono T (Nat.le_succ n)) (Nat.le_refl n) ev]
theorem scopeQ_n {a : Fr} {rests : List (Nat × CCode)} (k : Q .normal a h) : scopeQ rests T Q .normal a h := k
theorem scopeQ_x {a : Fr} {id : Nat} {rests : List (Nat × CCode)} (k : Q (.exit id) a h) : scopeQ rests T Q (.exit id) a h := k
theorem scopeQ_r {a : Fr} {rests : List (Nat × CCode)} (k : Q .ret a h) : scopeQ rests T Q .ret a h := k
theorem scopeQ_g {a : Fr} {l : Nat} {rests : List (Nat × CCode)} {r : CCode} (e : findRest l rests = some r) (k : WP T (.scope r rests) a h Q) : scopeQ rests T Q (.goto l) a h := ⟨r, e, k⟩

theorem WP.wipe {a : Fr} {ts : List Nat} (k : Q .normal (a.wipe ts) h) : WP T (.wipe ts) a h Q := ⟨1, _, _, _, rfl, k⟩
def Env.wipe (ρ : Env) : List Nat → Env
  | [] => ρ
  | t :: ts => (ρ.put t .undef).wipe ts
theorem wipe_env : ∀ (ts : List Nat) (ρ : Env), Fr.wipe ⟨envL N ρ, ds⟩ ts = ⟨envL N (ρ.wipe ts), ds⟩
  | [], _ => rfl
  | t :: ts, ρ => by rw [Fr.wipe, Env.wipe, ← wipe_env ts]; simp only [envL_put]
theorem wipeE {ts : List Nat} (k : Q .normal ⟨envL N (ρ.wipe ts), ds⟩ h) : WP T (.wipe ts) ⟨envL N ρ, ds⟩ h Q := WP.wipe (by rw [wipe_env]; exact k)
end

namespace O
section
variable {T : Tab} {os : List COper} {N : Nat} {ρ : Env} {ds : List (FuncId × List CVal)} {h h' : Heap} {K : Fr → Heap → Prop} {d : Option Nat}

theorem pickTI {c x y : CX} {i : IntKind} {a : Int} (hc : c.on N ρ = .bool true) (hx : x.on N ρ = .int i a) (k : WPO T os ⟨envL N (ρ.putO d (.int i a)), ds⟩ h K) : WPO T (⟨d, .pick c x y, none⟩ :: os) ⟨envL N ρ, ds⟩ h K := pickT hc hx k
theorem pickFI {c x y : CX} {i : IntKind} {a : Int} (hc : c.on N ρ = .bool false) (hx : y.on N ρ = .int i a) (k : WPO T os ⟨envL N (ρ.putO d (.int i a)), ds⟩ h K) : WPO T (⟨d, .pick c x y, none⟩ :: os) ⟨envL N ρ, ds⟩ h K := pickF hc hx k
theorem pickTB {c x y : CX} {b : Bool} (hc : c.on N ρ = .bool true) (hx : x.on N ρ = .bool b) (k : WPO T os ⟨envL N (ρ.putO d (.bool b)), ds⟩ h K) : WPO T (⟨d, .pick c x y, none⟩ :: os) ⟨envL N ρ, ds⟩ h K := pickT hc hx k
theorem pickFB {c x y : CX} {b : Bool} (hc : c.on N ρ = .bool false) (hx : y.on N ρ = .bool b) (k : WPO T os ⟨envL N (ρ.putO d (.bool b)), ds⟩ h K) : WPO T (⟨d, .pick c x y, none⟩ :: os) ⟨envL N ρ, ds⟩ h K := pickF hc hx k
theorem pickTS {c x y : CX} {s : List UInt8} (hc : c.on N ρ = .bool true) (hx : x.on N ρ = .str s) (k : WPO T os ⟨envL N (ρ.putO d (.str s)), ds⟩ h K) : WPO T (⟨d, .pick c x y, none⟩ :: os) ⟨envL N ρ, ds⟩ h K := pickT hc hx k
theorem pickFS {c x y : CX} {s : List UInt8} (hc : c.on N ρ = .bool false) (hx : y.on N ρ = .str s) (k : WPO T os ⟨envL N (ρ.putO d (.str s)), ds⟩ h K) : WPO T (⟨d, .pick c x y, none⟩ :: os) ⟨envL N ρ, ds⟩ h K := pickF hc hx k
theorem pickTP {c x y : CX} {i o : Nat} (hc : c.on N ρ = .bool true) (hx : x.on N ρ = .ptr i o) (k : WPO T os ⟨envL N (ρ.putO d (.ptr i o)), ds⟩ h K) : WPO T (⟨d, .pick c x y, none⟩ :: os) ⟨envL N ρ, ds⟩ h K := pickT hc hx k
theorem pickFP {c x y : CX} {i o : Nat} (hc : c.on N ρ = .bool false) (hx : y.on N ρ = .ptr i o) (k : WPO T os ⟨envL N (ρ.putO d (.ptr i o)), ds⟩ h K) : WPO T (⟨d, .pick c x y, none⟩ :: os) ⟨envL N ρ, ds⟩ h K := pickF hc hx k
theorem pickTPN {c x y : CX}  (hc : c.on N ρ = .bool true) (hx : x.on N ρ = .nilPtr) (k : WPO T os ⟨envL N (ρ.putO d (.nilPtr)), ds⟩ h K) : WPO T (⟨d, .pick c x y, none⟩ :: os) ⟨envL N ρ, ds⟩ h K := pickT hc hx k
theorem pickFPN {c x y : CX}  (hc : c.on N ρ = .bool false) (hx : y.on N ρ = .nilPtr) (k : WPO T os ⟨envL N (ρ.putO d (.nilPtr)), ds⟩ h K) : WPO T (⟨d, .pick c x y, none⟩ :: os) ⟨envL N ρ, ds⟩ h K := pickF hc hx k
theorem pickTL {c x y : CX} {i o l cc : Nat} (hc : c.on N ρ = .bool true) (hx : x.on N ρ = .slice i o l cc) (k : WPO T os ⟨envL N (ρ.putO d (.slice i o l cc)), ds⟩ h K) : WPO T (⟨d, .pick c x y, none⟩ :: os) ⟨envL N ρ, ds⟩ h K := pickT hc hx k
theorem pickFL {c x y : CX} {i o l cc : Nat} (hc : c.on N ρ = .bool false) (hx : y.on N ρ = .slice i o l cc) (k : WPO T os ⟨envL N (ρ.putO d (.slice i o l cc)), ds⟩ h K) : WPO T (⟨d, .pick c x y, none⟩ :: os) ⟨envL N ρ, ds⟩ h K := pickF hc hx k
theorem pickTN {c x y : CX}  (hc : c.on N ρ = .bool true) (hx : x.on N ρ = .nilSlice) (k : WPO T os ⟨envL N (ρ.putO d (.nilSlice)), ds⟩ h K) : WPO T (⟨d, .pick c x y, none⟩ :: os) ⟨envL N ρ, ds⟩ h K := pickT hc hx k
theorem pickFN {c x y : CX}  (hc : c.on N ρ = .bool false) (hx : y.on N ρ = .nilSlice) (k : WPO T os ⟨envL N (ρ.putO d (.nilSlice)), ds⟩ h K) : WPO T (⟨d, .pick c x y, none⟩ :: os) ⟨envL N ρ, ds⟩ h K := pickF hc hx k
theorem mvM {x : CX} {i : Nat} (hx : x.on N ρ = .map i) (k : WPO T os ⟨envL N (ρ.putO d (.map i)), ds⟩ h K) : WPO T (⟨d, .move x, none⟩ :: os) ⟨envL N ρ, ds⟩ h K := mv hx k
theorem pickTM {c x y : CX} {i : Nat} (hc : c.on N ρ = .bool true) (hx : x.on N ρ = .map i) (k : WPO T os ⟨envL N (ρ.putO d (.map i)), ds⟩ h K) : WPO T (⟨d, .pick c x y, none⟩ :: os) ⟨envL N ρ, ds⟩ h K := pickT hc hx k
theorem pickFM {c x y : CX} {i : Nat} (hc : c.on N ρ = .bool false) (hx : y.on N ρ = .map i) (k : WPO T os ⟨envL N (ρ.putO d (.map i)), ds⟩ h K) : WPO T (⟨d, .pick c x y, none⟩ :: os) ⟨envL N ρ, ds⟩ h K := pickF hc hx k
theorem mvMN {x : CX}  (hx : x.on N ρ = .nilMap) (k : WPO T os ⟨envL N (ρ.putO d (.nilMap)), ds⟩ h K) : WPO T (⟨d, .move x, none⟩ :: os) ⟨envL N ρ, ds⟩ h K := mv hx k
theorem pickTMN {c x y : CX}  (hc : c.on N ρ = .bool true) (hx : x.on N ρ = .nilMap) (k : WPO T os ⟨envL N (ρ.putO d (.nilMap)), ds⟩ h K) : WPO T (⟨d, .pick c x y, none⟩ :: os) ⟨envL N ρ, ds⟩ h K := pickT hc hx k
theorem pickFMN {c x y : CX}  (hc : c.on N ρ = .bool false) (hx : y.on N ρ = .nilMap) (k : WPO T os ⟨envL N (ρ.putO d (.nilMap)), ds⟩ h K) : WPO T (⟨d, .pick c x y, none⟩ :: os) ⟨envL N ρ, ds⟩ h K := pickF hc hx k
theorem pickTF {c x y : CX} {f : FuncId} {p q : List CVal} (hc : c.on N ρ = .bool true) (hx : x.on N ρ = .func f p q) (k : WPO T os ⟨envL N (ρ.putO d (.func f p q)), ds⟩ h K) : WPO T (⟨d, .pick c x y, none⟩ :: os) ⟨envL N ρ, ds⟩ h K := pickT hc hx k
theorem pickFF {c x y : CX} {f : FuncId} {p q : List CVal} (hc : c.on N ρ = .bool false) (hx : y.on N ρ = .func f p q) (k : WPO T os ⟨envL N (ρ.putO d (.func f p q)), ds⟩ h K) : WPO T (⟨d, .pick c x y, none⟩ :: os) ⟨envL N ρ, ds⟩ h K := pickF hc hx k
theorem mvFN {x : CX}  (hx : x.on N ρ = .nilFunc) (k : WPO T os ⟨envL N (ρ.putO d (.nilFunc)), ds⟩ h K) : WPO T (⟨d, .move x, none⟩ :: os) ⟨envL N ρ, ds⟩ h K := mv hx k
theorem pickTFN {c x y : CX}  (hc : c.on N ρ = .bool true) (hx : x.on N ρ = .nilFunc) (k : WPO T os ⟨envL N (ρ.putO d (.nilFunc)), ds⟩ h K) : WPO T (⟨d, .pick c x y, none⟩ :: os) ⟨envL N ρ, ds⟩ h K := pickT hc hx k
theorem pickFFN {c x y : CX}  (hc : c.on N ρ = .bool false) (hx : y.on N ρ = .nilFunc) (k : WPO T os ⟨envL N (ρ.putO d (.nilFunc)), ds⟩ h K) : WPO T (⟨d, .pick c x y, none⟩ :: os) ⟨envL N ρ, ds⟩ h K := pickF hc hx k
theorem pickTA {c x y : CX} {vs : List CVal} (hc : c.on N ρ = .bool true) (hx : x.on N ρ = .agg vs) (k : WPO T os ⟨envL N (ρ.putO d (.agg vs)), ds⟩ h K) : WPO T (⟨d, .pick c x y, none⟩ :: os) ⟨envL N ρ, ds⟩ h K := pickT hc hx k
theorem pickFA {c x y : CX} {vs : List CVal} (hc : c.on N ρ = .bool false) (hx : y.on N ρ = .agg vs) (k : WPO T os ⟨envL N (ρ.putO d (.agg vs)), ds⟩ h K) : WPO T (⟨d, .pick c x y, none⟩ :: os) ⟨envL N ρ, ds⟩ h K := pickF hc hx k
theorem pickTT {c x y : CX} {vs : List CVal} (hc : c.on N ρ = .bool true) (hx : x.on N ρ = .tuple vs) (k : WPO T os ⟨envL N (ρ.putO d (.tuple vs)), ds⟩ h K) : WPO T (⟨d, .pick c x y, none⟩ :: os) ⟨envL N ρ, ds⟩ h K := pickT hc hx k
theorem pickFT {c x y : CX} {vs : List CVal} (hc : c.on N ρ = .bool false) (hx : y.on N ρ = .tuple vs) (k : WPO T os ⟨envL N (ρ.putO d (.tuple vs)), ds⟩ h K) : WPO T (⟨d, .pick c x y, none⟩ :: os) ⟨envL N ρ, ds⟩ h K := pickF hc hx k
theorem mvX {x : CX} {t : TypeId} {v : CVal} (hx : x.on N ρ = .iface t v) (k : WPO T os ⟨envL N (ρ.putO d (.iface t v)), ds⟩ h K) : WPO T (⟨d, .move x, none⟩ :: os) ⟨envL N ρ, ds⟩ h K := mv hx k
theorem pickTX {c x y : CX} {t : TypeId} {v : CVal} (hc : c.on N ρ = .bool true) (hx : x.on N ρ = .iface t v) (k : WPO T os ⟨envL N (ρ.putO d (.iface t v)), ds⟩ h K) : WPO T (⟨d, .pick c x y, none⟩ :: os) ⟨envL N ρ, ds⟩ h K := pickT hc hx k
theorem pickFX {c x y : CX} {t : TypeId} {v : CVal} (hc : c.on N ρ = .bool false) (hx : y.on N ρ = .iface t v) (k : WPO T os ⟨envL N (ρ.putO d (.iface t v)), ds⟩ h K) : WPO T (⟨d, .pick c x y, none⟩ :: os) ⟨envL N ρ, ds⟩ h K := pickF hc hx k
theorem mvXN {x : CX}  (hx : x.on N ρ = .nilIface) (k : WPO T os ⟨envL N (ρ.putO d (.nilIface)), ds⟩ h K) : WPO T (⟨d, .move x, none⟩ :: os) ⟨envL N ρ, ds⟩ h K := mv hx k
theorem pickTXN {c x y : CX}  (hc : c.on N ρ = .bool true) (hx : x.on N ρ = .nilIface) (k : WPO T os ⟨envL N (ρ.putO d (.nilIface)), ds⟩ h K) : WPO T (⟨d, .pick c x y, none⟩ :: os) ⟨envL N ρ, ds⟩ h K := pickT hc hx k
theorem pickFXN {c x y : CX}  (hc : c.on N ρ = .bool false) (hx : y.on N ρ = .nilIface) (k : WPO T os ⟨envL N (ρ.putO d (.nilIface)), ds⟩ h K) : WPO T (⟨d, .pick c x y, none⟩ :: os) ⟨envL N ρ, ds⟩ h K := pickF hc hx k
theorem mvBT {x : CX} (hx : x.on N ρ = .bool true) (k : WPO T os ⟨envL N (ρ.putO d (.bool true)), ds⟩ h K) : WPO T (⟨d, .move x, none⟩ :: os) ⟨envL N ρ, ds⟩ h K := mv hx k
theorem mvBF {x : CX} (hx : x.on N ρ = .bool false) (k : WPO T os ⟨envL N (ρ.putO d (.bool false)), ds⟩ h K) : WPO T (⟨d, .move x, none⟩ :: os) ⟨envL N ρ, ds⟩ h K := mv hx k
theorem mvBS {x : CX} {b : Bool} (hx : x.on N ρ = .bool b) (k₁ : b = true → WPO T os ⟨envL N (ρ.putO d (.bool true)), ds⟩ h K) (k₂ : b = false → WPO T os ⟨envL N (ρ.putO d (.bool false)), ds⟩ h K) : WPO T (⟨d, .move x, none⟩ :: os) ⟨envL N ρ, ds⟩ h K := mv hx (by cases b; exact k₂ rfl; exact k₁ rfl)
theorem gS {op : COp} {t : Nat} {w b : Bool} (hv : (CX.t t).on N ρ = .bool b) (k₁ : b = w → WPO T (⟨d, op, none⟩ :: os) ⟨envL N ρ, ds⟩ h K) (k₂ : b ≠ w → WPO T os ⟨envL N (ρ.putO d (.un)), ds⟩ h K) : WPO T (⟨d, op, some (t, w)⟩ :: os) ⟨envL N ρ, ds⟩ h K := by
  by_cases e : b = w
  · exact gT (e ▸ hv) (k₁ e)
  · exact gF hv e (k₂ e)
theorem gTT {op : COp} {t : Nat} (hv : (CX.t t).on N ρ = .bool true) (k : WPO T (⟨d, op, none⟩ :: os) ⟨envL N ρ, ds⟩ h K) : WPO T (⟨d, op, some (t, true)⟩ :: os) ⟨envL N ρ, ds⟩ h K := gT hv k
theorem gFF {op : COp} {t : Nat} (hv : (CX.t t).on N ρ = .bool false) (k : WPO T (⟨d, op, none⟩ :: os) ⟨envL N ρ, ds⟩ h K) : WPO T (⟨d, op, some (t, false)⟩ :: os) ⟨envL N ρ, ds⟩ h K := gT hv k
theorem gTF {op : COp} {t : Nat} (hv : (CX.t t).on N ρ = .bool false) (k : WPO T os ⟨envL N (ρ.putO d (.un)), ds⟩ h K) : WPO T (⟨d, op, some (t, true)⟩ :: os) ⟨envL N ρ, ds⟩ h K := gF hv (by decide) k
theorem gFT {op : COp} {t : Nat} (hv : (CX.t t).on N ρ = .bool true) (k : WPO T os ⟨envL N (ρ.putO d (.un)), ds⟩ h K) : WPO T (⟨d, op, some (t, false)⟩ :: os) ⟨envL N ρ, ds⟩ h K := gF hv (by decide) k
theorem notT {x : CX} (hx : x.on N ρ = .bool true) (k : WPO T os ⟨envL N (ρ.putO d (.bool false)), ds⟩ h K) : WPO T (⟨d, .un .not x, none⟩ :: os) ⟨envL N ρ, ds⟩ h K := un hx rfl k
theorem notF {x : CX} (hx : x.on N ρ = .bool false) (k : WPO T os ⟨envL N (ρ.putO d (.bool true)), ds⟩ h K) : WPO T (⟨d, .un .not x, none⟩ :: os) ⟨envL N ρ, ds⟩ h K := un hx rfl k
theorem notS {x : CX} {b : Bool} (hx : x.on N ρ = .bool b) (k₁ : b = true → WPO T os ⟨envL N (ρ.putO d (.bool false)), ds⟩ h K) (k₂ : b = false → WPO T os ⟨envL N (ρ.putO d (.bool true)), ds⟩ h K) : WPO T (⟨d, .un .not x, none⟩ :: os) ⟨envL N ρ, ds⟩ h K := by
  cases b
  · exact notF hx (k₂ rfl)
  · exact notT hx (k₁ rfl)
theorem eqT {tk : TK} {neg b : Bool} {x y : CX} {u v : CVal} (hx : x.on N ρ = u) (hy : y.on N ρ = v) (e : keq tk u v = some b) (hb : (if neg then !b else b) = true) (k : WPO T os ⟨envL N (ρ.putO d (.bool true)), ds⟩ h K) : WPO T (⟨d, .eq tk neg x y, none⟩ :: os) ⟨envL N ρ, ds⟩ h K := eq hx hy e (hb.symm ▸ k)
theorem eqF {tk : TK} {neg b : Bool} {x y : CX} {u v : CVal} (hx : x.on N ρ = u) (hy : y.on N ρ = v) (e : keq tk u v = some b) (hb : (if neg then !b else b) = false) (k : WPO T os ⟨envL N (ρ.putO d (.bool false)), ds⟩ h K) : WPO T (⟨d, .eq tk neg x y, none⟩ :: os) ⟨envL N ρ, ds⟩ h K := eq hx hy e (hb.symm ▸ k)
theorem eqBS {neg : Bool} {x y : CX} {u v : Bool} (hx : x.on N ρ = .bool u) (hy : y.on N ρ = .bool v) (k₁ : u = v → WPO T os ⟨envL N (ρ.putO d (.bool (!neg))), ds⟩ h K) (k₂ : u ≠ v → WPO T os ⟨envL N (ρ.putO d (.bool neg)), ds⟩ h K) : WPO T (⟨d, .eq .bool neg x y, none⟩ :: os) ⟨envL N ρ, ds⟩ h K := by
  refine eq hx hy rfl ?_
  by_cases e : u = v
  · have : (if neg = true then !(u == v) else (u == v)) = !neg := by subst e; cases neg <;> simp
    rw [this]; exact k₁ e
  · have : (if neg = true then !(u == v) else (u == v)) = neg := by cases neg <;> simp [e]
    rw [this]; exact k₂ e
theorem ltT {x y : CX} {i : IntKind} {a b : Int} (hx : x.on N ρ = .int i a) (hy : y.on N ρ = .int i b) (hp : a < b) (k : WPO T os ⟨envL N (ρ.putO d (.bool true)), ds⟩ h K) : WPO T (⟨d, .bin .lss x y, none⟩ :: os) ⟨envL N ρ, ds⟩ h K := by
  refine bin (r := .bool (decide (a < b))) hx hy (by simp [binC, intBin]) ?_
  have e : (decide (a < b)) = true := by simp; omega
  rw [e]; exact k
theorem ltF {x y : CX} {i : IntKind} {a b : Int} (hx : x.on N ρ = .int i a) (hy : y.on N ρ = .int i b) (hp : b ≤ a) (k : WPO T os ⟨envL N (ρ.putO d (.bool false)), ds⟩ h K) : WPO T (⟨d, .bin .lss x y, none⟩ :: os) ⟨envL N ρ, ds⟩ h K := by
  refine bin (r := .bool (decide (a < b))) hx hy (by simp [binC, intBin]) ?_
  have e : (decide (a < b)) = false := by simp; omega
  rw [e]; exact k
theorem ltS {x y : CX} {i : IntKind} {a b : Int} (hx : x.on N ρ = .int i a) (hy : y.on N ρ = .int i b) (k₁ : a < b → WPO T os ⟨envL N (ρ.putO d (.bool true)), ds⟩ h K) (k₂ : b ≤ a → WPO T os ⟨envL N (ρ.putO d (.bool false)), ds⟩ h K) : WPO T (⟨d, .bin .lss x y, none⟩ :: os) ⟨envL N ρ, ds⟩ h K := by
  by_cases e : a < b
  · exact ltT hx hy e (k₁ e)
  · have e : b ≤ a := by omega
    exact ltF hx hy e (k₂ e)
theorem leT {x y : CX} {i : IntKind} {a b : Int} (hx : x.on N ρ = .int i a) (hy : y.on N ρ = .int i b) (hp : a ≤ b) (k : WPO T os ⟨envL N (ρ.putO d (.bool true)), ds⟩ h K) : WPO T (⟨d, .bin .leq x y, none⟩ :: os) ⟨envL N ρ, ds⟩ h K := by
  refine bin (r := .bool (decide (a ≤ b))) hx hy (by simp [binC, intBin]) ?_
  have e : (decide (a ≤ b)) = true := by simp; omega
  rw [e]; exact k
theorem leF {x y : CX} {i : IntKind} {a b : Int} (hx : x.on N ρ = .int i a) (hy : y.on N ρ = .int i b) (hp : b < a) (k : WPO T os ⟨envL N (ρ.putO d (.bool false)), ds⟩ h K) : WPO T (⟨d, .bin .leq x y, none⟩ :: os) ⟨envL N ρ, ds⟩ h K := by
  refine bin (r := .bool (decide (a ≤ b))) hx hy (by simp [binC, intBin]) ?_
  have e : (decide (a ≤ b)) = false := by simp; omega
  rw [e]; exact k
theorem leS {x y : CX} {i : IntKind} {a b : Int} (hx : x.on N ρ = .int i a) (hy : y.on N ρ = .int i b) (k₁ : a ≤ b → WPO T os ⟨envL N (ρ.putO d (.bool true)), ds⟩ h K) (k₂ : b < a → WPO T os ⟨envL N (ρ.putO d (.bool false)), ds⟩ h K) : WPO T (⟨d, .bin .leq x y, none⟩ :: os) ⟨envL N ρ, ds⟩ h K := by
  by_cases e : a ≤ b
  · exact leT hx hy e (k₁ e)
  · have e : b < a := by omega
    exact leF hx hy e (k₂ e)
theorem gtT {x y : CX} {i : IntKind} {a b : Int} (hx : x.on N ρ = .int i a) (hy : y.on N ρ = .int i b) (hp : b < a) (k : WPO T os ⟨envL N (ρ.putO d (.bool true)), ds⟩ h K) : WPO T (⟨d, .bin .gtr x y, none⟩ :: os) ⟨envL N ρ, ds⟩ h K := by
  refine bin (r := .bool (decide (a > b))) hx hy (by simp [binC, intBin]) ?_
  have e : (decide (a > b)) = true := by simp; omega
  rw [e]; exact k
theorem gtF {x y : CX} {i : IntKind} {a b : Int} (hx : x.on N ρ = .int i a) (hy : y.on N ρ = .int i b) (hp : a ≤ b) (k : WPO T os ⟨envL N (ρ.putO d (.bool false)), ds⟩ h K) : WPO T (⟨d, .bin .gtr x y, none⟩ :: os) ⟨envL N ρ, ds⟩ h K := by
  refine bin (r := .bool (decide (a > b))) hx hy (by simp [binC, intBin]) ?_
  have e : (decide (a > b)) = false := by simp; omega
  rw [e]; exact k
theorem gtS {x y : CX} {i : IntKind} {a b : Int} (hx : x.on N ρ = .int i a) (hy : y.on N ρ = .int i b) (k₁ : b < a → WPO T os ⟨envL N (ρ.putO d (.bool true)), ds⟩ h K) (k₂ : a ≤ b → WPO T os ⟨envL N (ρ.putO d (.bool false)), ds⟩ h K) : WPO T (⟨d, .bin .gtr x y, none⟩ :: os) ⟨envL N ρ, ds⟩ h K := by
  by_cases e : b < a
  · exact gtT hx hy e (k₁ e)
  · have e : a ≤ b := by omega
    exact gtF hx hy e (k₂ e)
theorem geT {x y : CX} {i : IntKind} {a b : Int} (hx : x.on N ρ = .int i a) (hy : y.on N ρ = .int i b) (hp : b ≤ a) (k : WPO T os ⟨envL N (ρ.putO d (.bool true)), ds⟩ h K) : WPO T (⟨d, .bin .geq x y, none⟩ :: os) ⟨envL N ρ, ds⟩ h K := by
  refine bin (r := .bool (decide (a ≥ b))) hx hy (by simp [binC, intBin]) ?_
  have e : (decide (a ≥ b)) = true := by simp; omega
  rw [e]; exact k
theorem geF {x y : CX} {i : IntKind} {a b : Int} (hx : x.on N ρ = .int i a) (hy : y.on N ρ = .int i b) (hp : a < b) (k : WPO T os ⟨envL N (ρ.putO d (.bool false)), ds⟩ h K) : WPO T (⟨d, .bin .geq x y, none⟩ :: os) ⟨envL N ρ, ds⟩ h K := by
  refine bin (r := .bool (decide (a ≥ b))) hx hy (by simp [binC, intBin]) ?_
  have e : (decide (a ≥ b)) = false := by simp; omega
  rw [e]; exact k
theorem geS {x y : CX} {i : IntKind} {a b : Int} (hx : x.on N ρ = .int i a) (hy : y.on N ρ = .int i b) (k₁ : b ≤ a → WPO T os ⟨envL N (ρ.putO d (.bool true)), ds⟩ h K) (k₂ : a < b → WPO T os ⟨envL N (ρ.putO d (.bool false)), ds⟩ h K) : WPO T (⟨d, .bin .geq x y, none⟩ :: os) ⟨envL N ρ, ds⟩ h K := by
  by_cases e : b ≤ a
  · exact geT hx hy e (k₁ e)
  · have e : a < b := by omega
    exact geF hx hy e (k₂ e)
theorem eqiT {x y : CX} {i : IntKind} {a b : Int} (hx : x.on N ρ = .int i a) (hy : y.on N ρ = .int i b) (hp : a = b) (k : WPO T os ⟨envL N (ρ.putO d (.bool true)), ds⟩ h K) : WPO T (⟨d, .bin .eql x y, none⟩ :: os) ⟨envL N ρ, ds⟩ h K := by
  refine bin (r := .bool (a == b)) hx hy (by simp [binC, intBin]) ?_
  have e : (a == b) = true := by simp; omega
  rw [e]; exact k
theorem eqiF {x y : CX} {i : IntKind} {a b : Int} (hx : x.on N ρ = .int i a) (hy : y.on N ρ = .int i b) (hp : a ≠ b) (k : WPO T os ⟨envL N (ρ.putO d (.bool false)), ds⟩ h K) : WPO T (⟨d, .bin .eql x y, none⟩ :: os) ⟨envL N ρ, ds⟩ h K := by
  refine bin (r := .bool (a == b)) hx hy (by simp [binC, intBin]) ?_
  have e : (a == b) = false := by simp; omega
  rw [e]; exact k
theorem eqiS {x y : CX} {i : IntKind} {a b : Int} (hx : x.on N ρ = .int i a) (hy : y.on N ρ = .int i b) (k₁ : a = b → WPO T os ⟨envL N (ρ.putO d (.bool true)), ds⟩ h K) (k₂ : a ≠ b → WPO T os ⟨envL N (ρ.putO d (.bool false)), ds⟩ h K) : WPO T (⟨d, .bin .eql x y, none⟩ :: os) ⟨envL N ρ, ds⟩ h K := by
  by_cases e : a = b
  · exact eqiT hx hy e (k₁ e)
  · have e : a ≠ b := by omega
    exact eqiF hx hy e (k₂ e)
theorem neiT {x y : CX} {i : IntKind} {a b : Int} (hx : x.on N ρ = .int i a) (hy : y.on N ρ = .int i b) (hp : a ≠ b) (k : WPO T os ⟨envL N (ρ.putO d (.bool true)), ds⟩ h K) : WPO T (⟨d, .bin .neq x y, none⟩ :: os) ⟨envL N ρ, ds⟩ h K := by
  refine bin (r := .bool (a != b)) hx hy (by simp [binC, intBin]) ?_
  have e : (a != b) = true := by simp; omega
  rw [e]; exact k
theorem neiF {x y : CX} {i : IntKind} {a b : Int} (hx : x.on N ρ = .int i a) (hy : y.on N ρ = .int i b) (hp : a = b) (k : WPO T os ⟨envL N (ρ.putO d (.bool false)), ds⟩ h K) : WPO T (⟨d, .bin .neq x y, none⟩ :: os) ⟨envL N ρ, ds⟩ h K := by
  refine bin (r := .bool (a != b)) hx hy (by simp [binC, intBin]) ?_
  have e : (a != b) = false := by simp; omega
  rw [e]; exact k
theorem neiS {x y : CX} {i : IntKind} {a b : Int} (hx : x.on N ρ = .int i a) (hy : y.on N ρ = .int i b) (k₁ : a ≠ b → WPO T os ⟨envL N (ρ.putO d (.bool true)), ds⟩ h K) (k₂ : a = b → WPO T os ⟨envL N (ρ.putO d (.bool false)), ds⟩ h K) : WPO T (⟨d, .bin .neq x y, none⟩ :: os) ⟨envL N ρ, ds⟩ h K := by
  by_cases e : a ≠ b
  · exact neiT hx hy e (k₁ e)
  · have e : a = b := by omega
    exact neiF hx hy e (k₂ e)
theorem eqsT {x y : CX} {a b : List UInt8} (hx : x.on N ρ = .str a) (hy : y.on N ρ = .str b) (hp : a = b) (k : WPO T os ⟨envL N (ρ.putO d (.bool true)), ds⟩ h K) : WPO T (⟨d, .bin .eql x y, none⟩ :: os) ⟨envL N ρ, ds⟩ h K := by
  refine bin (r := .bool (a == b)) hx hy (by simp [binC, strBin]) ?_
  have e : (a == b) = true := by simp [hp]
  rw [e]; exact k
theorem eqsF {x y : CX} {a b : List UInt8} (hx : x.on N ρ = .str a) (hy : y.on N ρ = .str b) (hp : a ≠ b) (k : WPO T os ⟨envL N (ρ.putO d (.bool false)), ds⟩ h K) : WPO T (⟨d, .bin .eql x y, none⟩ :: os) ⟨envL N ρ, ds⟩ h K := by
  refine bin (r := .bool (a == b)) hx hy (by simp [binC, strBin]) ?_
  have e : (a == b) = false := by simp [hp]
  rw [e]; exact k
theorem eqsS {x y : CX} {a b : List UInt8} (hx : x.on N ρ = .str a) (hy : y.on N ρ = .str b) (k₁ : a = b → WPO T os ⟨envL N (ρ.putO d (.bool true)), ds⟩ h K) (k₂ : a ≠ b → WPO T os ⟨envL N (ρ.putO d (.bool false)), ds⟩ h K) : WPO T (⟨d, .bin .eql x y, none⟩ :: os) ⟨envL N ρ, ds⟩ h K := by
  by_cases e : a = b
  · exact eqsT hx hy e (k₁ e)
  · have e : a ≠ b := by simpa using e
    exact eqsF hx hy e (k₂ e)
theorem nesT {x y : CX} {a b : List UInt8} (hx : x.on N ρ = .str a) (hy : y.on N ρ = .str b) (hp : a ≠ b) (k : WPO T os ⟨envL N (ρ.putO d (.bool true)), ds⟩ h K) : WPO T (⟨d, .bin .neq x y, none⟩ :: os) ⟨envL N ρ, ds⟩ h K := by
  refine bin (r := .bool (!(a == b))) hx hy (by simp [binC, strBin]) ?_
  have e : (!(a == b)) = true := by simp [hp]
  rw [e]; exact k
theorem nesF {x y : CX} {a b : List UInt8} (hx : x.on N ρ = .str a) (hy : y.on N ρ = .str b) (hp : a = b) (k : WPO T os ⟨envL N (ρ.putO d (.bool false)), ds⟩ h K) : WPO T (⟨d, .bin .neq x y, none⟩ :: os) ⟨envL N ρ, ds⟩ h K := by
  refine bin (r := .bool (!(a == b))) hx hy (by simp [binC, strBin]) ?_
  have e : (!(a == b)) = false := by simp [hp]
  rw [e]; exact k
theorem nesS {x y : CX} {a b : List UInt8} (hx : x.on N ρ = .str a) (hy : y.on N ρ = .str b) (k₁ : a ≠ b → WPO T os ⟨envL N (ρ.putO d (.bool true)), ds⟩ h K) (k₂ : a = b → WPO T os ⟨envL N (ρ.putO d (.bool false)), ds⟩ h K) : WPO T (⟨d, .bin .neq x y, none⟩ :: os) ⟨envL N ρ, ds⟩ h K := by
  by_cases e : a ≠ b
  · exact nesT hx hy e (k₁ e)
  · have e : a = b := by simpa using e
    exact nesF hx hy e (k₂ e)
theorem addR {x y : CX} {a b r : Int} (hx : x.on N ρ = .int .i64 a) (hy : y.on N ρ = .int .i64 b) (hr : a + b = r) (hp : -9223372036854775808 ≤ r ∧ r ≤ 9223372036854775807) (k : WPO T os ⟨envL N (ρ.putO d (.int .i64 r)), ds⟩ h K) : WPO T (⟨d, .bin .add x y, none⟩ :: os) ⟨envL N ρ, ds⟩ h K := by
  refine bin (r := .int .i64 r) hx hy ?_ k
  simp only [binC, intBin, if_true, hr, i64_in r hp]
theorem subR {x y : CX} {a b r : Int} (hx : x.on N ρ = .int .i64 a) (hy : y.on N ρ = .int .i64 b) (hr : a - b = r) (hp : -9223372036854775808 ≤ r ∧ r ≤ 9223372036854775807) (k : WPO T os ⟨envL N (ρ.putO d (.int .i64 r)), ds⟩ h K) : WPO T (⟨d, .bin .sub x y, none⟩ :: os) ⟨envL N ρ, ds⟩ h K := by
  refine bin (r := .int .i64 r) hx hy ?_ k
  simp only [binC, intBin, if_true, hr, i64_in r hp]
theorem mulR {x y : CX} {a b r : Int} (hx : x.on N ρ = .int .i64 a) (hy : y.on N ρ = .int .i64 b) (hr : a * b = r) (hp : -9223372036854775808 ≤ r ∧ r ≤ 9223372036854775807) (k : WPO T os ⟨envL N (ρ.putO d (.int .i64 r)), ds⟩ h K) : WPO T (⟨d, .bin .mul x y, none⟩ :: os) ⟨envL N ρ, ds⟩ h K := by
  refine bin (r := .int .i64 r) hx hy ?_ k
  simp only [binC, intBin, if_true, hr, i64_in r hp]
theorem quoP {x y : CX} {a b r : Int} (hx : x.on N ρ = .int .i64 a) (hy : y.on N ρ = .int .i64 b) (hr : a / b = r) (hp : 0 ≤ a ∧ a ≤ 9223372036854775807 ∧ 1 ≤ b) (k : WPO T os ⟨envL N (ρ.putO d (.int .i64 r)), ds⟩ h K) : WPO T (⟨d, .bin .quo x y, none⟩ :: os) ⟨envL N ρ, ds⟩ h K := by
  refine bin (r := .int .i64 r) hx hy ?_ k
  simp only [binC, intBin, if_true, i64_quo a b hp, hr]; rw [if_neg (by omega)]
theorem remP {x y : CX} {k : IntKind} {a b r : Int} (hx : x.on N ρ = .int k a) (hy : y.on N ρ = .int k b) (hr : a % b = r) (hp : 0 ≤ a ∧ b ≠ 0) (k' : WPO T os ⟨envL N (ρ.putO d (.int k r)), ds⟩ h K) : WPO T (⟨d, .bin .rem x y, none⟩ :: os) ⟨envL N ρ, ds⟩ h K := by
  refine bin (r := .int k r) hx hy ?_ k'
  simp only [binC, intBin, if_true, if_neg hp.2, Int.tmod_eq_emod_of_nonneg hp.1, hr]
theorem remR {x y : CX} {k : IntKind} {a b : Int} (hx : x.on N ρ = .int k a) (hy : y.on N ρ = .int k b) (hp : b ≠ 0) (k' : WPO T os ⟨envL N (ρ.putO d (.int k (a.tmod b))), ds⟩ h K) : WPO T (⟨d, .bin .rem x y, none⟩ :: os) ⟨envL N ρ, ds⟩ h K := by
  refine bin (r := .int k (a.tmod b)) hx hy ?_ k'
  simp only [binC, intBin, if_true, if_neg hp]
theorem binI {op : BinOp} {x y : CX} {i j : IntKind} {a b : Int} {r : CVal} (hx : x.on N ρ = .int i a) (hy : y.on N ρ = .int j b) (e : binC op (.int i a) (.int j b) = some r) (k : WPO T os ⟨envL N (ρ.putO d (r)), ds⟩ h K) : WPO T (⟨d, .bin op x y, none⟩ :: os) ⟨envL N ρ, ds⟩ h K := bin hx hy e k
theorem binS {op : BinOp} {x y : CX} {a b : List UInt8} {r : CVal} (hx : x.on N ρ = .str a) (hy : y.on N ρ = .str b) (e : binC op (.str a) (.str b) = some r) (k : WPO T os ⟨envL N (ρ.putO d (r)), ds⟩ h K) : WPO T (⟨d, .bin op x y, none⟩ :: os) ⟨envL N ρ, ds⟩ h K := bin hx hy e k
theorem catS {x y : CX} {a b : List UInt8} (hx : x.on N ρ = .str a) (hy : y.on N ρ = .str b) (e : a.length + b.length ≤ 281474976710656) (k : WPO T os ⟨envL N (ρ.putO d (.str (a ++ b))), ds⟩ h K) : WPO T (⟨d, .bin .add x y, none⟩ :: os) ⟨envL N ρ, ds⟩ h K :=
  bin hx hy (by simp only [binC, strBin, if_pos e]) k
theorem convR {i j : IntKind} {x : CX} {n : Int} (hx : x.on N ρ = .int j n) (hr : i.wrap n = n) (k : WPO T os ⟨envL N (ρ.putO d (.int i n)), ds⟩ h K) : WPO T (⟨d, .conv i x, none⟩ :: os) ⟨envL N ρ, ds⟩ h K := conv hx (hr.symm ▸ k)
theorem newN {zero : List CVal} {n : Nat} (hn : h.next = n) (k : WPO T os ⟨envL N (ρ.putO d (.ptr n 0)), ds⟩ (h.new (.cells zero true none)) K) : WPO T (⟨d, .new zero, none⟩ :: os) ⟨envL N ρ, ds⟩ h K := by subst hn; exact new k
theorem newMap {n : Nat} (hn : h.next = n) (k : WPO T os ⟨envL N (ρ.putO d (.map n)), ds⟩ (h.new (.map [] true)) K) : WPO T (⟨d, .newMap, none⟩ :: os) ⟨envL N ρ, ds⟩ h K := by subst hn; exact val (by simp only [cop]) k
theorem box {x : CX} {u : CVal} {us : List CVal} {n : Nat} (hx : x.on N ρ = u) (hu : u.cellsOf = some us) (hn : h.next = n) (k : WPO T os ⟨envL N (ρ.putO d (.ptr n 0)), ds⟩ (h.new (.cells us true none)) K) : WPO T (⟨d, .box x, none⟩ :: os) ⟨envL N ρ, ds⟩ h K := by subst hn; exact val (by simp only [cop, CX.on_ev, hx, hu]) k
theorem partsE (N : Nat) (ρ : Env) (parts : List (Nat × Nat × CX)) : (parts.map fun p => (p.1, p.2.1, p.2.2.ev (envL N ρ))) = parts.map fun p => (p.1, p.2.1, p.2.2.on N ρ) := List.map_congr_left fun p _ => by rw [CX.on_ev]
theorem build {zero cs : List CVal} {parts : List (Nat × Nat × CX)} (e : fillC zero (parts.map fun p => (p.1, p.2.1, p.2.2.on N ρ)) = some cs) (k : WPO T os ⟨envL N (ρ.putO d (.agg cs)), ds⟩ h K) : WPO T (⟨d, .build zero parts, none⟩ :: os) ⟨envL N ρ, ds⟩ h K :=
  val (by simp only [cop, partsE, e]) k
theorem buildSlice {zero cs : List CVal} {len n : Nat} {parts : List (Nat × Nat × CX)} (e : fillC (repC len zero) (parts.map fun p => (p.1, p.2.1, p.2.2.on N ρ)) = some cs) (ho : cs.all CVal.one = true) (hn : h.next = n) (k : WPO T os ⟨envL N (ρ.putO d (.slice n 0 len len)), ds⟩ (h.new (.cells cs true none)) K) : WPO T (⟨d, .buildSlice zero len parts, none⟩ :: os) ⟨envL N ρ, ds⟩ h K := by
  subst hn; exact val (by simp only [cop, partsE, e]; rw [if_pos ho]) k
theorem makeSlice {zero : List CVal} {bytes n : Nat} {l c : CX} {a b : Int} {i j : IntKind} (hl : l.on N ρ = .int i a) (hc : c.on N ρ = .int j b) (h0 : 0 ≤ a ∧ a ≤ b) (hs : b * bytes ≤ 1099511627776 ∧ b ≤ 1099511627776) (hn : h.next = n)
    (k : WPO T os ⟨envL N (ρ.putO d (.slice n 0 a.toNat b.toNat)), ds⟩ (h.new (.cells (repC b.toNat zero) true none)) K) : WPO T (⟨d, .makeSlice zero bytes l c, none⟩ :: os) ⟨envL N ρ, ds⟩ h K := by
  subst hn
  refine val (h' := h.new (.cells (repC b.toNat zero) true none)) ?_ k
  have h1 : 0 ≤ b := Int.le_trans h0.1 h0.2
  have h2 : b.toNat * bytes ≤ 1099511627776 := by
    have e := hs.1
    have e2 : ((b.toNat * bytes : Nat) : Int) ≤ ((1099511627776 : Nat) : Int) := by
      rw [Int.natCast_mul, Int.toNat_of_nonneg h1]; exact e
    exact Int.ofNat_le.mp e2
  simp only [cop, CX.on_ev, hl, hc, asNat]
  rw [if_pos h0.1, if_pos h1]
  simp only
  rw [if_pos ⟨by omega, h2, by omega⟩]
theorem part {agg : Bool} {off n : Nat} {x : CX} {cs : List CVal} {v : CVal} (hx : x.on N ρ = .agg cs) (e : partC agg off n cs = some v) (k : WPO T os ⟨envL N (ρ.putO d (v)), ds⟩ h K) : WPO T (⟨d, .part agg off n x, none⟩ :: os) ⟨envL N ρ, ds⟩ h K :=
  val (by simp only [cop, CX.on_ev, hx, e]) k
theorem indexI {sz : Nat} {x y : CX} {b o l c : Nat} {i : Int} {ik : IntKind} (hx : x.on N ρ = .slice b o l c) (hy : y.on N ρ = .int ik i) (h0 : 0 ≤ i) (hl : i < l) (k : WPO T os ⟨envL N (ρ.putO d (.ptr b (o + i.toNat * sz))), ds⟩ h K) : WPO T (⟨d, .indexAddr sz x y, none⟩ :: os) ⟨envL N ρ, ds⟩ h K := by
  refine val ?_ k
  simp only [cop, CX.on_ev, hx, hy, asNat]; rw [if_pos h0]; simp only []; rw [if_pos (by omega)]
theorem indexAddrArr {len sz : Nat} {x y : CX} {b o : Nat} {i : Int} {ik : IntKind} (hx : x.on N ρ = .ptr b o) (hy : y.on N ρ = .int ik i) (h0 : 0 ≤ i) (hl : i < len) (k : WPO T os ⟨envL N (ρ.putO d (.ptr b (o + i.toNat * sz))), ds⟩ h K) : WPO T (⟨d, .indexAddrArr len sz x y, none⟩ :: os) ⟨envL N ρ, ds⟩ h K := by
  refine val ?_ k
  simp only [cop, CX.on_ev, hx, hy, asNat]; rw [if_pos h0]; simp only []; rw [if_pos (by omega)]
theorem indexArr {len sz : Nat} {agg : Bool} {x y : CX} {cs : List CVal} {i : Int} {ik : IntKind} {v : CVal} (hx : x.on N ρ = .agg cs) (hy : y.on N ρ = .int ik i) (h0 : 0 ≤ i) (hl : i < len) (e : partC agg (i.toNat * sz) sz cs = some v) (k : WPO T os ⟨envL N (ρ.putO d (v)), ds⟩ h K) : WPO T (⟨d, .indexArr len agg sz x y, none⟩ :: os) ⟨envL N ρ, ds⟩ h K := by
  refine val ?_ k
  simp only [cop, CX.on_ev, hx, hy, asNat]; rw [if_pos h0]; simp only []; rw [if_pos (by omega), e]
theorem indexStr {x y : CX} {s : List UInt8} {i : Int} {ik : IntKind} {b : UInt8} (hx : x.on N ρ = .str s) (hy : y.on N ρ = .int ik i) (h0 : 0 ≤ i) (e : s[i.toNat]? = some b) (k : WPO T os ⟨envL N (ρ.putO d (.int .u8 b.toNat)), ds⟩ h K) : WPO T (⟨d, .indexStr x y, none⟩ :: os) ⟨envL N ρ, ds⟩ h K := by
  refine val ?_ k
  simp only [cop, CX.on_ev, hx, hy, asNat]; rw [if_pos h0]; simp only [e]
theorem optE (N : Nat) (ρ : Env) (x : Option CX) : x.map (·.ev (envL N ρ)) = x.map (CX.on N ρ) := by cases x <;> simp [CX.on_ev]
theorem sliceStr {x : CX} {lo hi : Option CX} {s : List UInt8} {l b m : Nat} (hx : x.on N ρ = .str s) (e : boundsC s.length s.length (lo.map (CX.on N ρ)) (hi.map (CX.on N ρ)) none = some (l, b, m)) (k : WPO T os ⟨envL N (ρ.putO d (.str ((s.drop l).take (b - l)))), ds⟩ h K) : WPO T (⟨d, .sliceStr x lo hi, none⟩ :: os) ⟨envL N ρ, ds⟩ h K :=
  val (by simp only [cop, CX.on_ev, hx, e]) k
theorem slice {sz : Nat} {x : CX} {lo hi : Option CX} {i o len cap l b m : Nat} (hx : x.on N ρ = .slice i o len cap) (e : boundsC len cap (lo.map (CX.on N ρ)) (hi.map (CX.on N ρ)) none = some (l, b, m)) (k : WPO T os ⟨envL N (ρ.putO d (.slice i (o + l * sz) (b - l) (m - l))), ds⟩ h K) : WPO T (⟨d, .slice sz x lo hi none, none⟩ :: os) ⟨envL N ρ, ds⟩ h K :=
  val (by simp only [cop, CX.on_ev, hx]; simp only [Option.isSome, Bool.false_eq_true, false_and, if_false, Option.map_none, e]) k
theorem sliceN {sz : Nat} {x : CX} {lo hi mx : Option CX} {r : Nat × Nat × Nat} (hx : x.on N ρ = .nilSlice) (e : boundsC 0 0 (lo.map (CX.on N ρ)) (hi.map (CX.on N ρ)) (mx.map (CX.on N ρ)) = some r) (k : WPO T os ⟨envL N (ρ.putO d (.nilSlice)), ds⟩ h K) : WPO T (⟨d, .slice sz x lo hi mx, none⟩ :: os) ⟨envL N ρ, ds⟩ h K :=
  val (by simp only [cop, CX.on_ev, hx, e]) k
theorem lenMN {x : CX} (hx : x.on N ρ = .nilMap) (k : WPO T os ⟨envL N (ρ.putO d (.int .i64 0)), ds⟩ h K) : WPO T (⟨d, .len .map x, none⟩ :: os) ⟨envL N ρ, ds⟩ h K := val (by simp only [cop, CX.on_ev, hx]) k
theorem lenM {x : CX} {i : Nat} {es : List (CVal × CVal)} {wr : Bool} (hx : x.on N ρ = .map i) (hg : h.get i = some (.map es wr)) (k : WPO T os ⟨envL N (ρ.putO d (.int .i64 es.length)), ds⟩ h K) : WPO T (⟨d, .len .map x, none⟩ :: os) ⟨envL N ρ, ds⟩ h K := val (by simp only [cop, CX.on_ev, hx, hg]) k
theorem lookup {kt : KT} {zero : CVal} {ok : Bool} {m x : CX} {u v : CVal} {es : List (CVal × CVal)} {r : Option (Nat × CVal)} (hm : m.on N ρ = u) (hx : x.on N ρ = v) (hk : keyok kt v = true) (hes : mapC h u = some es) (hr : findK kt v es 0 = some r)
    (k : WPO T os ⟨envL N (ρ.putO d (if ok then .tuple [(r.map (·.2)).getD zero, .bool r.isSome] else (r.map (·.2)).getD zero)), ds⟩ h K) : WPO T (⟨d, .lookup kt zero ok m x, none⟩ :: os) ⟨envL N ρ, ds⟩ h K := by
  refine val ?_ k
  simp only [cop, CX.on_ev, hm, hx, hk, hes, hr]
  cases r with
  | none => simp
  | some q => simp
theorem mapUpdate {kt : KT} {m x y : CX} {i : Nat} {v z : CVal} {es : List (CVal × CVal)} {r : Option (Nat × CVal)} (hm : m.on N ρ = .map i) (hx : x.on N ρ = v) (hy : y.on N ρ = z) (hk : keyok kt v = true) (hes : h.get i = some (.map es true)) (hr : findK kt v es 0 = some r)
    (k : WPO T os ⟨envL N (ρ.putO d (.un)), ds⟩ (h.set i (.map (match r with | some q => es.set q.1 (v, z) | none => es ++ [(v, z)]) true)) K) : WPO T (⟨d, .mapUpdate kt m x y, none⟩ :: os) ⟨envL N ρ, ds⟩ h K := by
  refine val ?_ k
  simp only [cop, CX.on_ev, hm, hx, hy, hk, hes, hr]
  cases r <;> simp
theorem append {sz bytes : Nat} {s x : CX} {u v r : CVal} (hs : s.on N ρ = u) (hx : x.on N ρ = v) (e : appendC h sz bytes u v = some (r, h')) (k : WPO T os ⟨envL N (ρ.putO d (r)), ds⟩ h' K) : WPO T (⟨d, .append sz bytes s x, none⟩ :: os) ⟨envL N ρ, ds⟩ h K :=
  val (by simp only [cop, CX.on_ev, hs, hx, e]) k
theorem maxminI {isMax : Bool} {x y : CX} {i : IntKind} {a b : Int} (hx : x.on N ρ = .int i a) (hy : y.on N ρ = .int i b) (k : WPO T os ⟨envL N (ρ.putO d (.int i (if isMax then max a b else min a b))), ds⟩ h K) : WPO T (⟨d, .maxmin isMax x [y], none⟩ :: os) ⟨envL N ρ, ds⟩ h K := by
  refine val ?_ k
  have e : foldC isMax (.int i a) [.int i b] = some (.int i (if isMax then max a b else min a b)) := by
    simp only [foldC, maxC, if_true]
    congr 2
    cases isMax <;> simp <;> split <;> omega
  simp only [cop, CX.on_ev, List.map, hx, hy, e]
theorem iface {t : TypeId} {x : CX} {v : CVal} (hx : x.on N ρ = v) (k : WPO T os ⟨envL N (ρ.putO d (.iface t v)), ds⟩ h K) : WPO T (⟨d, .iface t x, none⟩ :: os) ⟨envL N ρ, ds⟩ h K := val (by simp only [cop, CX.on_ev, hx]) k
theorem defer {f : CX} {args : List CX} {g : FuncId} {first cap as : List CVal} (hf : f.on N ρ = .func g first cap) (ha : args.map (CX.on N ρ) = as) (k : WPO T os ⟨envL N (ρ.putO d .un), (g, first ++ as ++ cap) :: ds⟩ h K) : WPO T (⟨d, .defer f args, none⟩ :: os) ⟨envL N ρ, ds⟩ h K := by
  refine WPO.op (v := .un) (ds := [(g, first ++ as ++ cap)]) (h' := h) (by simp only [evOp1, wantC, cop, CX.on_ev, hf, ha]) ?_
  rw [done_env]; exact k
end
end O

/-! ### Regions whose order is drawn -/
def WPD (T : Tab) (base : Nat) (its : List DIt) (a : Fr) (h : Heap) (K : Fr → Heap → List (Fr × Heap) → Prop) : Prop := ∃ n a' h' hs, evD (callF T n) base its a h = some (a', h', hs) ∧ K a' h' hs

section
variable {T : Tab} {N base : Nat} {ρ : Env} {ds : List (FuncId × List CVal)} {h h' : Heap} {its : List DIt} {K : Fr → Heap → List (Fr × Heap) → Prop} {Q : CExit → Fr → Heap → Prop}

theorem WP.draw {k : Nat} {a : Fr} (w : WPD T h.next its a { h with next := h.next + k } fun a' h' hs => checkD a'.tmps hs its hs = true ∧ Q .normal a' h') : WP T (.draw its k) a h Q := by
  obtain ⟨n, a', h', hs, ev, hc, q⟩ := w
  refine ⟨n + 1, .normal, a', h', ?_, q⟩
  simp only [evCode]
  rw [evD_mono (callF_mono T (Nat.le_succ n)) ev]
  simp only [hc, if_true]

theorem WPD.nil {a : Fr} (k : K a h [(a, h)]) : WPD T base [] a h K := ⟨0, a, h, _, rfl, k⟩

theorem WPD.quiet {a : Fr} {ix : Nat} {c : COper} {ks : List Nat} {v : CVal} (e : evOp1 noCall c a.tmps h = some (v, [], h')) (k : evOp1 noCall c a.tmps h = some (v, [], h') → WPD T base its (a.put c.dst v) h fun a' h' hs => K a' h' ((a, h) :: hs)) : WPD T base (⟨ix, c, .quiet ks⟩ :: its) a h K := by
  obtain ⟨n, a', h', hs, ev, q⟩ := k e
  exact ⟨n, a', h', _, by simp only [evD, stepD, e, ev], q⟩

theorem WPD.alloc {a : Fr} {ix aid : Nat} {d : Option Nat} {op : COp} {v : CVal} {obj : CObj} (e : allocC op a.tmps (base + aid) = some (v, obj)) (k : WPD T base its (a.put d v) (h.set (base + aid) obj) fun a' h' hs => K a' h' ((a, h) :: hs)) : WPD T base (⟨ix, ⟨d, op, none⟩, .alloc aid⟩ :: its) a h K := by
  obtain ⟨n, a', h', hs, ev, q⟩ := k
  exact ⟨n, a', h', _, by simp only [evD, stepD, e, ev], q⟩

theorem WPD.eff {a : Fr} {ix : Nat} {c : COper} (k : WPO T [c] a h fun a₁ h₁ => WPD T base its a₁ h₁ fun a' h' hs => K a' h' ((a, h) :: hs)) : WPD T base (⟨ix, c, .eff⟩ :: its) a h K := by
  obtain ⟨n, a₁, h₁, ev, m, a', h', hs, ev', q⟩ := k
  refine ⟨max n m, a', h', (a, h) :: hs, ?_, q⟩
  have hn : n ≤ max n m := Nat.le_max_left _ _
  have hm : m ≤ max n m := Nat.le_max_right _ _
  have e₁ : evOper (callF T (max n m)) c a h = some (a₁, h₁) := by
    have := evOps_mono (callF_mono T hn) ev
    simp only [evOps] at this
    split at this
    · next h1 => simp only [Option.some.injEq, Prod.mk.injEq] at this; obtain ⟨rfl, rfl⟩ := this; exact h1
    · simp at this
  simp only [evD, stepD, e₁, evD_mono (callF_mono T hm) ev']

/-- What is only read, by the rule of its operation. -/
theorem WPD.q {ix : Nat} {d : Option Nat} {op : COp} {g : Option (Nat × Bool)} {ks : List Nat} {v : CVal} (e : evOp1 noCall ⟨d, op, g⟩ (envL N ρ) h = some (v, [], h')) (k : evOp1 noCall ⟨d, op, g⟩ (envL N ρ) h = some (v, [], h') → WPD T base its ⟨envL N (ρ.putO d v), ds⟩ h fun a' h' hs => K a' h' ((⟨envL N ρ, ds⟩, h) :: hs)) :
    WPD T base (⟨ix, ⟨d, op, g⟩, .quiet ks⟩ :: its) ⟨envL N ρ, ds⟩ h K := by
  refine WPD.quiet e fun e => ?_
  have : Fr.put ⟨envL N ρ, ds⟩ d v = ⟨envL N (ρ.putO d v), ds⟩ := done_env N ρ ds [] d v
  simp only [this]; exact k e
theorem WPD.a {ix aid n : Nat} {d : Option Nat} {op : COp} {v : CVal} {obj : CObj} (hn : base + aid = n) (e : allocC op (envL N ρ) n = some (v, obj)) (k : WPD T base its ⟨envL N (ρ.putO d v), ds⟩ (h.set n obj) fun a' h' hs => K a' h' ((⟨envL N ρ, ds⟩, h) :: hs)) :
    WPD T base (⟨ix, ⟨d, op, none⟩, .alloc aid⟩ :: its) ⟨envL N ρ, ds⟩ h K := by
  subst hn
  refine WPD.alloc e ?_
  have : Fr.put ⟨envL N ρ, ds⟩ d v = ⟨envL N (ρ.putO d v), ds⟩ := done_env N ρ ds [] d v
  rw [this]; exact k

def QV (N : Nat) (ρ : Env) (h : Heap) (op : COp) (v : CVal) : Prop := cop op (envL N ρ) h = some (.val v, h)
theorem QV.ok {d : Option Nat} {op : COp} {v : CVal} (e : QV N ρ h op v) : evOp1 noCall ⟨d, op, none⟩ (envL N ρ) h = some (v, [], h) := by simp only [evOp1, wantC, show cop op (envL N ρ) h = _ from e]
theorem QV.okT {d : Option Nat} {t : Nat} {w : Bool} {op : COp} {v : CVal} (hv : (CX.t t).on N ρ = .bool w) (e : QV N ρ h op v) : evOp1 noCall ⟨d, op, some (t, w)⟩ (envL N ρ) h = some (v, [], h) := by
  have hg : (envL N ρ).getD t .undef = .bool w := by rw [← hv, ← CX.on_ev]; rfl
  simp only [evOp1, wantC, hg, beq_self_eq_true, show cop op (envL N ρ) h = _ from e]
theorem QV.okF {d : Option Nat} {t : Nat} {w b : Bool} {op : COp} (hv : (CX.t t).on N ρ = .bool b) (hne : (b == w) = false) : evOp1 noCall ⟨d, op, some (t, w)⟩ (envL N ρ) h = some (.un, [], h) := by
  have hg : (envL N ρ).getD t .undef = .bool b := by rw [← hv, ← CX.on_ev]; rfl
  simp only [evOp1, wantC, hg, hne]
theorem QV.mv {x : CX} {v : CVal} (hx : x.on N ρ = v) : QV N ρ h (.move x) v := by simp only [QV, cop, CX.on_ev, hx]
theorem QV.load {n : Nat} {x : CX} {i o : Nat} {vs : List CVal} {wr : Bool} {opn : Option Nat} {v : CVal} (hx : x.on N ρ = .ptr i o) (hg : h.get i = some (.cells vs wr opn)) (hv : vs[o]? = some v) : QV N ρ h (.load false n x) v := by simp only [QV, cop, CX.on_ev, hx, hg, hv, Bool.false_eq_true, if_false]
theorem QV.loadA {n : Nat} {x : CX} {i o : Nat} {vs us : List CVal} {wr : Bool} {opn : Option Nat} (hx : x.on N ρ = .ptr i o) (hg : h.get i = some (.cells vs wr opn)) (hv : (vs.drop o).take n = us) (hl : us.length = n) : QV N ρ h (.load true n x) (.agg us) := by simp only [QV, cop, CX.on_ev, hx, hg, hv, hl, if_true]
theorem QV.fieldAddr {off : Nat} {x : CX} {i o : Nat} (hx : x.on N ρ = .ptr i o) : QV N ρ h (.fieldAddr off x) (.ptr i (o + off)) := by simp only [QV, cop, CX.on_ev, hx]
theorem QV.nilCheckP {x : CX} {i o : Nat} (hx : x.on N ρ = .ptr i o) : QV N ρ h (.nilCheck x) (.ptr i o) := by simp only [QV, cop, CX.on_ev, hx]
theorem QV.bin {op : BinOp} {x y : CX} {u v r : CVal} (hx : x.on N ρ = u) (hy : y.on N ρ = v) (e : binC op u v = some r) : QV N ρ h (.bin op x y) r := by simp only [QV, cop, CX.on_ev, hx, hy, e]
theorem QV.part {agg : Bool} {off n : Nat} {x : CX} {cs : List CVal} {v : CVal} (hx : x.on N ρ = .agg cs) (e : partC agg off n cs = some v) : QV N ρ h (.part agg off n x) v := by simp only [QV, cop, CX.on_ev, hx, e]
theorem QV.extract {x : CX} {i : Nat} {vs : List CVal} {v : CVal} (hx : x.on N ρ = .tuple vs) (hv : vs[i]? = some v) : QV N ρ h (.extract x i) v := by simp only [QV, cop, CX.on_ev, hx, hv]
theorem QV.lenL {x : CX} {b o l c : Nat} (hx : x.on N ρ = .slice b o l c) : QV N ρ h (.len .slice x) (.int .i64 l) := by simp only [QV, cop, CX.on_ev, hx]
theorem QV.lenN {x : CX} (hx : x.on N ρ = .nilSlice) : QV N ρ h (.len .slice x) (.int .i64 0) := by simp only [QV, cop, CX.on_ev, hx]
theorem QV.lenS {x : CX} {s : List UInt8} (hx : x.on N ρ = .str s) : QV N ρ h (.len .str x) (.int .i64 s.length) := by simp only [QV, cop, CX.on_ev, hx]
theorem QV.func {f : FuncId} {first cap : List CX} {p q : List CVal} (hp : first.map (CX.on N ρ) = p) (hq : cap.map (CX.on N ρ) = q) : QV N ρ h (.func f first cap) (.func f p q) := by
  have e : ∀ xs : List CX, xs.map (·.ev (envL N ρ)) = xs.map (CX.on N ρ) := fun xs => List.map_congr_left fun x _ => CX.on_ev N ρ x
  simp only [QV, cop, e, hp, hq]

theorem checkD_nil {out : List CVal} {hs ss : List (Fr × Heap)} : checkD out hs [] ss = true := rfl
theorem checkD_other {out : List CVal} {hs ss : List (Fr × Heap)} {s : Fr × Heap} {ix : Nat} {c : COper} (k : checkD out hs its ss = true) : checkD out hs (⟨ix, c, .eff⟩ :: its) (s :: ss) = true := by simp only [checkD, k, Bool.and_self]
theorem checkD_alloc {out : List CVal} {hs ss : List (Fr × Heap)} {s : Fr × Heap} {ix aid : Nat} {c : COper} (k : checkD out hs its ss = true) : checkD out hs (⟨ix, c, .alloc aid⟩ :: its) (s :: ss) = true := by simp only [checkD, k, Bool.and_self]
theorem checkD_quiet {out : List CVal} {hs ss : List (Fr × Heap)} {s : Fr × Heap} {ix : Nat} {c : COper} {ks : List Nat} (q : ks.all (checkQ c s.1.tmps out hs) = true) (k : checkD out hs its ss = true) : checkD out hs (⟨ix, c, .quiet ks⟩ :: its) (s :: ss) = true := by simp only [checkD, k, q, Bool.and_self]
theorem all_nil {p : Nat → Bool} : [].all p = true := rfl
theorem all_cons {p : Nat → Bool} {k : Nat} {ks : List Nat} (a : p k = true) (b : ks.all p = true) : (k :: ks).all p = true := by simp only [List.all_cons, a, b, Bool.and_self]

/-- The same at a later stage: by the operation's rule there. -/
theorem checkQ_at {N' : Nat} {ρ' : Env} {d : Nat} {op : COp} {g : Option (Nat × Bool)} {hs : List (Fr × Heap)} {k : Nat} {f : Fr} {h₁ h₂ : Heap} {v : CVal} (hk : hs[k]? = some (f, h₁)) (e : evOp1 noCall ⟨some d, op, g⟩ (envL N ρ) h₁ = some (v, [], h₂)) (hv : (CX.t d).on N' ρ' = v) : checkQ ⟨some d, op, g⟩ (envL N ρ) (envL N' ρ') hs k = true := by
  have hv' : (envL N' ρ').getD d .undef = v := (CX.on_ev N' ρ' (.t d)).trans hv
  simp only [checkQ, hk, e, hv']
  exact CVal.beq_refl v

/-- The operation does not look at the heap. -/
def freeOp : COp → Bool
  | .move _ | .pick .. | .build .. | .nilCheck _ | .bin .. | .eq .. | .eqS .. | .un .. | .conv .. | .iface .. | .func .. | .sliceStr .. | .fieldAddr .. | .part .. | .indexAddr .. | .indexAddrArr .. | .indexArr .. | .indexStr .. | .extract .. | .maxmin .. => true
  | .len k _ => (match k with | .map => false | _ => true)
  | .slice _ _ _ _ none => true
  | _ => false
theorem cop_free {op : COp} (hf : freeOp op = true) {a : List CVal} {h h₁ h' : Heap} {r : CRes} (e : cop op a h = some (r, h')) : cop op a h₁ = some (r, h₁) := by
  cases op
  case slice sz x lo hi mx =>
    cases mx with
    | some _ => simp [freeOp] at hf
    | none =>
      simp only [cop, Option.isSome, Bool.false_eq_true, false_and, if_false] at e ⊢
      repeat' (split at e)
      all_goals simp_all
  case len k x =>
    cases k <;> simp [freeOp] at hf <;> simp only [cop] at e ⊢ <;> (repeat' (split at e)) <;> simp_all
  all_goals first
    | (exfalso; simp only [freeOp, Bool.false_eq_true] at hf; done)
    | (simp only [cop] at e ⊢; (repeat' (split at e)) <;> simp_all)
theorem evOp1_free {d : Option Nat} {op : COp} {g : Option (Nat × Bool)} (hf : freeOp op = true) {a : List CVal} {h h₁ h' : Heap} {v : CVal} (e : evOp1 noCall ⟨d, op, g⟩ a h = some (v, [], h')) : evOp1 noCall ⟨d, op, g⟩ a h₁ = some (v, [], h₁) := by
  simp only [evOp1] at e ⊢
  split at e
  · simp at e
  · next hw => simp only [Option.some.injEq, Prod.mk.injEq] at e; simp only [e.1]
  · next hw =>
    (try simp only [hw])
    split at e
    · simp at e
    · next hc => rw [cop_free hf hc]; simp only [Option.some.injEq, Prod.mk.injEq] at e; simp only [e.1]
    · next hc => simp [noCall] at e
    · next hc => simp at e
theorem checkQ_free {N' : Nat} {ρ' : Env} {d : Nat} {op : COp} {g : Option (Nat × Bool)} {hs : List (Fr × Heap)} {k : Nat} {s : Fr × Heap} {h₀ h₂ : Heap} {v : CVal} (hk : hs[k]? = some s) (hf : freeOp op = true) (e : evOp1 noCall ⟨some d, op, g⟩ (envL N ρ) h₀ = some (v, [], h₂)) (hv : (CX.t d).on N' ρ' = v) : checkQ ⟨some d, op, g⟩ (envL N ρ) (envL N' ρ') hs k = true := by
  obtain ⟨f, h₁⟩ := s
  exact checkQ_at hk (evOp1_free (h₁ := h₁) hf e) hv
end
end Go.Proofs.YtmppoknfekdbbaaDoor.Cm
