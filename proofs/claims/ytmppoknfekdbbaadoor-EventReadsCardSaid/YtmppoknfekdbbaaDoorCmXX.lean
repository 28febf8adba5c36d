/-
  The clean machine, part X: one rule for each operation, over slots given by a function.
-/
import Derived.Test.YtmppoknfekdbbaaDoorCmXW
namespace Go.Proofs.YtmppoknfekdbbaaDoor.Cm
open Go.RowKit

def CX.on (N : Nat) (ρ : Env) : CX → CVal
  | .t n => if Nat.blt n N = true then ρ n else .undef
  | .c v => v

theorem CX.on_ev (N : Nat) (ρ : Env) (x : CX) : x.ev (envL N ρ) = x.on N ρ := by
  cases x with
  | c v => rfl
  | t n =>
    simp only [CX.on]
    split
    · next h => exact envL_getD N ρ n (blt_lt h)
    · next h =>
      have hge : N ≤ n := by
        rcases Nat.lt_or_ge n N with h1 | h1
        · exact absurd (lt_blt h1) h
        · exact h1
      show (envL N ρ).getD n .undef = .undef
      rw [List.getD_eq_getElem?_getD, List.getElem?_eq_none (by rw [envL_len]; exact hge)]
      rfl

theorem envL_put (N : Nat) (ρ : Env) (t : Nat) (v : CVal) : (envL N ρ).set t v = envL N (ρ.put t v) := by
  refine List.ext_getElem (by simp [envL]) fun j h1 h2 => ?_
  simp only [envL, List.getElem_set, List.getElem_map, List.getElem_range]
  by_cases h3 : t = j
  · subst h3; rw [if_pos rfl, Env.put_at, if_pos rfl]
  · rw [if_neg h3, Env.put_at, if_neg (Ne.symm h3)]

def Env.putO (ρ : Env) : Option Nat → CVal → Env
  | some t, v => ρ.put t v
  | none, _ => ρ

theorem done_env (N : Nat) (ρ : Env) (ds ds' : List (FuncId × List CVal)) (d : Option Nat) (v : CVal) : Fr.done ⟨envL N ρ, ds⟩ d v ds' = ⟨envL N (ρ.putO d v), ds' ++ ds⟩ := by
  cases d with
  | none => rfl
  | some t => simp only [Fr.done, Fr.put, envL_put, Env.putO]

namespace O
section
variable {T : Tab} {os : List COper} {N : Nat} {ρ : Env} {ds : List (FuncId × List CVal)} {h h' : Heap} {K : Fr → Heap → Prop} {d : Option Nat}

theorem val {op : COp} {v : CVal} (e : cop op (envL N ρ) h = some (.val v, h')) (k : WPO T os ⟨envL N (ρ.putO d v), ds⟩ h' K) : WPO T (⟨d, op, none⟩ :: os) ⟨envL N ρ, ds⟩ h K := by
  refine WPO.op (v := v) (ds := []) (h' := h') (by simp only [evOp1, wantC, e]) ?_
  rw [done_env]; exact k

theorem nil (k : K ⟨envL N ρ, ds⟩ h) : WPO T [] ⟨envL N ρ, ds⟩ h K := WPO.nil k

/-- A guard whose slot is known. -/
theorem gT {op : COp} {t : Nat} {w : Bool} (hv : (CX.t t).on N ρ = .bool w) (k : WPO T (⟨d, op, none⟩ :: os) ⟨envL N ρ, ds⟩ h K) : WPO T (⟨d, op, some (t, w)⟩ :: os) ⟨envL N ρ, ds⟩ h K := by
  obtain ⟨n, a', h₁, ev, q⟩ := k
  refine ⟨n, a', h₁, ?_, q⟩
  have hg : (envL N ρ).getD t .undef = .bool w := by rw [← hv, ← CX.on_ev]; rfl
  simp only [evOps, evOper, evOp1, wantC, hg, beq_self_eq_true] at ev ⊢
  exact ev

theorem gF {op : COp} {t : Nat} {w b : Bool} (hv : (CX.t t).on N ρ = .bool b) (hne : b ≠ w) (k : WPO T os ⟨envL N (ρ.putO d .un), ds⟩ h K) : WPO T (⟨d, op, some (t, w)⟩ :: os) ⟨envL N ρ, ds⟩ h K := by
  have hg : (envL N ρ).getD t .undef = .bool b := by rw [← hv, ← CX.on_ev]; rfl
  have hb : (b == w) = false := by simpa using hne
  refine WPO.op (v := .un) (ds := []) (h' := h) (by simp only [evOp1, wantC, hg, hb]) ?_
  rw [done_env]; exact k

theorem gU {op : COp} {t : Nat} {w : Bool} (hv : (CX.t t).on N ρ = .tuple []) (k : WPO T os ⟨envL N (ρ.putO d .un), ds⟩ h K) : WPO T (⟨d, op, some (t, w)⟩ :: os) ⟨envL N ρ, ds⟩ h K := by
  have hg : (envL N ρ).getD t .undef = .tuple [] := by rw [← hv, ← CX.on_ev]; rfl
  refine WPO.op (v := .un) (ds := []) (h' := h) (by simp only [evOp1, wantC, hg]) ?_
  rw [done_env]; exact k

theorem mv {x : CX} {v : CVal} (hx : x.on N ρ = v) (k : WPO T os ⟨envL N (ρ.putO d v), ds⟩ h K) : WPO T (⟨d, .move x, none⟩ :: os) ⟨envL N ρ, ds⟩ h K :=
  val (by simp only [cop, CX.on_ev, hx]) k
theorem mvI {x : CX} {i : IntKind} {a : Int} (hx : x.on N ρ = .int i a) (k : WPO T os ⟨envL N (ρ.putO d (.int i a)), ds⟩ h K) : WPO T (⟨d, .move x, none⟩ :: os) ⟨envL N ρ, ds⟩ h K := mv hx k
theorem mvB {x : CX} {b : Bool} (hx : x.on N ρ = .bool b) (k : WPO T os ⟨envL N (ρ.putO d (.bool b)), ds⟩ h K) : WPO T (⟨d, .move x, none⟩ :: os) ⟨envL N ρ, ds⟩ h K := mv hx k
theorem mvS {x : CX} {s : List UInt8} (hx : x.on N ρ = .str s) (k : WPO T os ⟨envL N (ρ.putO d (.str s)), ds⟩ h K) : WPO T (⟨d, .move x, none⟩ :: os) ⟨envL N ρ, ds⟩ h K := mv hx k
theorem mvP {x : CX} {i o : Nat} (hx : x.on N ρ = .ptr i o) (k : WPO T os ⟨envL N (ρ.putO d (.ptr i o)), ds⟩ h K) : WPO T (⟨d, .move x, none⟩ :: os) ⟨envL N ρ, ds⟩ h K := mv hx k
theorem mvL {x : CX} {i o l c : Nat} (hx : x.on N ρ = .slice i o l c) (k : WPO T os ⟨envL N (ρ.putO d (.slice i o l c)), ds⟩ h K) : WPO T (⟨d, .move x, none⟩ :: os) ⟨envL N ρ, ds⟩ h K := mv hx k
theorem mvN {x : CX} (hx : x.on N ρ = .nilSlice) (k : WPO T os ⟨envL N (ρ.putO d .nilSlice), ds⟩ h K) : WPO T (⟨d, .move x, none⟩ :: os) ⟨envL N ρ, ds⟩ h K := mv hx k
theorem mvPN {x : CX} (hx : x.on N ρ = .nilPtr) (k : WPO T os ⟨envL N (ρ.putO d .nilPtr), ds⟩ h K) : WPO T (⟨d, .move x, none⟩ :: os) ⟨envL N ρ, ds⟩ h K := mv hx k
theorem mvF {x : CX} {f : FuncId} {p q : List CVal} (hx : x.on N ρ = .func f p q) (k : WPO T os ⟨envL N (ρ.putO d (.func f p q)), ds⟩ h K) : WPO T (⟨d, .move x, none⟩ :: os) ⟨envL N ρ, ds⟩ h K := mv hx k
theorem mvT {x : CX} {vs : List CVal} (hx : x.on N ρ = .tuple vs) (k : WPO T os ⟨envL N (ρ.putO d (.tuple vs)), ds⟩ h K) : WPO T (⟨d, .move x, none⟩ :: os) ⟨envL N ρ, ds⟩ h K := mv hx k
theorem mvA {x : CX} {vs : List CVal} (hx : x.on N ρ = .agg vs) (k : WPO T os ⟨envL N (ρ.putO d (.agg vs)), ds⟩ h K) : WPO T (⟨d, .move x, none⟩ :: os) ⟨envL N ρ, ds⟩ h K := mv hx k

theorem pickT {c x y : CX} {v : CVal} (hc : c.on N ρ = .bool true) (hx : x.on N ρ = v) (k : WPO T os ⟨envL N (ρ.putO d v), ds⟩ h K) : WPO T (⟨d, .pick c x y, none⟩ :: os) ⟨envL N ρ, ds⟩ h K :=
  val (by simp only [cop, CX.on_ev, hc, hx, if_true]) k
theorem pickF {c x y : CX} {v : CVal} (hc : c.on N ρ = .bool false) (hy : y.on N ρ = v) (k : WPO T os ⟨envL N (ρ.putO d v), ds⟩ h K) : WPO T (⟨d, .pick c x y, none⟩ :: os) ⟨envL N ρ, ds⟩ h K :=
  val (by simp only [cop, CX.on_ev, hc, hy, if_false, Bool.false_eq_true]) k

theorem bin {op : BinOp} {x y : CX} {u v r : CVal} (hx : x.on N ρ = u) (hy : y.on N ρ = v) (e : binC op u v = some r) (k : WPO T os ⟨envL N (ρ.putO d r), ds⟩ h K) : WPO T (⟨d, .bin op x y, none⟩ :: os) ⟨envL N ρ, ds⟩ h K :=
  val (by simp only [cop, CX.on_ev, hx, hy, e]) k
theorem eq {tk : TK} {neg : Bool} {x y : CX} {u v : CVal} {b : Bool} (hx : x.on N ρ = u) (hy : y.on N ρ = v) (e : keq tk u v = some b) (k : WPO T os ⟨envL N (ρ.putO d (.bool (if neg then !b else b))), ds⟩ h K) : WPO T (⟨d, .eq tk neg x y, none⟩ :: os) ⟨envL N ρ, ds⟩ h K :=
  val (by simp only [cop, CX.on_ev, hx, hy, e]) k
theorem un {op : UnOp} {x : CX} {u r : CVal} (hx : x.on N ρ = u) (e : unC op u = some r) (k : WPO T os ⟨envL N (ρ.putO d r), ds⟩ h K) : WPO T (⟨d, .un op x, none⟩ :: os) ⟨envL N ρ, ds⟩ h K :=
  val (by simp only [cop, CX.on_ev, hx, e]) k
theorem conv {i j : IntKind} {x : CX} {n : Int} (hx : x.on N ρ = .int j n) (k : WPO T os ⟨envL N (ρ.putO d (.int i (i.wrap n))), ds⟩ h K) : WPO T (⟨d, .conv i x, none⟩ :: os) ⟨envL N ρ, ds⟩ h K :=
  val (by simp only [cop, CX.on_ev, hx]) k
theorem fieldAddr {off : Nat} {x : CX} {i o : Nat} (hx : x.on N ρ = .ptr i o) (k : WPO T os ⟨envL N (ρ.putO d (.ptr i (o + off))), ds⟩ h K) : WPO T (⟨d, .fieldAddr off x, none⟩ :: os) ⟨envL N ρ, ds⟩ h K :=
  val (by simp only [cop, CX.on_ev, hx]) k
theorem nilCheckP {x : CX} {i o : Nat} (hx : x.on N ρ = .ptr i o) (k : WPO T os ⟨envL N (ρ.putO d (.ptr i o)), ds⟩ h K) : WPO T (⟨d, .nilCheck x, none⟩ :: os) ⟨envL N ρ, ds⟩ h K :=
  val (by simp only [cop, CX.on_ev, hx]) k
theorem load {n : Nat} {x : CX} {i o : Nat} {vs : List CVal} {wr : Bool} {opn : Option Nat} {v : CVal} (hx : x.on N ρ = .ptr i o) (hg : h.get i = some (.cells vs wr opn)) (hv : vs[o]? = some v) (k : WPO T os ⟨envL N (ρ.putO d v), ds⟩ h K) :
    WPO T (⟨d, .load false n x, none⟩ :: os) ⟨envL N ρ, ds⟩ h K :=
  val (by simp only [cop, CX.on_ev, hx, hg, hv, Bool.false_eq_true, if_false]) k
theorem loadA {n : Nat} {x : CX} {i o : Nat} {vs us : List CVal} {wr : Bool} {opn : Option Nat} (hx : x.on N ρ = .ptr i o) (hg : h.get i = some (.cells vs wr opn)) (hv : (vs.drop o).take n = us) (hl : us.length = n) (k : WPO T os ⟨envL N (ρ.putO d (.agg us)), ds⟩ h K) :
    WPO T (⟨d, .load true n x, none⟩ :: os) ⟨envL N ρ, ds⟩ h K :=
  val (by simp only [cop, CX.on_ev, hx, hg, hv, hl, if_true]) k
theorem store {n : Nat} {p x : CX} {i o : Nat} {u : CVal} {vs us : List CVal} {opn : Option Nat} (hp : p.on N ρ = .ptr i o) (hx : x.on N ρ = u) (hu : u.cellsOf = some us) (hg : h.get i = some (.cells vs true opn)) (hl : us.length = n) (ho : o + n ≤ vs.length)
    (k : WPO T os ⟨envL N (ρ.putO d .un), ds⟩ (h.set i (.cells (putCells vs o us) true opn)) K) : WPO T (⟨d, .store n p x, none⟩ :: os) ⟨envL N ρ, ds⟩ h K :=
  val (by simp only [cop, CX.on_ev, hp, hx, hu, hg]; rw [if_pos ⟨hl, ho⟩]) k
theorem new {zero : List CVal} (k : WPO T os ⟨envL N (ρ.putO d (.ptr h.next 0)), ds⟩ (h.new (.cells zero true none)) K) : WPO T (⟨d, .new zero, none⟩ :: os) ⟨envL N ρ, ds⟩ h K :=
  val (by simp only [cop]) k
theorem indexAddr {sz : Nat} {x y : CX} {b o l c j : Nat} {i : Int} {ik : IntKind} (hx : x.on N ρ = .slice b o l c) (hy : y.on N ρ = .int ik i) (hj : i = (j : Int)) (hl : j < l) (k : WPO T os ⟨envL N (ρ.putO d (.ptr b (o + j * sz))), ds⟩ h K) :
    WPO T (⟨d, .indexAddr sz x y, none⟩ :: os) ⟨envL N ρ, ds⟩ h K := by
  subst hj
  exact val (by simp only [cop, CX.on_ev, hx, hy, asNat]; rw [if_pos (Int.natCast_nonneg j)]; simp only [Int.toNat_natCast]; rw [if_pos hl]) k
theorem lenL {x : CX} {b o l c : Nat} (hx : x.on N ρ = .slice b o l c) (k : WPO T os ⟨envL N (ρ.putO d (.int .i64 l)), ds⟩ h K) : WPO T (⟨d, .len .slice x, none⟩ :: os) ⟨envL N ρ, ds⟩ h K :=
  val (by simp only [cop, CX.on_ev, hx]) k
theorem lenN {x : CX} (hx : x.on N ρ = .nilSlice) (k : WPO T os ⟨envL N (ρ.putO d (.int .i64 0)), ds⟩ h K) : WPO T (⟨d, .len .slice x, none⟩ :: os) ⟨envL N ρ, ds⟩ h K :=
  val (by simp only [cop, CX.on_ev, hx]) k
theorem lenS {x : CX} {s : List UInt8} (hx : x.on N ρ = .str s) (k : WPO T os ⟨envL N (ρ.putO d (.int .i64 s.length)), ds⟩ h K) : WPO T (⟨d, .len .str x, none⟩ :: os) ⟨envL N ρ, ds⟩ h K :=
  val (by simp only [cop, CX.on_ev, hx]) k
theorem extract {x : CX} {i : Nat} {vs : List CVal} {v : CVal} (hx : x.on N ρ = .tuple vs) (hv : vs[i]? = some v) (k : WPO T os ⟨envL N (ρ.putO d v), ds⟩ h K) : WPO T (⟨d, .extract x i, none⟩ :: os) ⟨envL N ρ, ds⟩ h K :=
  val (by simp only [cop, CX.on_ev, hx, hv]) k
theorem func {f : FuncId} {first cap : List CX} {p q : List CVal} (hp : first.map (CX.on N ρ) = p) (hq : cap.map (CX.on N ρ) = q) (k : WPO T os ⟨envL N (ρ.putO d (.func f p q)), ds⟩ h K) : WPO T (⟨d, .func f first cap, none⟩ :: os) ⟨envL N ρ, ds⟩ h K := by
  refine val (v := .func f p q) ?_ k
  have e : ∀ xs : List CX, xs.map (·.ev (envL N ρ)) = xs.map (CX.on N ρ) := fun xs => List.map_congr_left fun x _ => CX.on_ev N ρ x
  simp only [cop, e, hp, hq]
theorem call {f : CX} {args : List CX} {g : FuncId} {first cap as : List CVal} (hf : f.on N ρ = .func g first cap) (ha : args.map (CX.on N ρ) = as) (k : Cal T g (first ++ as ++ cap) h fun v h' => WPO T os ⟨envL N (ρ.putO d v), ds⟩ h' K) :
    WPO T (⟨d, .call f args, none⟩ :: os) ⟨envL N ρ, ds⟩ h K := by
  refine WPO.call (f := g) (args := first ++ as ++ cap) rfl (by simp only [cop, CX.on_ev, hf, ha]) (k.mono fun v h' k => ?_)
  rw [done_env]; exact k
end
end O

end Go.Proofs.YtmppoknfekdbbaaDoor.Cm
