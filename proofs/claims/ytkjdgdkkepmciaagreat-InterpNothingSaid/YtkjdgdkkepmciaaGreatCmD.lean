/-
  The clean machine, and what the law's functions do in it: part D of this claim's own texts. No conditions.
-/
import Derived.Test.YtkjdgdkkepmciaaGreatCmC
import Derived.IntWalk
namespace Go.Proofs.YtkjdgdkkepmciaaGreat.Cm
open Go.RowKit Go.IntWalk
structure Exd (h h' : Heap) : Prop where
 le : h.next ≤ h'.next
 get : ∀ i, i < h.next → h'.get i = h.get i
structure Upd (S : Nat → Prop) (h h' : Heap) : Prop where
 le : h.next ≤ h'.next
 get : ∀ i, i < h.next → ¬ S i → h'.get i = h.get i
inductive RES (N : Nat) (ρ : Env) (h : Heap) : List CRV → List CVal → Prop where
 | nil : RES N ρ h [] []
 | t {i : Nat} {v : CVal} {rs : List CRV} {vs : List CVal} (e : (CX.t i).on N ρ = v) (k : RES N ρ h rs vs) : RES N ρ h (.tmp i :: rs) (v :: vs)
 | c {i j p n : Nat} {v : CVal} {us : List CVal} {wr : Bool} {opn : Option Nat} {rs : List CRV} {vs : List CVal} (e : (CX.t i).on N ρ = .ptr j p) (g : h.get j = some (.cells us wr opn)) (ev : us[p]? = some v) (k : RES N ρ h rs vs) : RES N ρ h (.cell i false n :: rs) (v :: vs)
section
variable {T : Tab} {N : Nat} {ρ : Env} {ds : List (FuncId × List CVal)} {h : Heap} {Q : CExit → Fr → Heap → Prop} {c : CX} {x y : CCode}
def Env.puts (ρ : Env) : List (Nat × CVal) → Env
 | [] => ρ
 | p :: l => (ρ.puts l).put p.1 p.2
def Env.Has (ρ : Env) : List (Nat × CVal) → Prop
 | [] => True
 | p :: l => ρ p.1 = p.2 ∧ ρ.Has l
def scopeQ (rests : List (Nat × CCode)) (T : Tab) (Q : CExit → Fr → Heap → Prop) : CExit → Fr → Heap → Prop
 | .goto l, a, h => ∃ r, findRest l rests = some r ∧ WP T (.scope r rests) a h Q
 | x, a, h => Q x a h
def Env.wipe (ρ : Env) : List Nat → Env
 | [] => ρ
 | t :: ts => (ρ.put t .undef).wipe ts
end
namespace O
end O
def WPD (T : Tab) (base : Nat) (its : List DIt) (a : Fr) (h : Heap) (K : Fr → Heap → List (Fr × Heap) → Prop) : Prop := ∃ n a' h' hs, evD (callF T n) base its a h = some (a', h', hs) ∧ K a' h' hs
section
variable {T : Tab} {N base : Nat} {ρ : Env} {ds : List (FuncId × List CVal)} {h h' : Heap} {its : List DIt} {K : Fr → Heap → List (Fr × Heap) → Prop} {Q : CExit → Fr → Heap → Prop}
def QV (N : Nat) (ρ : Env) (h : Heap) (op : COp) (v : CVal) : Prop := cop op (envL N ρ) h = some (.val v, h)
def freeOp : COp → Bool
 | .move _ | .pick .. | .build .. | .nilCheck _ | .bin .. | .eq .. | .eqS .. | .un .. | .conv .. | .iface .. | .func .. | .sliceStr .. | .fieldAddr .. | .part .. | .indexAddr .. | .indexAddrArr .. | .indexArr .. | .indexStr .. | .extract .. | .maxmin .. => true
 | .len k _ => (match k with | .map => false | _ => true)
 | .slice _ _ _ _ none => true
 | _ => false
end
end Go.Proofs.YtkjdgdkkepmciaaGreat.Cm
namespace Go.Proofs.YtkjdgdkkepmciaaGreat.Cm
open Go.RowKit Go.IntWalk
set_option linter.unusedVariables false
abbrev DS := List (FuncId × List CVal)
structure LTN (a b : Int) (A B : Prop) : Prop where
 t : a < b → A
 f : b ≤ a → B
structure EQN (a b : Int) (A B : Prop) : Prop where
 t : a = b → A
 f : a ≠ b → B
structure EQSN (a b : List UInt8) (A B : Prop) : Prop where
 t : a = b → A
 f : a ≠ b → B
structure ARN (k : IntKind) (r : Int) (K : Int → Prop) : Prop where
 w : K (k.wrap r)
structure QUON (k : IntKind) (a b : Int) (K : Int → Prop) : Prop where
 n : b ≠ 0
 w : K (k.wrap (a.tdiv b))
structure REMN (a b : Int) (K : Int → Prop) : Prop where
 n : b ≠ 0
 w : K (a.tmod b)
inductive GETN (h : Heap) (i : Nat) (K : List CVal → Bool → Option Nat → Prop) : Prop where
 | mk {vs : List CVal} {wr : Bool} {opn : Option Nat} (g : h.get i = some (.cells vs wr opn)) (k : K vs wr opn)
inductive GETM (h : Heap) (i : Nat) (K : List (CVal × CVal) → Bool → Option (List Nat × Nat) → Prop) : Prop where
 | mk {es : List (CVal × CVal)} {wr : Bool} {st : Option (List Nat × Nat)} (g : h.get i = some (.map es wr st)) (k : K es wr st)
inductive NEWN (h : Heap) (K : Nat → Prop) : Prop where
 | mk {n : Nat} (e : h.next = n) (k : K n)
inductive SETN (h : Heap) (i o n : Nat) (us : List CVal) (K : Heap → Prop) : Prop where
 | mk {vs : List CVal} {opn : Option Nat} (g : h.get i = some (.cells vs true opn)) (hl : us.length = n) (ho : o + n ≤ vs.length) (k : K (h.set i (.cells (putCells vs o us) true opn)))
inductive SOMEN {α : Type} (x : Option α) (K : α → Prop) : Prop where
 | mk {a : α} (e : x = some a) (k : K a)
inductive CALLN (T : Tab) (f : FuncId) (args : List CVal) (h : Heap) (K : CVal → Heap → Prop) : Prop where
 | mk (k : Cal T f args h K)
inductive LKN (kt : KT) (zero : CVal) (ok : Bool) (x : CVal) (es : List (CVal × CVal)) (K : CVal → Prop) : Prop where
 | mk {r : Option (Nat × CVal)} (e : findK kt x es 0 = some r) (k : K (match r with | some q => if ok then .tuple [q.2, .bool true] else q.2 | none => if ok then .tuple [zero, .bool false] else zero))
inductive UPN (kt : KT) (i : Nat) (x z : CVal) (es : List (CVal × CVal)) (st : Option (List Nat × Nat)) (h : Heap) (K : Heap → Prop) : Prop where
 | mk {r : Option (Nat × CVal)} (e : findK kt x es 0 = some r) (k : K (h.set i (.map (match r with | some q => es.set q.1 (x, z) | none => es ++ [(x, z)]) true (match r with | some _ => st | none => stPush st))))
inductive ROUNDN (T : Tab) (i : Nat) (args : List CVal) (h : Heap) (K : CVal → Heap → Prop) : Prop where
 | mk {st : LoopState} {pend : Option CJ} {fn k np : Nat} {tmps : List CVal} {d : Nat} (g : h.get i = some (.loop st pend fn k np tmps d)) (hl : args.length = np) (c : CalR T i args h K)
inductive DOESN (P : Prop) (A : Prop) : Prop where
 | mk (p : P) (a : A)
inductive OPN (N : Nat) (op : COp) (ρ : Env) (h : Heap) (K : CVal → Heap → Prop) : Prop where
 | mk {v : CVal} {h' : Heap} (e : cop op (envL N ρ) h = some (.val v, h')) (k : K v h')
inductive CODEN (T : Tab) (N : Nat) (c : CCode) (ρ : Env) (ds : DS) (h : Heap) (Q : CExit → Env → DS → Heap → Prop) : Prop where
 | mk (k : WP T c ⟨envL N ρ, ds⟩ h fun e a h' => ∃ ρ' ds', a = ⟨envL N ρ', ds'⟩ ∧ Q e ρ' ds' h')
def BC (b : Bool) (A B : Prop) : Prop := match b with
 | true => A
 | false => B
def vK (v : CVal) : (CVal → Prop) → Prop := match v with
 | .undef => fun K => K .undef
 | .bool b => fun K => K (.bool b)
 | .int k n => fun K => K (.int k n)
 | .str s => fun K => K (.str s)
 | .nilPtr => fun K => K .nilPtr
 | .ptr i o => fun K => K (.ptr i o)
 | .nilSlice => fun K => K .nilSlice
 | .slice i o l c => fun K => K (.slice i o l c)
 | .nilMap => fun K => K .nilMap
 | .map i => fun K => K (.map i)
 | .nilFunc => fun K => K .nilFunc
 | .func f p q => fun K => K (.func f p q)
 | .yield i => fun K => K (.yield i)
 | .nilIface => fun K => K .nilIface
 | .iface t v => fun K => K (.iface t v)
 | .agg cs => fun K => K (.agg cs)
 | .tuple vs => fun K => K (.tuple vs)
def AT (vs : List CVal) (o : Nat) (K : CVal → Prop) : Prop := match vs[o]? with
 | some v => vK v K
 | none => False
def SM {α : Type} (x : Option α) (K : α → Prop) : Prop := match x with
 | some a => K a
 | none => SOMEN (none : Option α) K
def intK (op : BinOp) (k : IntKind) (a b : Int) (K : CVal → Prop) : Prop := match op with
 | .add => ARN k (a + b) fun r => K (.int k r)
 | .sub => ARN k (a - b) fun r => K (.int k r)
 | .mul => ARN k (a * b) fun r => K (.int k r)
 | .quo => QUON k a b fun r => K (.int k r)
 | .rem => REMN a b fun r => K (.int k r)
 | .eql => EQN a b (K (.bool true)) (K (.bool false))
 | .neq => EQN a b (K (.bool false)) (K (.bool true))
 | .lss => LTN a b (K (.bool true)) (K (.bool false))
 | .leq => LTN b a (K (.bool false)) (K (.bool true))
 | .gtr => LTN b a (K (.bool true)) (K (.bool false))
 | .geq => LTN a b (K (.bool false)) (K (.bool true))
 | op => SOMEN (intBin op k a b) K
def strK (op : BinOp) (a b : List UInt8) (K : CVal → Prop) : Prop := match op with
 | .eql => EQSN a b (K (.bool true)) (K (.bool false))
 | .neq => EQSN a b (K (.bool false)) (K (.bool true))
 | .add => DOESN (a.length + b.length ≤ 281474976710656) (K (.str (a ++ b)))
 | op => SOMEN (strBin op a b) K
def kindEq (k k' : IntKind) (A B : Prop) : Prop := match k, k' with
 | .i64, .i64 => A
 | .u8, .u8 => A
 | .i32, .i32 => A
 | k, k' => if k = k' then A else B
def binK (op : BinOp) (u v : CVal) (K : CVal → Prop) : Prop := match u with
 | .int k a => match v with
  | .int k' b => (match op with
   | .shl => SOMEN (shiftBin .shl k a b) K
   | .shr => SOMEN (shiftBin .shr k a b) K
   | op => kindEq k k' (intK op k a b K) False)
  | _ => False
 | .str a => match v with
  | .str b => strK op a b K
  | _ => False
 | _ => False
def eqK (tk : TK) (neg : Bool) (u v : CVal) (K : CVal → Prop) : Prop := match tk with
 | .bool => (match u with
  | .bool a => (match v with
   | .bool b => BC a (BC b (K (.bool (!neg))) (K (.bool neg))) (BC b (K (.bool neg)) (K (.bool (!neg))))
   | _ => False)
  | _ => False)
 | tk => SM (keq tk u v) fun b => BC b (K (.bool (!neg))) (K (.bool neg))
def unK (op : UnOp) (u : CVal) (K : CVal → Prop) : Prop := match u with
 | .bool b => (match op with
  | .not => BC b (K (.bool false)) (K (.bool true))
  | _ => False)
 | .int k n => (match op with
  | .neg => ARN k (0 - n) fun r => K (.int k r)
  | op => SOMEN (unC op (.int k n)) K)
 | _ => False
def mapOn (N : Nat) (ρ : Env) : List CX → List CVal
 | [] => []
 | x :: xs => x.on N ρ :: mapOn N ρ xs
noncomputable def argsK (vs : List CVal) : (List CVal → Prop) → Prop :=
 List.rec (motive := fun _ => (List CVal → Prop) → Prop) (fun K => K []) (fun v _ ih K => vK v fun u => ih fun us => K (u :: us)) vs
def lenS (v : CVal) : (Int → Prop) → Prop := match v with
 | .slice _ _ l _ => fun K => K l
 | .nilSlice => fun K => K 0
 | _ => fun _ => False
def idxS (sz : Nat) (v : CVal) : Int → (Nat → Nat → Prop) → Prop := match v with
 | .slice b o l _ => fun i K => DOESN (0 ≤ i ∧ i < l) (K b (o + i.toNat * sz))
 | _ => fun _ _ => False
def slcS (sz : Nat) (v : CVal) (lo hi : Option CVal) : (CVal → Prop) → Prop := match v with
 | .slice i o len cap => fun K => SOMEN (boundsC len cap lo hi none) fun r => K (.slice i (o + r.1 * sz) (r.2.1 - r.1) (r.2.2 - r.1))
 | .nilSlice => fun K => SOMEN (boundsC 0 0 lo hi none) fun _ => K .nilSlice
 | _ => fun _ => False
def oneS (v : CVal) : Prop → Prop := match v with
 | .undef => fun _ => False
 | .agg _ => fun _ => False
 | .tuple _ => fun _ => False
 | .bool _ => fun A => A
 | .int _ _ => fun A => A
 | .str _ => fun A => A
 | .nilPtr => fun A => A
 | .ptr _ _ => fun A => A
 | .nilSlice => fun A => A
 | .slice _ _ _ _ => fun A => A
 | .nilMap => fun A => A
 | .map _ => fun A => A
 | .nilFunc => fun A => A
 | .func _ _ _ => fun A => A
 | .yield _ => fun A => A
 | .nilIface => fun A => A
 | .iface _ _ => fun A => A
noncomputable def onesK (cs : List CVal) : Prop → Prop :=
 List.rec (motive := fun _ => Prop → Prop) (fun A => A) (fun c _ ih A => oneS c (ih A)) cs
noncomputable def celS (v : CVal) : (List CVal → Prop) → Prop := match v with
 | .agg cs => fun K => onesK cs (K cs)
 | .undef => fun _ => False
 | .tuple _ => fun _ => False
 | .bool b => fun K => K [.bool b]
 | .int k n => fun K => K [.int k n]
 | .str s => fun K => K [.str s]
 | .nilPtr => fun K => K [.nilPtr]
 | .ptr i o => fun K => K [.ptr i o]
 | .nilSlice => fun K => K [.nilSlice]
 | .slice i o l c => fun K => K [.slice i o l c]
 | .nilMap => fun K => K [.nilMap]
 | .map i => fun K => K [.map i]
 | .nilFunc => fun K => K [.nilFunc]
 | .func f p q => fun K => K [.func f p q]
 | .yield i => fun K => K [.yield i]
 | .nilIface => fun K => K [.nilIface]
 | .iface t v => fun K => K [.iface t v]
noncomputable def setK (u : CVal) (cs : List CVal) : Nat → (List CVal → Prop) → Prop :=
 List.rec (motive := fun _ => Nat → (List CVal → Prop) → Prop) (fun _ _ => False) (fun c cs ih o K => match o with
  | 0 => K (u :: cs)
  | o + 1 => ih o fun l => K (c :: l)) cs
noncomputable def putK (us : List CVal) : Nat → List CVal → (List CVal → Prop) → Prop :=
 List.rec (motive := fun _ => Nat → List CVal → (List CVal → Prop) → Prop) (fun _ cs K => K cs) (fun u _ ih o cs K => setK u cs o fun cs => ih (o + 1) cs K) us
noncomputable def fill1 (us : List CVal) (off n : Nat) (cs : List CVal) (ih : List CVal → Prop) : Prop := match Nat.beq us.length n with
 | true => (match us with
  | [] => (match Nat.ble off cs.length with
   | true => ih cs
   | false => False)
  | u :: us => putK (u :: us) off cs ih)
 | false => False
noncomputable def fillK (ps : List (Nat × Nat × CVal)) : List CVal → (List CVal → Prop) → Prop :=
 List.rec (motive := fun _ => List CVal → (List CVal → Prop) → Prop) (fun cs K => K cs) (fun p _ ih cs K => celS p.2.2 fun us => fill1 us p.1 p.2.1 cs fun cs => ih cs K) ps
noncomputable def opK (T : Tab) (N : Nat) (op : COp) (ρ : Env) (h : Heap) (K : CVal → Heap → Prop) : Prop := match op with
 | .move x => vK (x.on N ρ) fun v => K v h
 | .pick c x y => (match c.on N ρ with
  | .bool b => BC b (vK (x.on N ρ) fun v => K v h) (vK (y.on N ρ) fun v => K v h)
  | _ => False)
 | .bin op x y => binK op (x.on N ρ) (y.on N ρ) fun v => K v h
 | .eq tk neg x y => eqK tk neg (x.on N ρ) (y.on N ρ) fun v => K v h
 | .un op x => unK op (x.on N ρ) fun v => K v h
 | .conv k x => (match x.on N ρ with
  | .int _ n => ARN k n fun r => K (.int k r) h
  | _ => False)
 | .new zero => NEWN h fun n => K (.ptr n 0) (h.new (.cells zero true none))
 | .newMap => NEWN h fun n => K (.map n) (h.new (.map [] true (some ([], 0))))
 | .box x => celS (x.on N ρ) fun us => argsK us fun us => NEWN h fun n => K (.ptr n 0) (h.new (.cells us true none))
 | .build zero parts => fillK (parts.map fun p => (p.1, p.2.1, p.2.2.on N ρ)) zero fun cs => argsK cs fun cs => K (.agg cs) h
 | .buildSlice zero len parts => fillK (parts.map fun p => (p.1, p.2.1, p.2.2.on N ρ)) (repC len zero) fun cs => argsK cs fun cs => onesK cs (NEWN h fun n => K (.slice n 0 len len) (h.new (.cells cs true none)))
 | .load false _ x => (match x.on N ρ with
  | .ptr i o => GETN h i fun vs _ _ => AT vs o fun v => K v h
  | _ => False)
 | .load true n x => (match x.on N ρ with
  | .ptr i o => GETN h i fun vs _ _ => argsK ((vs.drop o).take n) fun us => DOESN (us.length = n) (K (.agg us) h)
  | _ => False)
 | .store n p x => (match p.on N ρ with
  | .ptr i o => celS (x.on N ρ) fun us => argsK us fun us => SETN h i o n us fun h' => K .un h'
  | _ => False)
 | .nilCheck x => (match x.on N ρ with
  | .ptr i o => K (.ptr i o) h
  | _ => False)
 | .func f first cap => argsK (mapOn N ρ first) fun p => argsK (mapOn N ρ cap) fun q => K (.func f p q) h
 | .fieldAddr off x => (match x.on N ρ with
  | .ptr i o => K (.ptr i (o + off)) h
  | _ => False)
 | .part agg off n x => (match x.on N ρ with
  | .agg cs => SM (partC agg off n cs) fun v => vK v fun v => K v h
  | _ => False)
 | .indexAddr sz x y => (match y.on N ρ with
  | .int _ i => idxS sz (x.on N ρ) i fun b o => K (.ptr b o) h
  | _ => False)
 | .indexAddrArr len sz x y => (match x.on N ρ with
  | .ptr b o => (match y.on N ρ with
   | .int _ i => DOESN (0 ≤ i ∧ i < len) (K (.ptr b (o + i.toNat * sz)) h)
   | _ => False)
  | _ => False)
 | .indexStr x y => (match x.on N ρ with
  | .str s => (match y.on N ρ with
   | .int _ i => DOESN (0 ≤ i) (SOMEN s[i.toNat]? fun b => K (.int .u8 b.toNat) h)
   | _ => False)
  | _ => False)
 | .len .slice x => lenS (x.on N ρ) fun l => K (.int .i64 l) h
 | .len .str x => (match x.on N ρ with
  | .str s => K (.int .i64 s.length) h
  | _ => False)
 | .len .map x => (match x.on N ρ with
  | .map i => GETM h i fun es _ _ => K (.int .i64 es.length) h
  | .nilMap => K (.int .i64 0) h
  | _ => False)
 | .extract x i => (match x.on N ρ with
  | .tuple vs => AT vs i fun v => K v h
  | _ => False)
 | .makeSlice zero bytes l c => (match l.on N ρ with
  | .int _ a => (match c.on N ρ with
   | .int _ b => DOESN (0 ≤ a ∧ a ≤ b ∧ b * bytes ≤ 1099511627776 ∧ b ≤ 1099511627776) (NEWN h fun n => K (.slice n 0 a.toNat b.toNat) (h.new (.cells (repC b.toNat zero) true none)))
   | _ => False)
  | _ => False)
 | .append sz bytes s x => SOMEN (appendC h sz bytes (s.on N ρ) (x.on N ρ)) fun r => K r.1 r.2
 | .maxmin isMax x [y] => (match x.on N ρ with
  | .int k a => (match y.on N ρ with
   | .int k' b => kindEq k k' (K (.int k (if isMax then max a b else min a b)) h) False
   | _ => False)
  | _ => False)
 | .iface t x => K (.iface t (x.on N ρ)) h
 | .slice sz x lo hi none => slcS sz (x.on N ρ) (lo.map (CX.on N ρ)) (hi.map (CX.on N ρ)) fun v => K v h
 | .sliceStr x lo hi => (match x.on N ρ with
  | .str s => SOMEN (boundsC s.length s.length (lo.map (CX.on N ρ)) (hi.map (CX.on N ρ)) none) fun r => K (.str ((s.drop r.1).take (r.2.1 - r.1))) h
  | _ => False)
 | .lookup kt zero ok m x => DOESN (keyok kt (x.on N ρ) = true) (SOMEN (mapC h (m.on N ρ)) fun es => vK (x.on N ρ) fun u => LKN kt zero ok u es fun v => K v h)
 | .mapUpdate kt m x y => (match m.on N ρ with
  | .map i => DOESN (keyok kt (x.on N ρ) = true) (GETM h i fun es wr st => DOESN (wr = true) (vK (x.on N ρ) fun u => vK (y.on N ρ) fun z => UPN kt i u z es st h fun h' => K .un h'))
  | _ => False)
 | .call f args => (match f.on N ρ with
  | .func g first cap => argsK (first ++ mapOn N ρ args ++ cap) fun as => CALLN T g as h K
  | .yield i => argsK (mapOn N ρ args) fun as => ROUNDN T i as h K
  | _ => False)
 | op => OPN N op ρ h K
def wO1 (T : Tab) (N : Nat) (o : COper) (ih : Env → DS → Heap → (Env → DS → Heap → Prop) → Prop) (ρ : Env) (ds : DS) (h : Heap) (K : Env → DS → Heap → Prop) : Prop := match o.guard with
  | none => (match o.op with
   | .defer f args => (match f.on N ρ with
    | .func g first cap => argsK (first ++ mapOn N ρ args ++ cap) fun as => DOESN (isMark (g, as) = none) (ih (ρ.putO o.dst .un) ((g, as) :: ds) h K)
    | _ => False)
   | op => opK T N op ρ h fun v h' => ih (ρ.putO o.dst v) ds h' K)
  | some g => (match (CX.t g.1).on N ρ with
   | .bool b => BC b
     (match g.2 with
      | true => opK T N o.op ρ h fun v h' => ih (ρ.putO o.dst v) ds h' K
      | false => ih (ρ.putO o.dst .un) ds h K)
     (match g.2 with
      | true => ih (ρ.putO o.dst .un) ds h K
      | false => opK T N o.op ρ h fun v h' => ih (ρ.putO o.dst v) ds h' K)
   | .tuple [] => ih (ρ.putO o.dst .un) ds h K
   | _ => False)
noncomputable def wO (T : Tab) (N : Nat) (os : List COper) : Env → DS → Heap → (Env → DS → Heap → Prop) → Prop :=
 List.rec (motive := fun _ => Env → DS → Heap → (Env → DS → Heap → Prop) → Prop) (fun ρ ds h K => K ρ ds h) (fun o _ ih => wO1 T N o ih) os
abbrev QT := CExit → Env → DS → Heap → Prop
def condK (v : CVal) (A B : Prop) : Prop := match v with
 | .bool b => BC b A B
 | _ => False
def seqQ (k : Env → DS → Heap → QT → Prop) (Q : QT) : QT := fun e ρ ds h => match e with
 | .normal => k ρ ds h Q
 | .exit id => Q (.exit id) ρ ds h
 | .ret => Q .ret ρ ds h
 | .goto l => Q (.goto l) ρ ds h
def blkQ (id : Nat) (Q : QT) : QT := fun e ρ ds h => match e with
 | .normal => Q .normal ρ ds h
 | .exit id' => (match Nat.beq id' id with
  | true => Q .normal ρ ds h
  | false => Q (.exit id') ρ ds h)
 | .ret => Q .ret ρ ds h
 | .goto l => Q (.goto l) ρ ds h
noncomputable def wC (T : Tab) (N : Nat) (c : CCode) : Env → DS → Heap → QT → Prop :=
 CCode.rec (motive_1 := fun _ => Env → DS → Heap → QT → Prop) (motive_2 := fun _ => PUnit) (motive_3 := fun _ => PUnit)
  (fun ρ ds h Q => Q .normal ρ ds h)
  (fun os ρ ds h Q => wO T N os ρ ds h (Q .normal))
  (fun its n ρ ds h Q => CODEN T N (.draw its n) ρ ds h Q)
  (fun _ _ kx ky ρ ds h Q => kx ρ ds h (seqQ ky Q))
  (fun c _ _ kx ky ρ ds h Q => condK (c.on N ρ) (kx ρ ds h Q) (ky ρ ds h Q))
  (fun id _ k ρ ds h Q => k ρ ds h (blkQ id Q))
  (fun x _ ρ ds h Q => CODEN T N (.loop x) ρ ds h Q)
  (fun id ρ ds h Q => Q (.exit id) ρ ds h)
  (fun ρ ds h Q => Q .ret ρ ds h)
  (fun ts ρ ds h Q => Q .normal (ρ.wipe ts) ds h)
  (fun l ρ ds h Q => Q (.goto l) ρ ds h)
  (fun b rs _ _ ρ ds h Q => CODEN T N (.scope b rs) ρ ds h Q)
  (fun fn k np f ρ ds h Q => CODEN T N (.rangeF fn k np f) ρ ds h Q)
  ⟨⟩ (fun _ _ _ _ => ⟨⟩) (fun _ _ _ => ⟨⟩) c
def frQ (N : Nat) (Q : QT) : CExit → Fr → Heap → Prop := fun e a h' => ∃ ρ' ds', a = ⟨envL N ρ', ds'⟩ ∧ Q e ρ' ds' h'
def resE (N : Nat) (ρ : Env) (h : Heap) : List CRV → (List CVal → Prop) → Prop
 | [], K => K []
 | .tmp t :: rs, K => vK ((CX.t t).on N ρ) fun v => resE N ρ h rs fun vs => K (v :: vs)
 | .cell t agg n :: rs, K => match (CX.t t).on N ρ with
  | .ptr i o => GETN h i fun us _ _ => (match agg with
   | false => AT us o fun v => resE N ρ h rs fun vs => K (v :: vs)
   | true => DOESN (((us.drop o).take n).length = n) (resE N ρ h rs fun vs => K (.agg ((us.drop o).take n) :: vs)))
  | _ => False
inductive DEFN (T : Tab) (ds : DS) (h : Heap) (K : Heap → Prop) : Prop where
 | mk (k : DefP T ds h K)
def endE (T : Tab) (N : Nat) (rs : List CRV) (Q : CVal → Heap → Prop) : QT := fun e ρ ds h => match e with
 | .normal => (match ds with
  | [] => resE N ρ h rs fun vs => Q (packC vs) h
  | d :: ds => DEFN T (d :: ds) h fun h' => resE N ρ h' rs fun vs => Q (packC vs) h')
 | .ret => (match ds with
  | [] => resE N ρ h rs fun vs => Q (packC vs) h
  | d :: ds => DEFN T (d :: ds) h fun h' => resE N ρ h' rs fun vs => Q (packC vs) h')
 | _ => False
def Env.sets (ρ : Env) : List Nat → List CVal → Env
 | t :: ts, v :: vs => Env.sets (ρ.put t v) ts vs
 | _, _ => ρ
def againQ {α : Type} (L : α → List (Nat × CVal)) (I : α → Heap → Prop) (lt : α → Prop) (ds : DS) (Q : QT) : QT := fun e ρ' ds' h' => match e with
 | .normal => ds' = ds ∧ ∃ s', ρ'.Has (L s') ∧ I s' h' ∧ lt s'
 | .exit id => Q (.exit id) ρ' ds' h'
 | .ret => Q .ret ρ' ds' h'
 | .goto l => Q (.goto l) ρ' ds' h'
end Go.Proofs.YtkjdgdkkepmciaaGreat.Cm
namespace Go.Proofs.YtkjdgdkkepmciaaGreat.Cm
open Go.RowKit
inductive NUMN (x : Nat) (K : Nat → Prop) : Prop where
 | mk {n : Nat} (e : x = n) (k : K n)
inductive LOOKN (N : Nat) (op : COp) (ρ : Env) (h : Heap) (v : CVal) (A : Prop) : Prop where
 | mk (e : cop op (envL N ρ) h = some (.val v, h)) (a : A)
structure Pend where
 k : Nat
 op : COp
 ρ : Env
 v : CVal
noncomputable def pendK (N p : Nat) (h : Heap) (qs : List Pend) (A : Prop) : Prop :=
 List.rec (motive := fun _ => Prop) A (fun q _ ih => match Nat.beq q.k p with
  | true => LOOKN N q.op q.ρ h q.v ih
  | false => ih) qs
noncomputable def pendE (N p : Nat) (h : Heap) (qs : List Pend) (A : Prop) : Prop :=
 List.rec (motive := fun _ => Prop) A (fun q _ ih => match Nat.beq q.k p with
  | true => LOOKN N q.op q.ρ h q.v ih
  | false => (match Nat.blt q.k p with
   | true => ih
   | false => False)) qs
noncomputable def pastK (N p : Nat) (hist : Nat → Heap) (op : COp) (ρ : Env) (v : CVal) (ks : List Nat) (A : Prop) : Prop :=
 List.rec (motive := fun _ => Prop) A (fun k _ ih => match Nat.blt k p with
  | true => LOOKN N op ρ (hist k) v ih
  | false => ih) ks
noncomputable def futP (p : Nat) (op : COp) (ρ : Env) (v : CVal) (ks : List Nat) (ps : List Pend) : List Pend :=
 List.rec (motive := fun _ => List Pend) ps (fun k _ ih => match Nat.blt p k with
  | true => ⟨k, op, ρ, v⟩ :: ih
  | false => ih) ks
def callOp : COp → Bool
 | .call .. => true
 | .defer .. => true
 | .invoke .. => true
 | _ => false
def allocK (N : Nat) (op : COp) (ρ : Env) (id : Nat) (K : CVal → CObj → Prop) : Prop := match op with
 | .new zero => K (.ptr id 0) (.cells zero true none)
 | .box x => celS (x.on N ρ) fun cs => argsK cs fun cs => K (.ptr id 0) (.cells cs true none)
 | .buildSlice zero len parts => fillK (parts.map fun p => (p.1, p.2.1, p.2.2.on N ρ)) (repC len zero) fun cs => argsK cs fun cs => onesK cs (K (.slice id 0 len len) (.cells cs true none))
 | .newMap => K (.map id) (.map [] true (some ([], 0)))
 | .makeSlice zero bytes l c => (match l.on N ρ with
  | .int _ a => (match c.on N ρ with
   | .int _ b => DOESN (0 ≤ a ∧ a ≤ b ∧ b * bytes ≤ 1099511627776 ∧ b ≤ 1099511627776) (K (.slice id 0 a.toNat b.toNat) (.cells (repC b.toNat zero) true none))
   | _ => False)
  | _ => False)
 | _ => False
def dstNe (d : Option Nat) (t : Nat) : Bool := match d with
 | none => true
 | some s => (match Nat.beq s t with
  | true => false
  | false => true)
noncomputable def lateIn (t : Nat) (its : List DIt) : Bool := List.rec (motive := fun _ => Bool) true (fun it _ ih => match dstNe it.c.dst t with
  | true => ih
  | false => false) its
noncomputable def lateNe (N : Nat) (d : Option Nat) (its : List DIt) : Bool := match d with
 | none => true
 | some t => (match Nat.blt t N with
  | true => lateIn t its
  | false => false)
noncomputable def allLe (n : Nat) (ks : List Nat) : Bool := List.rec (motive := fun _ => Bool) true (fun k _ ih => match Nat.ble k n with
  | true => ih
  | false => false) ks
def onlyIf (b : Bool) (A : Prop) : Prop := match b with
 | true => A
 | false => False
abbrev DRun := Nat → (Nat → Heap) → List Pend → Env → DS → Heap → (Env → DS → Heap → Prop) → Prop
noncomputable def quietK (T : Tab) (N : Nat) (c : COper) (ks : List Nat) (ih : DRun) (p : Nat) (hist : Nat → Heap) (pend : List Pend) (ρ : Env) (ds : DS) (h : Heap) (K : Env → DS → Heap → Prop) : Prop :=
 opK T N c.op ρ h fun v _ => match freeOp c.op with
  | true => ih (p + 1) (fun k => match Nat.beq k p with | true => h | false => hist k) pend (ρ.putO c.dst v) ds h K
  | false => pastK N p hist c.op ρ v ks (ih (p + 1) (fun k => match Nat.beq k p with | true => h | false => hist k) (futP p c.op ρ v ks pend) (ρ.putO c.dst v) ds h K)
noncomputable def wD1 (T : Tab) (N base n : Nat) (it : DIt) (its : List DIt) (ih : DRun) : DRun := fun p hist pend ρ ds h K =>
 pendK N p h pend (match it.kind with
  | .quiet ks => onlyIf (lateNe N it.c.dst its) (onlyIf (allLe n ks) (onlyIf (!callOp it.c.op) (match it.c.guard with
   | none => quietK T N it.c ks ih p hist pend ρ ds h K
   | some g => (match (CX.t g.1).on N ρ with
    | .bool b => BC b
     (match g.2 with
      | true => quietK T N it.c ks ih p hist pend ρ ds h K
      | false => ih (p + 1) (fun k => match Nat.beq k p with | true => h | false => hist k) pend (ρ.putO it.c.dst .un) ds h K)
     (match g.2 with
      | true => ih (p + 1) (fun k => match Nat.beq k p with | true => h | false => hist k) pend (ρ.putO it.c.dst .un) ds h K
      | false => quietK T N it.c ks ih p hist pend ρ ds h K)
    | .tuple [] => ih (p + 1) (fun k => match Nat.beq k p with | true => h | false => hist k) pend (ρ.putO it.c.dst .un) ds h K
    | _ => False))))
  | .alloc aid => (match it.c.guard with
   | none => NUMN (base + aid) fun id => allocK N it.c.op ρ id fun v obj => ih (p + 1) (fun k => match Nat.beq k p with | true => h | false => hist k) pend (ρ.putO it.c.dst v) ds (h.set id obj) K
   | some _ => False)
  | .eff => wO1 T N it.c (fun ρ' ds' h' _ => ih (p + 1) (fun k => match Nat.beq k p with | true => h | false => hist k) pend ρ' ds' h' K) ρ ds h K)
noncomputable def wD (T : Tab) (N base n : Nat) (its : List DIt) : DRun :=
 List.rec (motive := fun _ => DRun) (fun p _ pend ρ ds h K => pendE N p h pend (K ρ ds h)) (fun it its ih => wD1 T N base n it its ih) its
def DQ (N : Nat) (its : List DIt) (pre : List (Fr × Heap)) (pend : List Pend) (p : Nat) (ρ : Env) (K : Env → DS → Heap → Prop) : Fr → Heap → List (Fr × Heap) → Prop := fun a' h' hs =>
 hs.length = its.length + 1 ∧ checkD a'.tmps (pre ++ hs) its hs = true ∧ (∀ q ∈ pend, p ≤ q.k → ∃ f h₁, (pre ++ hs)[q.k]? = some (f, h₁) ∧ cop q.op (envL N q.ρ) h₁ = some (.val q.v, h₁)) ∧
 ∃ ρ' ds', a' = ⟨envL N ρ', ds'⟩ ∧ (∀ t, (∀ it ∈ its, it.c.dst ≠ some t) → (CX.t t).on N ρ' = (CX.t t).on N ρ) ∧ K ρ' ds' h'
def Heap.room (h : Heap) : Nat → Heap
 | 0 => h
 | k + 1 => { h with next := h.next + (k + 1) }
end Go.Proofs.YtkjdgdkkepmciaaGreat.Cm
