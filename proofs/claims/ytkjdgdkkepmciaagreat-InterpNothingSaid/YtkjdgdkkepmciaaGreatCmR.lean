/-
  The clean machine, and what the law's functions do in it: part R of this claim's own texts. No conditions.
-/
import Derived.Test.YtkjdgdkkepmciaaGreatCmC
namespace Go.Proofs.YtkjdgdkkepmciaaGreat.Cm
noncomputable section
abbrev O := Option (CVal × Heap)
abbrev DS' := List (FuncId × List CVal)
inductive PT where
 | leaf
 | node (v : CVal) (l r : PT)
def PT.get (t : PT) : Nat → CVal := PT.rec (motive := fun _ => Nat → CVal) (fun _ => .undef)
 (fun v _ _ gl gr k => Bool.rec (motive := fun _ => CVal) (Bool.rec (motive := fun _ => CVal) (gr (Nat.div (Nat.pred k) 2)) (gl (Nat.div (Nat.pred k) 2)) (Nat.beq (Nat.mod k 2) 1)) v (Nat.beq k 0)) t
def PT.atK (t : PT) : Nat → Option CVal := PT.rec (motive := fun _ => Nat → Option CVal) (fun _ => none)
 (fun v _ _ gl gr k => Bool.rec (motive := fun _ => Option CVal) (Bool.rec (motive := fun _ => Option CVal) (gr (Nat.div (Nat.pred k) 2)) (gl (Nat.div (Nat.pred k) 2)) (Nat.beq (Nat.mod k 2) 1)) (some v) (Nat.beq k 0)) t
def PT.put (t : PT) : Nat → CVal → PT := PT.rec (motive := fun _ => Nat → CVal → PT) (fun _ _ => .leaf)
 (fun v l r pl pr k u => Bool.rec (motive := fun _ => PT) (Bool.rec (motive := fun _ => PT) (.node v l (pr (Nat.div (Nat.pred k) 2) u)) (.node v (pl (Nat.div (Nat.pred k) 2) u) r) (Nat.beq (Nat.mod k 2) 1)) (.node u l r) (Nat.beq k 0)) t
def PT.mk : Nat → Nat → PT := Nat.rec (motive := fun _ => Nat → PT) (fun _ => .leaf) (fun _ ih n => Bool.rec (motive := fun _ => PT) (.node .un (ih (Nat.div n 2)) (ih (Nat.div (Nat.pred n) 2))) .leaf (Nat.beq n 0))
def PT.puts (l : List CVal) : PT → Nat → PT := List.rec (motive := fun _ => PT → Nat → PT) (fun t _ => t) (fun v _ ih t k => ih (t.put k v) (Nat.succ k)) l
def PT.wipe (l : List Nat) : PT → PT := List.rec (motive := fun _ => PT → PT) (fun t => t) (fun k _ ih t => ih (t.put k .undef)) l
def PT.set (t : PT) (v : CVal) (d : Option Nat) : PT := Option.rec (motive := fun _ => PT → CVal → PT) (fun t _ => t) (fun k t v => t.put k v) d t v
def evX (t : PT) (x : CX) : CVal := CX.rec (motive := fun _ => PT → CVal) (fun n t => t.get n) (fun v _ => v) x t
def mapX (f : CX → CVal) (l : List CX) : List CVal := List.rec (motive := fun _ => (CX → CVal) → List CVal) (fun _ => []) (fun x _ ih f => f x :: ih f) l f
def Tr.getK (t : Tr) : Nat → Option CObj := Tr.rec (motive := fun _ => Nat → Option CObj) (fun _ => none)
 (fun v _ _ gl gr k => Bool.rec (motive := fun _ => Option CObj) (Bool.rec (motive := fun _ => Option CObj) (gr (Nat.div (Nat.pred k) 2)) (gl (Nat.div (Nat.pred k) 2)) (Nat.beq (Nat.mod k 2) 1)) v (Nat.beq k 0)) t
def Tr.setK : Nat → Tr → Nat → Option CObj → Tr := Nat.rec (motive := fun _ => Tr → Nat → Option CObj → Tr) (fun t _ _ => t)
 (fun _ ih t => Tr.rec (motive := fun _ => (Tr → Nat → Option CObj → Tr) → Nat → Option CObj → Tr)
  (fun ih k o => Bool.rec (motive := fun _ => Tr) (Bool.rec (motive := fun _ => Tr) (.node none .nil (ih .nil (Nat.div (Nat.pred k) 2) o)) (.node none (ih .nil (Nat.div (Nat.pred k) 2) o) .nil) (Nat.beq (Nat.mod k 2) 1)) (.node o .nil .nil) (Nat.beq k 0))
  (fun v l r _ _ ih k o => Bool.rec (motive := fun _ => Tr) (Bool.rec (motive := fun _ => Tr) (.node v l (ih r (Nat.div (Nat.pred k) 2) o)) (.node v (ih l (Nat.div (Nat.pred k) 2) o) r) (Nat.beq (Nat.mod k 2) 1)) (.node o l r) (Nat.beq k 0)) t ih)
def Heap.getK (h : Heap) (i : Nat) : Option CObj := Tr.getK h.t i
def Heap.setK (h : Heap) (i : Nat) (o : CObj) : Heap := ⟨h.next, Tr.setK (Nat.succ i) h.t i (some o)⟩
def Heap.newK (h : Heap) (o : CObj) : Heap := ⟨Nat.succ h.next, Tr.setK (Nat.succ h.next) h.t h.next (some o)⟩
def kNat (k : IntKind) : Nat := IntKind.rec (motive := fun _ => Nat) 0 1 2 3 4 5 6 7 k
def addK (a : Int) : Int → Int := Int.rec (motive := fun _ => Int → Int)
 (fun m b => Int.rec (motive := fun _ => Nat → Int) (fun n m => Int.ofNat (Nat.add m n)) (fun n m => Int.add (Int.ofNat m) (Int.negSucc n)) b m)
 (fun m b => Int.add (Int.negSucc m) b) a
def eqKK (a : Int) : Int → Bool := Int.rec (motive := fun _ => Int → Bool)
 (fun m b => Int.rec (motive := fun _ => Nat → Bool) (fun n m => Nat.beq m n) (fun _ _ => false) b m)
 (fun m b => Int.rec (motive := fun _ => Nat → Bool) (fun _ _ => false) (fun n m => Nat.beq m n) b m) a
def leK (a : Int) : Int → Bool := Int.rec (motive := fun _ => Int → Bool)
 (fun m b => Int.rec (motive := fun _ => Nat → Bool) (fun n m => Nat.ble m n) (fun _ _ => false) b m)
 (fun m b => Int.rec (motive := fun _ => Nat → Bool) (fun _ _ => true) (fun n m => Nat.ble n m) b m) a
def wrapS (n : Int) : Int := Int.rec (motive := fun _ => Int) (fun m => Bool.rec (motive := fun _ => Int) (IntKind.wrap .i64 (Int.ofNat m)) (Int.ofNat m) (Nat.ble m 9223372036854775807)) (fun m => Bool.rec (motive := fun _ => Int) (IntKind.wrap .i64 (Int.negSucc m)) (Int.negSucc m) (Nat.ble m 9223372036854775807)) n
def wrapK (k : IntKind) : Int → Int := IntKind.rec (motive := fun _ => Int → Int) (IntKind.wrap .i8) (IntKind.wrap .i16) (IntKind.wrap .i32) wrapS (IntKind.wrap .u8) (IntKind.wrap .u16) (IntKind.wrap .u32) (IntKind.wrap .u64) k
def natK (n : Int) : Option Nat := Int.rec (motive := fun _ => Option Nat) (fun m => some m) (fun _ => none) n
def nthK (l : List CVal) : Nat → Option CVal := List.rec (motive := fun _ => Nat → Option CVal) (fun _ => none) (fun x _ ih i => Bool.rec (motive := fun _ => Option CVal) (ih (Nat.pred i)) (some x) (Nat.beq i 0)) l
def setL (l : List CVal) : Nat → CVal → List CVal := List.rec (motive := fun _ => Nat → CVal → List CVal) (fun _ _ => []) (fun x xs ih i v => Bool.rec (motive := fun _ => List CVal) (x :: ih (Nat.pred i) v) (v :: xs) (Nat.beq i 0)) l
def lenLK (l : List CVal) : Nat := List.rec (motive := fun _ => Nat) 0 (fun _ _ ih => Nat.succ ih) l
abbrev KV := CVal → Heap → O
abbrev KR := CRes → Heap → O
def anyK (r : Option (CRes × Heap)) (kv : KV) (kr : KR) : O := Option.rec (motive := fun _ => KV → KR → O) (fun _ _ => none)
 (fun p => Prod.rec (motive := fun _ => KV → KR → O) (fun r h kv kr => CRes.rec (motive := fun _ => Heap → KV → KR → O) (fun v h kv _ => kv v h) (fun f l h _ kr => kr (.enter f l) h) (fun f l h _ kr => kr (.defer f l) h) (fun i l h _ kr => kr (.round i l) h) r h kv kr) p) r kv kr
def optV (r : Option CVal) (kv : KV) (h : Heap) : O := Option.rec (motive := fun _ => KV → Heap → O) (fun _ _ => none) (fun v kv h => kv v h) r kv h
def isInt (v : CVal) : Option Int := CVal.rec (motive_1 := fun _ => Option Int) (motive_2 := fun _ => PUnit) (none) (fun _ => none) (fun _ n => some n) (fun _ => none) (none) (fun _ _ => none) (none) (fun _ _ _ _ => none) (none) (fun _ => none) (none) (fun _ _ _ _ _ => none) (fun _ => none) (none) (fun _ _ _ => none) (fun _ _ => none) (fun _ _ => none) ⟨⟩ (fun _ _ _ _ => ⟨⟩) v
def isNat (v : CVal) : Option Nat := CVal.rec (motive_1 := fun _ => Option Nat) (motive_2 := fun _ => PUnit) (none) (fun _ => none) (fun _ n => natK n) (fun _ => none) (none) (fun _ _ => none) (none) (fun _ _ _ _ => none) (none) (fun _ => none) (none) (fun _ _ _ _ _ => none) (fun _ => none) (none) (fun _ _ _ => none) (fun _ _ => none) (fun _ _ => none) ⟨⟩ (fun _ _ _ _ => ⟨⟩) v
def opMove (x : CX) (f : CX → CVal) (h : Heap) (kv : KV) (_ : KR) : O := kv (f x) h
def opPick (c x y : CX) (f : CX → CVal) (h : Heap) (kv : KV) (_ : KR) : O := CVal.rec (motive_1 := fun _ => CX → CX → (CX → CVal) → Heap → KV → O) (motive_2 := fun _ => PUnit) (fun _ _ _ _ _ => none) (fun b x y f h kv => Bool.rec (motive := fun _ => O) (kv (f y) h) (kv (f x) h) b) (fun _ _ => fun _ _ _ _ _ => none) (fun _ => fun _ _ _ _ _ => none) (fun _ _ _ _ _ => none) (fun _ _ => fun _ _ _ _ _ => none) (fun _ _ _ _ _ => none) (fun _ _ _ _ => fun _ _ _ _ _ => none) (fun _ _ _ _ _ => none) (fun _ => fun _ _ _ _ _ => none) (fun _ _ _ _ _ => none) (fun _ _ _ _ _ => fun _ _ _ _ _ => none) (fun _ => fun _ _ _ _ _ => none) (fun _ _ _ _ _ => none) (fun _ _ _ => fun _ _ _ _ _ => none) (fun _ _ => fun _ _ _ _ _ => none) (fun _ _ => fun _ _ _ _ _ => none) ⟨⟩ (fun _ _ _ _ => ⟨⟩) (f c) x y f h kv
def opNew (z : List CVal) (_ : CX → CVal) (h : Heap) (kv : KV) (_ : KR) : O := kv (.ptr h.next 0) (h.newK (.cells z true none))
def cellK (x : Option CObj) (o : Nat) (h : Heap) (kv : KV) : O := Option.rec (motive := fun _ => Nat → Heap → KV → O) (fun _ _ _ => none) (CObj.rec (motive := fun _ => Nat → Heap → KV → O) (fun vs _ _ o h kv => optV (nthK vs o) kv h) (fun _ _ _ _ _ _ => none) (fun _ _ _ _ _ => none) (fun _ _ _ _ _ _ _ _ _ _ => none) (fun _ _ _ => none) (fun _ _ _ _ => none)) x o h kv
def load1 (v : CVal) (h : Heap) (kv : KV) : O := CVal.rec (motive_1 := fun _ => Heap → KV → O) (motive_2 := fun _ => PUnit) (fun _ _ => none) (fun _ => fun _ _ => none) (fun _ _ => fun _ _ => none) (fun _ => fun _ _ => none) (fun _ _ => none) (fun i o h kv => cellK (h.getK i) o h kv) (fun _ _ => none) (fun _ _ _ _ => fun _ _ => none) (fun _ _ => none) (fun _ => fun _ _ => none) (fun _ _ => none) (fun _ _ _ _ _ => fun _ _ => none) (fun _ => fun _ _ => none) (fun _ _ => none) (fun _ _ _ => fun _ _ => none) (fun _ _ => fun _ _ => none) (fun _ _ => fun _ _ => none) ⟨⟩ (fun _ _ _ _ => ⟨⟩) v h kv
def opLoad (agg : Bool) (n : Nat) (x : CX) (f : CX → CVal) (h : Heap) (kv : KV) (kr : KR) : O := Bool.rec (motive := fun _ => O) (load1 (f x) h kv) (anyK (cop (.load true n (.c (f x))) [] h) kv kr) agg
def oneK (v : CVal) : Bool := CVal.rec (motive_1 := fun _ => Bool) (motive_2 := fun _ => PUnit) (false) (fun _ => true) (fun _ _ => true) (fun _ => true) (true) (fun _ _ => true) (true) (fun _ _ _ _ => true) (true) (fun _ => true) (true) (fun _ _ _ _ _ => true) (fun _ => true) (true) (fun _ _ _ => true) (fun _ _ => false) (fun _ _ => false) ⟨⟩ (fun _ _ _ _ => ⟨⟩) v
def store1 (x : Option CObj) (i o : Nat) (v : CVal) (h : Heap) (kv : KV) : O := Option.rec (motive := fun _ => Nat → Nat → CVal → Heap → KV → O) (fun _ _ _ _ _ => none) (CObj.rec (motive := fun _ => Nat → Nat → CVal → Heap → KV → O) (fun vs wr opn i o v h kv => Bool.rec (motive := fun _ => O) none (Bool.rec (motive := fun _ => O) none (kv .un (h.setK i (.cells (setL vs o v) true opn))) (Nat.blt o (lenLK vs))) wr) (fun _ _ _ _ _ _ _ _ => none) (fun _ _ _ _ _ _ _ => none) (fun _ _ _ _ _ _ _ _ _ _ _ _ => none) (fun _ _ _ _ _ => none) (fun _ _ _ _ _ _ => none)) x i o v h kv
def storeP (p v : CVal) (h : Heap) (kv : KV) : O := CVal.rec (motive_1 := fun _ => CVal → Heap → KV → O) (motive_2 := fun _ => PUnit) (fun _ _ _ => none) (fun _ => fun _ _ _ => none) (fun _ _ => fun _ _ _ => none) (fun _ => fun _ _ _ => none) (fun _ _ _ => none) (fun i o v h kv => store1 (h.getK i) i o v h kv) (fun _ _ _ => none) (fun _ _ _ _ => fun _ _ _ => none) (fun _ _ _ => none) (fun _ => fun _ _ _ => none) (fun _ _ _ => none) (fun _ _ _ _ _ => fun _ _ _ => none) (fun _ => fun _ _ _ => none) (fun _ _ _ => none) (fun _ _ _ => fun _ _ _ => none) (fun _ _ => fun _ _ _ => none) (fun _ _ => fun _ _ _ => none) ⟨⟩ (fun _ _ _ _ => ⟨⟩) p v h kv
def opStore (n : Nat) (p x : CX) (f : CX → CVal) (h : Heap) (kv : KV) (kr : KR) : O := Bool.rec (motive := fun _ => O) (anyK (cop (.store n (.c (f p)) (.c (f x))) [] h) kv kr) (storeP (f p) (f x) h kv) (Bool.and (Nat.beq n 1) (oneK (f x)))
def opNil (x : CX) (f : CX → CVal) (h : Heap) (kv : KV) (_ : KR) : O := CVal.rec (motive_1 := fun _ => (CX → CVal) → CX → Heap → KV → O) (motive_2 := fun _ => PUnit) (fun _ _ _ _ => none) (fun _ => fun f x h kv => kv (f x) h) (fun _ _ => fun f x h kv => kv (f x) h) (fun _ => fun f x h kv => kv (f x) h) (fun _ _ _ _ => none) (fun _ _ => fun f x h kv => kv (f x) h) (fun f x h kv => kv (f x) h) (fun _ _ _ _ => fun f x h kv => kv (f x) h) (fun f x h kv => kv (f x) h) (fun _ => fun f x h kv => kv (f x) h) (fun _ _ _ _ => none) (fun _ _ _ _ _ => fun f x h kv => kv (f x) h) (fun _ => fun f x h kv => kv (f x) h) (fun _ _ _ _ => none) (fun _ _ _ => fun _ _ _ _ => none) (fun _ _ => fun f x h kv => kv (f x) h) (fun _ _ => fun f x h kv => kv (f x) h) ⟨⟩ (fun _ _ _ _ => ⟨⟩) (f x) f x h kv
def intKK (op : BinOp) : IntKind → Int → Int → KV → Heap → O := BinOp.rec (motive := fun _ => IntKind → Int → Int → KV → Heap → O) (fun k a b kv h => kv (.int k (wrapK k (addK a b))) h) (fun k a b kv h => kv (.int k (wrapK k (Int.sub a b))) h) (fun k a b kv h => optV (binC .mul (.int k a) (.int k b)) kv h) (fun k a b kv h => optV (binC .quo (.int k a) (.int k b)) kv h) (fun k a b kv h => optV (binC .rem (.int k a) (.int k b)) kv h) (fun k a b kv h => optV (binC .and (.int k a) (.int k b)) kv h) (fun k a b kv h => optV (binC .or (.int k a) (.int k b)) kv h) (fun k a b kv h => optV (binC .xor (.int k a) (.int k b)) kv h) (fun k a b kv h => optV (binC .shl (.int k a) (.int k b)) kv h) (fun k a b kv h => optV (binC .shr (.int k a) (.int k b)) kv h) (fun k a b kv h => optV (binC .andNot (.int k a) (.int k b)) kv h) (fun _ a b kv h => kv (.bool (eqKK a b)) h) (fun _ a b kv h => kv (.bool (Bool.not (eqKK a b))) h) (fun _ a b kv h => kv (.bool (Bool.not (leK b a))) h) (fun _ a b kv h => kv (.bool (leK a b)) h) (fun _ a b kv h => kv (.bool (Bool.not (leK a b))) h) (fun _ a b kv h => kv (.bool (leK b a)) h) op
def bin2 (v : CVal) (k : IntKind) (a : Int) (op : BinOp) (kv : KV) (h : Heap) : O := CVal.rec (motive_1 := fun _ => IntKind → Int → BinOp → KV → Heap → O) (motive_2 := fun _ => PUnit) (fun _ _ _ _ _ => none) (fun _ => fun _ _ _ _ _ => none) (fun k' b k a op kv h => Bool.rec (motive := fun _ => O) (optV (binC op (.int k a) (.int k' b)) kv h) (intKK op k a b kv h) (Nat.beq (kNat k) (kNat k'))) (fun _ => fun _ _ _ _ _ => none) (fun _ _ _ _ _ => none) (fun _ _ => fun _ _ _ _ _ => none) (fun _ _ _ _ _ => none) (fun _ _ _ _ => fun _ _ _ _ _ => none) (fun _ _ _ _ _ => none) (fun _ => fun _ _ _ _ _ => none) (fun _ _ _ _ _ => none) (fun _ _ _ _ _ => fun _ _ _ _ _ => none) (fun _ => fun _ _ _ _ _ => none) (fun _ _ _ _ _ => none) (fun _ _ _ => fun _ _ _ _ _ => none) (fun _ _ => fun _ _ _ _ _ => none) (fun _ _ => fun _ _ _ _ _ => none) ⟨⟩ (fun _ _ _ _ => ⟨⟩) v k a op kv h
def opBin (op : BinOp) (x y : CX) (f : CX → CVal) (h : Heap) (kv : KV) (_ : KR) : O := CVal.rec (motive_1 := fun _ => BinOp → CX → (CX → CVal) → KV → Heap → O) (motive_2 := fun _ => PUnit) (fun _ _ _ _ _ => none) (fun _ => fun _ _ _ _ _ => none) (fun k a op y f kv h => bin2 (f y) k a op kv h) (fun s op y f kv h => optV (binC op (.str s) (f y)) kv h) (fun _ _ _ _ _ => none) (fun _ _ => fun _ _ _ _ _ => none) (fun _ _ _ _ _ => none) (fun _ _ _ _ => fun _ _ _ _ _ => none) (fun _ _ _ _ _ => none) (fun _ => fun _ _ _ _ _ => none) (fun _ _ _ _ _ => none) (fun _ _ _ _ _ => fun _ _ _ _ _ => none) (fun _ => fun _ _ _ _ _ => none) (fun _ _ _ _ _ => none) (fun _ _ _ => fun _ _ _ _ _ => none) (fun _ _ => fun _ _ _ _ _ => none) (fun _ _ => fun _ _ _ _ _ => none) ⟨⟩ (fun _ _ _ _ => ⟨⟩) (f x) op y f kv h
def opUn (op : UnOp) (x : CX) (f : CX → CVal) (h : Heap) (kv : KV) (_ : KR) : O := optV (unC op (f x)) kv h
def opConv (k : IntKind) (x : CX) (f : CX → CVal) (h : Heap) (kv : KV) (_ : KR) : O := CVal.rec (motive_1 := fun _ => IntKind → KV → Heap → O) (motive_2 := fun _ => PUnit) (fun _ _ _ => none) (fun _ => fun _ _ _ => none) (fun _ n k kv h => kv (.int k (wrapK k n)) h) (fun _ => fun _ _ _ => none) (fun _ _ _ => none) (fun _ _ => fun _ _ _ => none) (fun _ _ _ => none) (fun _ _ _ _ => fun _ _ _ => none) (fun _ _ _ => none) (fun _ => fun _ _ _ => none) (fun _ _ _ => none) (fun _ _ _ _ _ => fun _ _ _ => none) (fun _ => fun _ _ _ => none) (fun _ _ _ => none) (fun _ _ _ => fun _ _ _ => none) (fun _ _ => fun _ _ _ => none) (fun _ _ => fun _ _ _ => none) ⟨⟩ (fun _ _ _ _ => ⟨⟩) (f x) k kv h
def opField (off : Nat) (x : CX) (f : CX → CVal) (h : Heap) (kv : KV) (_ : KR) : O := CVal.rec (motive_1 := fun _ => Nat → KV → Heap → O) (motive_2 := fun _ => PUnit) (fun _ _ _ => none) (fun _ => fun _ _ _ => none) (fun _ _ => fun _ _ _ => none) (fun _ => fun _ _ _ => none) (fun _ _ _ => none) (fun i o off kv h => kv (.ptr i (Nat.add o off)) h) (fun _ _ _ => none) (fun _ _ _ _ => fun _ _ _ => none) (fun _ _ _ => none) (fun _ => fun _ _ _ => none) (fun _ _ _ => none) (fun _ _ _ _ _ => fun _ _ _ => none) (fun _ => fun _ _ _ => none) (fun _ _ _ => none) (fun _ _ _ => fun _ _ _ => none) (fun _ _ => fun _ _ _ => none) (fun _ _ => fun _ _ _ => none) ⟨⟩ (fun _ _ _ _ => ⟨⟩) (f x) off kv h
def idx2 (j : Option Nat) (b o l sz : Nat) (kv : KV) (h : Heap) : O := Option.rec (motive := fun _ => Nat → Nat → Nat → Nat → KV → Heap → O) (fun _ _ _ _ _ _ => none) (fun j b o l sz kv h => Bool.rec (motive := fun _ => O) none (kv (.ptr b (Nat.add o (Nat.mul j sz))) h) (Nat.blt j l)) j b o l sz kv h
def opIndex (sz : Nat) (x i : CX) (f : CX → CVal) (h : Heap) (kv : KV) (_ : KR) : O := CVal.rec (motive_1 := fun _ => Option Nat → Nat → KV → Heap → O) (motive_2 := fun _ => PUnit) (fun _ _ _ _ => none) (fun _ => fun _ _ _ _ => none) (fun _ _ => fun _ _ _ _ => none) (fun _ => fun _ _ _ _ => none) (fun _ _ _ _ => none) (fun _ _ => fun _ _ _ _ => none) (fun _ _ _ _ => none) (fun b o l _ j sz kv h => idx2 j b o l sz kv h) (fun _ _ _ _ => none) (fun _ => fun _ _ _ _ => none) (fun _ _ _ _ => none) (fun _ _ _ _ _ => fun _ _ _ _ => none) (fun _ => fun _ _ _ _ => none) (fun _ _ _ _ => none) (fun _ _ _ => fun _ _ _ _ => none) (fun _ _ => fun _ _ _ _ => none) (fun _ _ => fun _ _ _ _ => none) ⟨⟩ (fun _ _ _ _ => ⟨⟩) (f x) (isNat (f i)) sz kv h
def opLen (k : LK) (x : CX) (f : CX → CVal) (h : Heap) (kv : KV) (kr : KR) : O := LK.rec (motive := fun _ => CX → (CX → CVal) → Heap → KV → KR → O) (fun x f h kv kr => anyK (cop (.len .str (.c (f x))) [] h) kv kr) (fun x f h kv _ => CVal.rec (motive_1 := fun _ => KV → Heap → O) (motive_2 := fun _ => PUnit) (fun _ _ => none) (fun _ => fun _ _ => none) (fun _ _ => fun _ _ => none) (fun _ => fun _ _ => none) (fun _ _ => none) (fun _ _ => fun _ _ => none) (fun kv h => kv (.int .i64 (Int.ofNat 0)) h) (fun _ _ l _ kv h => kv (.int .i64 (Int.ofNat l)) h) (fun _ _ => none) (fun _ => fun _ _ => none) (fun _ _ => none) (fun _ _ _ _ _ => fun _ _ => none) (fun _ => fun _ _ => none) (fun _ _ => none) (fun _ _ _ => fun _ _ => none) (fun _ _ => fun _ _ => none) (fun _ _ => fun _ _ => none) ⟨⟩ (fun _ _ _ _ => ⟨⟩) (f x) kv h) (fun x f h kv kr => anyK (cop (.len .map (.c (f x))) [] h) kv kr) k x f h kv kr
def opExtract (x : CX) (i : Nat) (f : CX → CVal) (h : Heap) (kv : KV) (_ : KR) : O := CVal.rec (motive_1 := fun _ => Nat → KV → Heap → O) (motive_2 := fun _ => PUnit) (fun _ _ _ => none) (fun _ => fun _ _ _ => none) (fun _ _ => fun _ _ _ => none) (fun _ => fun _ _ _ => none) (fun _ _ _ => none) (fun _ _ => fun _ _ _ => none) (fun _ _ _ => none) (fun _ _ _ _ => fun _ _ _ => none) (fun _ _ _ => none) (fun _ => fun _ _ _ => none) (fun _ _ _ => none) (fun _ _ _ _ _ => fun _ _ _ => none) (fun _ => fun _ _ _ => none) (fun _ _ _ => none) (fun _ _ _ => fun _ _ _ => none) (fun _ _ => fun _ _ _ => none) (fun vs _ i kv h => optV (nthK vs i) kv h) ⟨⟩ (fun _ _ _ _ => ⟨⟩) (f x) i kv h
def opPart (agg : Bool) (off n : Nat) (x : CX) (f : CX → CVal) (h : Heap) (kv : KV) (kr : KR) : O := Bool.rec (motive := fun _ => O) (CVal.rec (motive_1 := fun _ => Nat → KV → Heap → O) (motive_2 := fun _ => PUnit) (fun _ _ _ => none) (fun _ => fun _ _ _ => none) (fun _ _ => fun _ _ _ => none) (fun _ => fun _ _ _ => none) (fun _ _ _ => none) (fun _ _ => fun _ _ _ => none) (fun _ _ _ => none) (fun _ _ _ _ => fun _ _ _ => none) (fun _ _ _ => none) (fun _ => fun _ _ _ => none) (fun _ _ _ => none) (fun _ _ _ _ _ => fun _ _ _ => none) (fun _ => fun _ _ _ => none) (fun _ _ _ => none) (fun _ _ _ => fun _ _ _ => none) (fun vs _ i kv h => optV (nthK vs i) kv h) (fun _ _ => fun _ _ _ => none) ⟨⟩ (fun _ _ _ _ => ⟨⟩) (f x) off kv h) (anyK (cop (.part true off n (.c (f x))) [] h) kv kr) agg
def opCall (g : CX) (l : List CX) (f : CX → CVal) (h : Heap) (kv : KV) (kr : KR) : O := CVal.rec (motive_1 := fun _ => CVal → List CX → (CX → CVal) → Heap → KV → KR → O) (motive_2 := fun _ => PUnit) (fun g l f h kv kr => anyK (cop (.call (.c g) (l.map fun x => .c (f x))) [] h) kv kr) (fun _ => fun g l f h kv kr => anyK (cop (.call (.c g) (l.map fun x => .c (f x))) [] h) kv kr) (fun _ _ => fun g l f h kv kr => anyK (cop (.call (.c g) (l.map fun x => .c (f x))) [] h) kv kr) (fun _ => fun g l f h kv kr => anyK (cop (.call (.c g) (l.map fun x => .c (f x))) [] h) kv kr) (fun g l f h kv kr => anyK (cop (.call (.c g) (l.map fun x => .c (f x))) [] h) kv kr) (fun _ _ => fun g l f h kv kr => anyK (cop (.call (.c g) (l.map fun x => .c (f x))) [] h) kv kr) (fun g l f h kv kr => anyK (cop (.call (.c g) (l.map fun x => .c (f x))) [] h) kv kr) (fun _ _ _ _ => fun g l f h kv kr => anyK (cop (.call (.c g) (l.map fun x => .c (f x))) [] h) kv kr) (fun g l f h kv kr => anyK (cop (.call (.c g) (l.map fun x => .c (f x))) [] h) kv kr) (fun _ => fun g l f h kv kr => anyK (cop (.call (.c g) (l.map fun x => .c (f x))) [] h) kv kr) (fun g l f h kv kr => anyK (cop (.call (.c g) (l.map fun x => .c (f x))) [] h) kv kr) (fun g first cap _ _ _ l f h _ kr => kr (.enter g (List.append first (List.append (mapX f l) cap))) h) (fun _ => fun g l f h kv kr => anyK (cop (.call (.c g) (l.map fun x => .c (f x))) [] h) kv kr) (fun g l f h kv kr => anyK (cop (.call (.c g) (l.map fun x => .c (f x))) [] h) kv kr) (fun _ _ _ => fun g l f h kv kr => anyK (cop (.call (.c g) (l.map fun x => .c (f x))) [] h) kv kr) (fun _ _ => fun g l f h kv kr => anyK (cop (.call (.c g) (l.map fun x => .c (f x))) [] h) kv kr) (fun _ _ => fun g l f h kv kr => anyK (cop (.call (.c g) (l.map fun x => .c (f x))) [] h) kv kr) ⟨⟩ (fun _ _ _ _ => ⟨⟩) (f g) (f g) l f h kv kr
def opAppend (sz bytes : Nat) (s x : CX) (f : CX → CVal) (h : Heap) (kv : KV) (_ : KR) : O := Option.rec (motive := fun _ => KV → O) (fun _ => none) (fun p => Prod.rec (motive := fun _ => KV → O) (fun v h kv => kv v h) p) (appendC h sz bytes (f s) (f x)) kv
def opKK (op : COp) : (CX → CVal) → Heap → KV → KR → O := COp.rec (motive := fun _ => (CX → CVal) → Heap → KV → KR → O)
 opMove
 opPick
 opNew
 (fun x0 f h kv kr => anyK (cop (.box (.c (f x0))) [] h) kv kr)
 (fun x0 x1 f h kv kr => anyK (cop (.build x0 (x1.map fun p => (p.1, p.2.1, .c (f p.2.2)))) [] h) kv kr)
 (fun x0 x1 x2 f h kv kr => anyK (cop (.buildSlice x0 x1 (x2.map fun p => (p.1, p.2.1, .c (f p.2.2)))) [] h) kv kr)
 opLoad
 opStore
 opNil
 opBin
 (fun x0 x1 x2 x3 f h kv kr => anyK (cop (.eq x0 x1 (.c (f x2)) (.c (f x3))) [] h) kv kr)
 (fun x0 x1 x2 x3 f h kv kr => anyK (cop (.eqS x0 x1 (.c (f x2)) (.c (f x3))) [] h) kv kr)
 opUn
 opConv
 (fun x0 f h kv kr => anyK (cop (.bytesOf (.c (f x0))) [] h) kv kr)
 (fun x0 f h kv kr => anyK (cop (.markB (.c (f x0))) [] h) kv kr)
 (fun x0 f h kv kr => anyK (cop (.strOf (.c (f x0))) [] h) kv kr)
 (fun x0 x1 f h kv kr => anyK (cop (.iface x0 (.c (f x1))) [] h) kv kr)
 (fun x0 x1 x2 f h kv kr => anyK (cop (.func x0 (x1.map fun x => .c (f x)) (x2.map fun x => .c (f x))) [] h) kv kr)
 (fun _ h kv kr => anyK (cop (.newMap) [] h) kv kr)
 (fun x0 x1 x2 x3 f h kv kr => anyK (cop (.makeSlice x0 x1 (.c (f x2)) (.c (f x3))) [] h) kv kr)
 (fun x0 x1 x2 f h kv kr => anyK (cop (.sliceStr (.c (f x0)) (x1.map fun x => .c (f x)) (x2.map fun x => .c (f x))) [] h) kv kr)
 (fun x0 x1 x2 x3 x4 f h kv kr => anyK (cop (.slice x0 (.c (f x1)) (x2.map fun x => .c (f x)) (x3.map fun x => .c (f x)) (x4.map fun x => .c (f x))) [] h) kv kr)
 (fun x0 x1 x2 x3 x4 x5 f h kv kr => anyK (cop (.sliceArr x0 x1 (.c (f x2)) (x3.map fun x => .c (f x)) (x4.map fun x => .c (f x)) (x5.map fun x => .c (f x))) [] h) kv kr)
 opField
 opPart
 opIndex
 (fun x0 x1 x2 x3 f h kv kr => anyK (cop (.indexAddrArr x0 x1 (.c (f x2)) (.c (f x3))) [] h) kv kr)
 (fun x0 x1 x2 x3 x4 f h kv kr => anyK (cop (.indexArr x0 x1 x2 (.c (f x3)) (.c (f x4))) [] h) kv kr)
 (fun x0 x1 f h kv kr => anyK (cop (.indexStr (.c (f x0)) (.c (f x1))) [] h) kv kr)
 (fun x0 x1 x2 x3 x4 f h kv kr => anyK (cop (.lookup x0 x1 x2 (.c (f x3)) (.c (f x4))) [] h) kv kr)
 (fun x0 x1 x2 x3 f h kv kr => anyK (cop (.mapUpdate x0 (.c (f x1)) (.c (f x2)) (.c (f x3))) [] h) kv kr)
 opExtract
 opLen
 opAppend
 (fun x0 x1 x2 f h kv kr => anyK (cop (.copy x0 (.c (f x1)) (.c (f x2))) [] h) kv kr)
 (fun x0 x1 x2 f h kv kr => anyK (cop (.delete x0 (.c (f x1)) (.c (f x2))) [] h) kv kr)
 (fun x0 x1 x2 x3 f h kv kr => anyK (cop (.mapEntry x0 x1 (.c (f x2)) (.c (f x3))) [] h) kv kr)
 (fun x0 x1 x2 f h kv kr => anyK (cop (.entryStore (.c (f x0)) (.c (f x1)) (.c (f x2))) [] h) kv kr)
 (fun x0 x1 f h kv kr => anyK (cop (.clear x0 (.c (f x1))) [] h) kv kr)
 (fun x0 x1 x2 f h kv kr => anyK (cop (.maxmin x0 (.c (f x1)) (x2.map fun x => .c (f x))) [] h) kv kr)
 opCall
 (fun x0 x1 f h kv kr => anyK (cop (.defer (.c (f x0)) (x1.map fun x => .c (f x))) [] h) kv kr)
 (fun x0 x1 f h kv kr => anyK (cop (.ext x0 (x1.map fun x => .c (f x))) [] h) kv kr)
 (fun x0 f h kv kr => anyK (cop (.rangeStr (.c (f x0))) [] h) kv kr)
 (fun x0 f h kv kr => anyK (cop (.nextStr (.c (f x0))) [] h) kv kr)
 (fun x0 x1 x2 x3 x4 f h kv kr => anyK (cop (.appendN x0 x1 x2 (.c (f x3)) (.c (f x4))) [] h) kv kr)
 (fun x0 x1 x2 f h kv kr => anyK (cop (.invoke x0 (.c (f x1)) (x2.map fun x => .c (f x))) [] h) kv kr)
 (fun x0 x1 x2 x3 f h kv kr => anyK (cop (.assert x0 x1 x2 (.c (f x3))) [] h) kv kr)
 (fun _ h kv kr => anyK (cop (.dead) [] h) kv kr) op
abbrev KN := PT → DS' → Heap → O
abbrev KE := CExit → PT → DS' → Heap → O
def wantK (v : CVal) (b : Bool) (y n : O) : O := CVal.rec (motive_1 := fun _ => Bool → O → O → O) (motive_2 := fun _ => PUnit) (fun _ _ _ => none) (fun c b y n => Bool.rec (motive := fun _ => O) (Bool.rec (motive := fun _ => O) y n b) (Bool.rec (motive := fun _ => O) n y b) c) (fun _ _ => fun _ _ _ => none) (fun _ => fun _ _ _ => none) (fun _ _ _ => none) (fun _ _ => fun _ _ _ => none) (fun _ _ _ => none) (fun _ _ _ _ => fun _ _ _ => none) (fun _ _ _ => none) (fun _ => fun _ _ _ => none) (fun _ _ _ => none) (fun _ _ _ _ _ => fun _ _ _ => none) (fun _ => fun _ _ _ => none) (fun _ _ _ => none) (fun _ _ _ => fun _ _ _ => none) (fun _ _ => fun _ _ _ => none) (fun l _ _ _ n => List.rec (motive := fun _ => O) n (fun _ _ _ => none) l) ⟨⟩ (fun _ _ _ _ => ⟨⟩) v b y n
def resK (call : CallFn) (d : Option Nat) (t : PT) (ds : DS') (k : KN) (r : CRes) (h : Heap) : O := CRes.rec (motive := fun _ => CallFn → Option Nat → PT → DS' → KN → Heap → O)
 (fun _ _ _ _ _ _ _ => none)
 (fun f l call d t ds k h => Option.rec (motive := fun _ => Option Nat → PT → DS' → KN → O) (fun _ _ _ _ => none) (fun p => Prod.rec (motive := fun _ => Option Nat → PT → DS' → KN → O) (fun v h d t ds k => k (t.set v d) ds h) p) (call (Nat.mul 2 f) l h) d t ds k)
 (fun f l _ d t ds k h => Option.rec (motive := fun _ => O) (k (t.set .un d) ((f, l) :: ds) h) (fun _ => none) (isMark (f, l)))
 (fun i l call d t ds k h => Option.rec (motive := fun _ => Option Nat → PT → DS' → KN → O) (fun _ _ _ _ => none) (fun p => Prod.rec (motive := fun _ => Option Nat → PT → DS' → KN → O) (fun v h d t ds k => k (t.set v d) ds h) p) (call (Nat.succ (Nat.mul 2 i)) l h) d t ds k) r call d t ds k h
def runK (op : COp) (call : CallFn) (d : Option Nat) (t : PT) (ds : DS') (h : Heap) (k : KN) : O := opKK op (evX t) h (fun v h => k (t.set v d) ds h) (resK call d t ds k)
def operK (o : COper) : CallFn → PT → DS' → Heap → KN → O := COper.rec (motive := fun _ => CallFn → PT → DS' → Heap → KN → O) (fun d op g => Option.rec (motive := fun _ => Option Nat → COp → CallFn → PT → DS' → Heap → KN → O) (fun d op call t ds h k => runK op call d t ds h k)
 (fun p => Prod.rec (motive := fun _ => Option Nat → COp → CallFn → PT → DS' → Heap → KN → O) (fun s b d op call t ds h k => wantK (t.get s) b (runK op call d t ds h k) (k (t.set .un d) ds h)) p) g d op) o
def opsK (call : CallFn) (l : List COper) : PT → DS' → Heap → KN → O := List.rec (motive := fun _ => CallFn → PT → DS' → Heap → KN → O) (fun _ t ds h k => k t ds h) (fun o _ ih call t ds h k => operK o call t ds h (fun t ds h => ih call t ds h k)) l call
def beq2 (v : CVal) (k : IntKind) (a : Int) (u : CVal) : Bool := CVal.rec (motive_1 := fun _ => IntKind → Int → CVal → CVal → Bool) (motive_2 := fun _ => PUnit) (fun _ _ _ _ => false) (fun _ => fun _ _ _ _ => false) (fun k' b k a _ _ => Bool.and (Nat.beq (kNat k) (kNat k')) (eqKK a b)) (fun _ => fun _ _ _ _ => false) (fun _ _ _ _ => false) (fun _ _ => fun _ _ _ _ => false) (fun _ _ _ _ => false) (fun _ _ _ _ => fun _ _ _ _ => false) (fun _ _ _ _ => false) (fun _ => fun _ _ _ _ => false) (fun _ _ _ _ => false) (fun _ _ _ _ _ => fun _ _ _ _ => false) (fun _ => fun _ _ _ _ => false) (fun _ _ _ _ => false) (fun _ _ _ => fun _ _ _ _ => false) (fun _ _ => fun _ _ _ _ => false) (fun _ _ => fun _ _ _ _ => false) ⟨⟩ (fun _ _ _ _ => ⟨⟩) v k a u v
def beqK (u v : CVal) : Bool := CVal.rec (motive_1 := fun _ => CVal → CVal → Bool) (motive_2 := fun _ => PUnit) (fun u v => CVal.beq u v) (fun b _ v => CVal.rec (motive_1 := fun _ => Bool → Bool) (motive_2 := fun _ => PUnit) (fun _ => false) (fun c b => Bool.rec (motive := fun _ => Bool) (Bool.not b) b c) (fun _ _ => fun _ => false) (fun _ => fun _ => false) (fun _ => false) (fun _ _ => fun _ => false) (fun _ => false) (fun _ _ _ _ => fun _ => false) (fun _ => false) (fun _ => fun _ => false) (fun _ => false) (fun _ _ _ _ _ => fun _ => false) (fun _ => fun _ => false) (fun _ => false) (fun _ _ _ => fun _ => false) (fun _ _ => fun _ => false) (fun _ _ => fun _ => false) ⟨⟩ (fun _ _ _ _ => ⟨⟩) v b) (fun k a u v => beq2 v k a u) (fun _ => fun u v => CVal.beq u v) (fun u v => CVal.beq u v) (fun _ _ => fun u v => CVal.beq u v) (fun u v => CVal.beq u v) (fun _ _ _ _ => fun u v => CVal.beq u v) (fun u v => CVal.beq u v) (fun _ => fun u v => CVal.beq u v) (fun u v => CVal.beq u v) (fun _ _ _ _ _ => fun u v => CVal.beq u v) (fun _ => fun u v => CVal.beq u v) (fun u v => CVal.beq u v) (fun _ _ _ => fun u v => CVal.beq u v) (fun _ _ => fun u v => CVal.beq u v) (fun _ _ => fun u v => CVal.beq u v) ⟨⟩ (fun _ _ _ _ => ⟨⟩) u u v
def someK (v : CVal) (h : Heap) : O := some (v, h)
def noneK (_ : CRes) (_ : Heap) : O := none
def quietKK (o : COper) (t : PT) (h : Heap) : O := COper.rec (motive := fun _ => PT → Heap → O) (fun _ op g => Option.rec (motive := fun _ => COp → PT → Heap → O) (fun op t h => opKK op (evX t) h someK noneK)
 (fun p => Prod.rec (motive := fun _ => COp → PT → Heap → O) (fun s b op t h => wantK (t.get s) b (opKK op (evX t) h someK noneK) (some (.un, h))) p) g op) o t h
def dstK (o : COper) : Option Nat := COper.rec (motive := fun _ => Option Nat) (fun d _ _ => d) o
def allocKK (d : Option Nat) (op : COp) (g : Option (Nat × Bool)) (id : Nat) (t : PT) (ds : DS') (h : Heap) (k : KN) : O := Option.rec (motive := fun _ => O)
 (Bool.rec (motive := fun _ => O) none (opKK op (evX t) ⟨id, h.t⟩ (fun v h' => k (t.set v d) ds ⟨h.next, h'.t⟩) noneK) (isA op)) (fun _ => none) g
def drawS (call : CallFn) (base : Nat) (it : DIt) (t : PT) (ds : DS') (h : Heap) (k : KN) : O := DIt.rec (motive := fun _ => CallFn → Nat → PT → DS' → Heap → KN → O) (fun _ c kd => DK.rec (motive := fun _ => COper → CallFn → Nat → PT → DS' → Heap → KN → O)
 (fun _ c _ _ t ds h k => Option.rec (motive := fun _ => O) none (fun p => Prod.rec (motive := fun _ => O) (fun v _ => k (t.set v (dstK c)) ds h) p) (quietKK c t h))
 (fun aid c _ base t ds h k => COper.rec (motive := fun _ => Nat → PT → DS' → Heap → KN → O) (fun d op g id t ds h k => allocKK d op g id t ds h k) c (Nat.add base aid) t ds h k)
 (fun c call _ t ds h k => operK c call t ds h k) kd c) it call base t ds h k
abbrev KD := PT → DS' → Heap → List (PT × Heap) → O
def drawK (call : CallFn) (base : Nat) (l : List DIt) : PT → DS' → Heap → KD → O := List.rec (motive := fun _ => CallFn → Nat → PT → DS' → Heap → KD → O) (fun _ _ t ds h k => k t ds h [(t, h)])
 (fun it _ ih call base t ds h k => drawS call base it t ds h (fun t₁ ds₁ h₁ => ih call base t₁ ds₁ h₁ (fun t' ds' h' hs => k t' ds' h' ((t, h) :: hs)))) l call base
def nthH (l : List (PT × Heap)) : Nat → Option (PT × Heap) := List.rec (motive := fun _ => Nat → Option (PT × Heap)) (fun _ => none) (fun x _ ih i => Bool.rec (motive := fun _ => Option (PT × Heap)) (ih (Nat.pred i)) (some x) (Nat.beq i 0)) l
def checkV (d : Option Nat) (out : PT) (v : CVal) : Bool := Option.rec (motive := fun _ => Bool) true (fun k => beqK v (out.get k)) d
def checkQK (c : COper) (t out : PT) (hs : List (PT × Heap)) (k : Nat) : Bool := Option.rec (motive := fun _ => Bool) false (fun g => Prod.rec (motive := fun _ => Bool) (fun _ h => Option.rec (motive := fun _ => Bool) false (fun p => Prod.rec (motive := fun _ => Bool) (fun v _ => checkV (dstK c) out v) p) (quietKK c t h)) g) (nthH hs k)
def checkQs (c : COper) (t out : PT) (hs : List (PT × Heap)) (ks : List Nat) : Bool := List.rec (motive := fun _ => Bool) true (fun k _ ih => Bool.rec (motive := fun _ => Bool) false ih (checkQK c t out hs k)) ks
def checkI (it : DIt) (t out : PT) (hs : List (PT × Heap)) : Bool := DIt.rec (motive := fun _ => PT → PT → List (PT × Heap) → Bool) (fun _ c kd t out hs => DK.rec (motive := fun _ => Bool) (fun ks => checkQs c t out hs ks) (fun _ => true) true kd) it t out hs
def checkDK (out : PT) (hs : List (PT × Heap)) (its : List DIt) : List (PT × Heap) → Bool := List.rec (motive := fun _ => List (PT × Heap) → Bool) (fun _ => true)
 (fun it _ ih ss => List.rec (motive := fun _ => Bool) false (fun s ss _ => Bool.rec (motive := fun _ => Bool) false (ih ss) (checkI it s.1 out hs)) ss) its
def boolK (v : CVal) (y n : O) : O := CVal.rec (motive_1 := fun _ => O → O → O) (motive_2 := fun _ => PUnit) (fun _ _ => none) (fun b y n => Bool.rec (motive := fun _ => O) n y b) (fun _ _ => fun _ _ => none) (fun _ => fun _ _ => none) (fun _ _ => none) (fun _ _ => fun _ _ => none) (fun _ _ => none) (fun _ _ _ _ => fun _ _ => none) (fun _ _ => none) (fun _ => fun _ _ => none) (fun _ _ => none) (fun _ _ _ _ _ => fun _ _ => none) (fun _ => fun _ _ => none) (fun _ _ => none) (fun _ _ _ => fun _ _ => none) (fun _ _ => fun _ _ => none) (fun _ _ => fun _ _ => none) ⟨⟩ (fun _ _ _ _ => ⟨⟩) v y n
abbrev IH := CCode → PT → DS' → Heap → KN → KE → O
def exitK (id : Nat) (kn : KN) (ke : KE) (e : CExit) (t : PT) (ds : DS') (h : Heap) : O := CExit.rec (motive := fun _ => Nat → KN → KE → PT → DS' → Heap → O) (fun _ _ _ _ _ _ => none)
 (fun id' id kn ke t ds h => Bool.rec (motive := fun _ => O) (ke (.exit id') t ds h) (kn t ds h) (Nat.beq id' id)) (fun _ _ ke t ds h => ke .ret t ds h) (fun l _ _ ke t ds h => ke (.goto l) t ds h) e id kn ke t ds h
def restK (rs : List (Nat × CCode)) (ih : IH) (kn : KN) (ke : KE) (e : CExit) (t : PT) (ds : DS') (h : Heap) : O := CExit.rec (motive := fun _ => List (Nat × CCode) → IH → KN → KE → PT → DS' → Heap → O) (fun _ _ _ _ _ _ _ => none)
 (fun id _ _ _ ke t ds h => ke (.exit id) t ds h) (fun _ _ _ ke t ds h => ke .ret t ds h) (fun l rs ih kn ke t ds h => Option.rec (motive := fun _ => O) none (fun r => ih (.scope r rs) t ds h kn ke) (findRest l rs)) e rs ih kn ke t ds h
def PT.listO (t : PT) : Nat → Nat → Option (List CVal) := Nat.rec (motive := fun _ => Nat → Option (List CVal)) (fun _ => none) (fun _ ih s => Option.rec (motive := fun _ => Option (List CVal)) (some []) (fun v => Option.rec (motive := fun _ => Option (List CVal)) none (fun l => some (v :: l)) (ih (Nat.succ s))) (t.atK s))
def rangeK (call : CallFn) (fn k np : Nat) (v : CVal) (t : PT) (ds : DS') (h : Heap) (kn : KN) (ke : KE) : O := match v with
 | .func g first cap => match PT.listO t 4096 0 with
   | some l => match call (fId g) (first ++ [.yield (Nat.succ h.next)] ++ cap) ((h.newK .dfr).newK (.loop .ready none fn k np l h.next)) with
     | some (_, h₁) => match h₁.getK (Nat.succ h.next) with
       | some (.loop st pend fn' k' np' tmps' d') => match st with
         | .busy => none
         | _ => (match pend with
           | none => kn
           | some j => ke j.cx) t (markD h.next :: ds) (h₁.setK (Nat.succ h.next) (.loop .exhausted pend fn' k' np' tmps' d'))
       | _ => none
     | none => none
   | none => none
 | _ => none
def codeK (call : CallFn) : Nat → IH := Nat.rec (motive := fun _ => IH) (fun _ _ _ _ _ _ => none) (fun _ ih c => CCode.rec (motive_1 := fun _ => CallFn → IH → PT → DS' → Heap → KN → KE → O) (motive_2 := fun _ => PUnit) (motive_3 := fun _ => PUnit)
 (fun _ _ t ds h kn _ => kn t ds h)
 (fun ops call _ t ds h kn _ => opsK call ops t ds h kn)
 (fun its n call _ t ds h kn _ => drawK call h.next its t ds ⟨Nat.add h.next n, h.t⟩ (fun t ds h hs => Bool.rec (motive := fun _ => O) none (kn t ds h) (checkDK t hs its hs)))
 (fun a b _ _ _ ih t ds h kn ke => ih a t ds h (fun t ds h => ih b t ds h kn ke) ke)
 (fun c a b _ _ _ ih t ds h kn ke => boolK (evX t c) (ih a t ds h kn ke) (ih b t ds h kn ke))
 (fun id b _ _ ih t ds h kn ke => ih b t ds h kn (exitK id kn ke))
 (fun b _ _ ih t ds h kn ke => ih b t ds h (fun t ds h => ih (.loop b) t ds h kn ke) ke)
 (fun id _ _ t ds h _ ke => ke (.exit id) t ds h)
 (fun _ _ t ds h _ ke => ke .ret t ds h)
 (fun l _ _ t ds h kn _ => kn (PT.wipe l t) ds h)
 (fun l _ _ t ds h _ ke => ke (.goto l) t ds h)
 (fun b rs _ _ _ ih t ds h kn ke => ih b t ds h kn (restK rs ih kn ke))
 (fun fn k np f call _ t ds h kn ke => rangeK call fn k np (evX t f) t ds h kn ke)
 ⟨⟩ (fun _ _ _ _ => ⟨⟩) (fun _ _ _ => ⟨⟩) c call ih)
def resultK (t : PT) (h : Heap) (l : List CRV) : Option (List CVal) := List.rec (motive := fun _ => Option (List CVal)) (some []) (fun r _ ih => Option.rec (motive := fun _ => Option (List CVal)) none (fun vs => Option.rec (motive := fun _ => Option (List CVal)) none (fun v => some (v :: vs))
 (CRV.rec (motive := fun _ => Option CVal) (fun s => some (t.get s)) (fun s agg n => match cop (.load agg n (.c (t.get s))) [] h with
  | some (.val v, _) => some v
  | _ => none) r)) ih) l
def finK (calld : CallFn) (rs : List CRV) (t : PT) (ds : DS') (h : Heap) : O := Option.rec (motive := fun _ => O) none (fun h => Option.rec (motive := fun _ => O) none (fun vs => some (packC vs, h)) (resultK t h rs)) (runDefers calld ds h)
def frameK (n : Nat) (args : List CVal) : PT := PT.puts args (PT.mk n n) 0
def bodyK (call calld : CallFn) (n : Nat) (fn : CFunc) (args : List CVal) (h : Heap) : O := CFunc.rec (motive := fun _ => O) (fun nt rs c => Bool.rec (motive := fun _ => O) none
 (codeK call n c (frameK nt args) [] h (finK calld rs) (fun e t ds h => CExit.rec (motive := fun _ => O) none (fun _ => none) (finK calld rs t ds h) (fun _ => none) e)) (Nat.ble (lenLK args) nt)) fn
def finDK (rs : List CRV) (t : PT) (ds : DS') (h : Heap) : O := List.rec (motive := fun _ => O) (Option.rec (motive := fun _ => O) none (fun vs => some (packC vs, h)) (resultK t h rs)) (fun _ _ _ => none) ds
def bodyDK (call : CallFn) (n : Nat) (fn : CFunc) (args : List CVal) (h : Heap) : O := CFunc.rec (motive := fun _ => O) (fun nt rs c => Bool.rec (motive := fun _ => O) none
 (codeK call n c (frameK nt args) [] h (finDK rs) (fun e t ds h => CExit.rec (motive := fun _ => O) none (fun _ => none) (finDK rs t ds h) (fun _ => none) e)) (Nat.ble (lenLK args) nt)) fn
def PT.sets (t : PT) : List Nat → List CVal → PT
 | k :: ks, v :: vs => PT.sets (t.put k v) ks vs
 | _, _ => t
def roundE (i : Nat) (x : CExit) (ds : DS') (h : Heap) : O := match ds with
 | [] => match h.getK i with
   | some (.loop _ _ fn k np tmps d) => match x with
     | .normal => some (.bool true, h.setK i (.loop .ready none fn k np tmps d))
     | .exit id => some (.bool false, h.setK i (.loop .done (some (.exit id)) fn k np tmps d))
     | .ret => some (.bool false, h.setK i (.loop .done (some .ret) fn k np tmps d))
     | .goto l => some (.bool false, h.setK i (.loop .done (some (.goto l)) fn k np tmps d))
   | _ => none
 | _ => none
def roundK (call : CallFn) (n : Nat) (rc : Nat → Nat → Option RoundC) (i : Nat) (args : List CVal) (h : Heap) : O := match h.getK i with
 | some (.loop _ _ fn k np tmps _) => if args.length = np then (match rc fn k with
   | some r => codeK call n r.asg (PT.sets (frameK tmps.length tmps) r.params args) [] h
     (fun t ds h₁ => match h₁.getK i with
      | some (.loop .ready pend fn' k' np' tmps' d') => codeK call n r.body t ds (h₁.setK i (.loop .busy pend fn' k' np' tmps' d')) (fun _ ds h => roundE i .normal ds h) (fun x _ ds h => roundE i x ds h)
      | _ => none) (fun _ _ _ _ => none)
   | none => none) else none
 | _ => none
def callK (T : Tab) : Nat → CallFn := Nat.rec (motive := fun _ => CallFn) (fun _ _ _ => none) (fun n ih c args h => Bool.rec (motive := fun _ => O) (roundK ih n T.rounds (Nat.div c 2) args h)
 (Option.rec (motive := fun _ => O) (Option.rec (motive := fun _ => O) none (fun fn => bodyK ih (fun g as h => match T.dcod g with | some gn => bodyDK ih n gn as h | none => none) n fn args h) (T.code (Nat.div c 2))) (fun p => p args h) (T.prim (Nat.div c 2))) (Nat.beq (Nat.mod c 2) 0))
end
end Go.Proofs.YtkjdgdkkepmciaaGreat.Cm
namespace Go.Proofs.YtkjdgdkkepmciaaGreat.Cm
open Go.RowKit
theorem beqF {n m : Nat} (h : n ≠ m) : Nat.beq n m = false := by
 cases e : Nat.beq n m
 ·rfl
 ·exact absurd (Nat.eq_of_beq_eq_true e) h
def PT.at : PT → Nat → Option CVal
 | .leaf, _ => none
 | .node v l r, k => if k = 0 then some v else if k % 2 = 1 then l.at ((k - 1) / 2) else r.at ((k - 1) / 2)
theorem PT.get_node (v : CVal) (l r : PT) (k : Nat) : (PT.node v l r).get k = if k = 0 then v else if k % 2 = 1 then l.get ((k - 1) / 2) else r.get ((k - 1) / 2) := by
 show Bool.rec (motive := fun _ => CVal) (Bool.rec (motive := fun _ => CVal) (r.get _) (l.get _) (Nat.beq (k % 2) 1)) v (Nat.beq k 0) = _
 by_cases h0 : k = 0
 ·subst h0; rfl
 ·rw [if_neg h0, show Nat.beq k 0 = false from beqF h0]
  by_cases h1 : k % 2 = 1
  ·rw [if_pos h1, h1]; rfl
  ·rw [if_neg h1, show Nat.beq (k % 2) 1 = false from beqF h1]; rfl
theorem PT.atK_eq : ∀ (t : PT) (k : Nat), t.atK k = t.at k
 | .leaf, _ => rfl
 | .node v l r, k => by
   show Bool.rec (motive := fun _ => Option CVal) (Bool.rec (motive := fun _ => Option CVal) (r.atK _) (l.atK _) (Nat.beq (k % 2) 1)) (some v) (Nat.beq k 0) = _
   rw [PT.at]
   by_cases h0 : k = 0
   ·subst h0; rfl
   ·rw [if_neg h0, show Nat.beq k 0 = false from beqF h0]
    by_cases h1 : k % 2 = 1
    ·rw [if_pos h1, h1]; exact PT.atK_eq l _
    ·rw [if_neg h1, show Nat.beq (k % 2) 1 = false from beqF h1]; exact PT.atK_eq r _
theorem PT.get_eq : ∀ (t : PT) (k : Nat), t.get k = (t.at k).getD .undef
 | .leaf, _ => rfl
 | .node v l r, k => by
   rw [PT.get_node, PT.at]
   split
   ·rfl
   ·split <;> exact PT.get_eq _ _
theorem PT.put_node (v : CVal) (l r : PT) (k : Nat) (u : CVal) : (PT.node v l r).put k u = if k = 0 then .node u l r else if k % 2 = 1 then .node v (l.put ((k - 1) / 2) u) r else .node v l (r.put ((k - 1) / 2) u) := by
 show Bool.rec (motive := fun _ => PT) (Bool.rec (motive := fun _ => PT) (PT.node v l (r.put _ u)) (PT.node v (l.put _ u) r) (Nat.beq (k % 2) 1)) (PT.node u l r) (Nat.beq k 0) = _
 by_cases h0 : k = 0
 ·subst h0; rfl
 ·rw [if_neg h0, show Nat.beq k 0 = false from beqF h0]
  by_cases h1 : k % 2 = 1
  ·rw [if_pos h1, h1]; rfl
  ·rw [if_neg h1, show Nat.beq (k % 2) 1 = false from beqF h1]; rfl
theorem PT.at_put : ∀ (t : PT) (k : Nat) (u : CVal) (j : Nat), (t.put k u).at j = if j = k then (t.at j).map (fun _ => u) else t.at j
 | .leaf, k, u, j => by show none = _; split <;> rfl
 | .node v l r, k, u, j => by
   rw [PT.put_node]
   by_cases h0 : k = 0
   ·subst h0
    rw [if_pos rfl]
    by_cases j0 : j = 0
    ·subst j0; rfl
    ·rw [if_neg j0]; simp only [PT.at, if_neg j0]
   ·rw [if_neg h0]
    by_cases h1 : k % 2 = 1
    ·rw [if_pos h1]
     by_cases j0 : j = 0
     ·subst j0; rw [if_neg (Ne.symm h0)]; simp only [PT.at, if_pos]
     ·simp only [PT.at, if_neg j0]
      by_cases j1 : j % 2 = 1
      ·rw [if_pos j1, if_pos j1, PT.at_put l]
       by_cases e : j = k
       ·subst e; rw [if_pos rfl, if_pos rfl]
       ·rw [if_neg (by omega), if_neg e]
      ·rw [if_neg j1, if_neg j1, if_neg (by rintro rfl; exact j1 h1)]
    ·rw [if_neg h1]
     by_cases j0 : j = 0
     ·subst j0; rw [if_neg (Ne.symm h0)]; simp only [PT.at, if_pos]
     ·simp only [PT.at, if_neg j0]
      by_cases j1 : j % 2 = 1
      ·rw [if_pos j1, if_pos j1, if_neg (by rintro rfl; exact h1 j1)]
      ·rw [if_neg j1, if_neg j1, PT.at_put r]
       by_cases e : j = k
       ·subst e; rw [if_pos rfl, if_pos rfl]
       ·rw [if_neg (by omega), if_neg e]
theorem PT.mk_succ (f n : Nat) : PT.mk (f + 1) n = if n = 0 then .leaf else .node .un (PT.mk f (n / 2)) (PT.mk f ((n - 1) / 2)) := by
 show Bool.rec (motive := fun _ => PT) (PT.node .un (PT.mk f (n / 2)) (PT.mk f (Nat.pred n / 2))) PT.leaf (Nat.beq n 0) = _
 by_cases h0 : n = 0
 ·subst h0; rfl
 ·rw [if_neg h0, show Nat.beq n 0 = false from beqF h0]; rfl
theorem PT.at_mk : ∀ (f n : Nat), n ≤ f → ∀ k, (PT.mk f n).at k = if k < n then some .un else none
 | 0, n, h, k => by rw [if_neg (by omega)]; rfl
 | f + 1, n, h, k => by
   rw [PT.mk_succ]
   by_cases h0 : n = 0
   ·rw [if_pos h0, if_neg (by omega)]; rfl
   ·rw [if_neg h0, PT.at]
    by_cases k0 : k = 0
    ·rw [if_pos k0, if_pos (by omega)]
    ·rw [if_neg k0]
     split
     ·rw [PT.at_mk f _ (by omega)]
      by_cases q : k < n
      ·rw [if_pos q, if_pos (by omega)]
      ·rw [if_neg q, if_neg (by omega)]
     ·rw [PT.at_mk f _ (by omega)]
      by_cases q : k < n
      ·rw [if_pos q, if_pos (by omega)]
      ·rw [if_neg q, if_neg (by omega)]
def Rp (t : PT) (a : List CVal) : Prop := ∀ k, t.at k = a[k]?
section
variable {t : PT} {a : List CVal}
theorem Rp.get (R : Rp t a) (k : Nat) : t.get k = a.getD k .undef := by rw [PT.get_eq, R k, List.getD_eq_getElem?_getD]
theorem Rp.put (R : Rp t a) (k : Nat) (v : CVal) : Rp (t.put k v) (a.set k v) := by
 intro j
 rw [PT.at_put, R j, List.getElem?_set]
 by_cases e : j = k
 ·subst e
  rw [if_pos rfl, if_pos rfl]
  by_cases q : j < a.length
  ·rw [if_pos q, List.getElem?_eq_getElem q]; rfl
  ·rw [if_neg q, List.getElem?_eq_none (by omega)]; rfl
 ·rw [if_neg e, if_neg (Ne.symm e)]
theorem Rp.ev (R : Rp t a) : evX t = CX.ev a := by
 funext x
 cases x with
 | t n => exact R.get n
 | c v => rfl
theorem Rp.set (R : Rp t a) (v : CVal) (d : Option Nat) (ds : List (FuncId × List CVal)) : ∃ a', Fr.put ⟨a, ds⟩ d v = ⟨a', ds⟩ ∧ Rp (t.set v d) a' := by
 cases d with
 | none => exact ⟨a, rfl, R⟩
 | some k => exact ⟨a.set k v, rfl, R.put k v⟩
end
theorem PT.wipe_ok : ∀ (l : List Nat) {t : PT} {a : List CVal} (ds : List (FuncId × List CVal)), Rp t a → ∃ a', Fr.wipe ⟨a, ds⟩ l = ⟨a', ds⟩ ∧ Rp (PT.wipe l t) a'
 | [], _, a, _, R => ⟨a, rfl, R⟩
 | k :: l, _, _, ds, R => PT.wipe_ok l ds (R.put k .undef)
theorem PT.at_puts : ∀ (l : List CVal) (t : PT) (k j : Nat), (PT.puts l t k).at j = if k ≤ j ∧ j < k + l.length then (t.at j).bind (fun _ => l[j - k]?) else t.at j
 | [], t, k, j => by rw [if_neg (by simp only [List.length_nil]; omega)]; rfl
 | v :: l, t, k, j => by
   show (PT.puts l (t.put k v) (k + 1)).at j = _
   rw [PT.at_puts l, PT.at_put]
   simp only [List.length_cons]
   by_cases e : j = k
   ·subst e
    rw [if_neg (by omega), if_pos rfl, if_pos (by omega)]
    simp only [Nat.sub_self, List.getElem?_cons_zero]
    cases t.at j <;> rfl
   ·rw [if_neg e]
    by_cases q : k + 1 ≤ j ∧ j < k + 1 + l.length
    ·rw [if_pos q, if_pos (by omega), show j - k = (j - (k + 1)) + 1 by omega, List.getElem?_cons_succ]
    ·rw [if_neg q, if_neg (by omega)]
theorem frameK_ok {n : Nat} {args : List CVal} (h : args.length ≤ n) : Rp (frameK n args) (args ++ List.replicate (n - args.length) .un) := by
 intro j
 rw [frameK, PT.at_puts, PT.at_mk n n (Nat.le_refl n)]
 by_cases q : j < args.length
 ·rw [if_pos (by omega), if_pos (by omega), List.getElem?_append_left q]; rfl
 ·rw [if_neg (by omega), List.getElem?_append_right (by omega), List.getElem?_replicate]
  by_cases p : j < n
  ·rw [if_pos p, if_pos (by omega)]
  ·rw [if_neg p, if_neg (by omega)]
theorem Rp.list {t : PT} {a : List CVal} (R : Rp t a) : ∀ (f s : Nat) {l : List CVal}, PT.listO t f s = some l → l = a.drop s
 | 0, _, _, e => by cases e
 | f + 1, s, l, e => by
   change Option.rec (motive := fun _ => Option (List CVal)) (some []) (fun v => Option.rec (motive := fun _ => Option (List CVal)) none (fun l => some (v :: l)) (PT.listO t f (s + 1))) (t.atK s) = some l at e
   rw [PT.atK_eq, R s] at e
   by_cases q : s < a.length
   ·rw [List.getElem?_eq_getElem q] at e
    change Option.rec (motive := fun _ => Option (List CVal)) none (fun l => some (a[s] :: l)) (PT.listO t f (s + 1)) = some l at e
    cases e1 : PT.listO t f (s + 1) with
    | none => rw [e1] at e; cases e
    | some l' => rw [e1] at e; cases e; rw [Rp.list R f (s + 1) e1, List.drop_eq_getElem_cons q]
   ·rw [List.getElem?_eq_none (by omega)] at e
    cases e
    rw [List.drop_eq_nil_of_le (by omega)]
theorem Rp.sets : ∀ (ks : List Nat) {t : PT} {a : List CVal} (vs : List CVal), Rp t a → Rp (t.sets ks vs) (setsC a ks vs)
 | [], _, _, vs, R => by cases vs <;> exact R
 | _ :: _, _, _, [], R => R
 | k :: ks, _, _, v :: vs, R => Rp.sets ks vs (R.put k v)
theorem bodd (k : Nat) : (Nat.beq (k % 2) 1 = true ∧ k % 2 = 1) ∨ (Nat.beq (k % 2) 1 = false ∧ k % 2 = 0) := by
 rcases Nat.mod_two_eq_zero_or_one k with h | h <;> rw [h]
 ·exact .inr ⟨rfl, rfl⟩
 ·exact .inl ⟨rfl, rfl⟩
theorem Tr.getK_eq : ∀ (t : Tr) (k : Nat), t.getK k = t.get k
 | .nil, k => by rw [Tr.get_nil]; rfl
 | .node v l r, 0 => rfl
 | .node v l r, k + 1 => by
   show Bool.rec (motive := fun _ => Option CObj) (r.getK (k / 2)) (l.getK (k / 2)) (Nat.beq ((k + 1) % 2) 1) = _
   rw [Tr.get_succ]
   rcases bodd (k + 1) with ⟨e, h⟩ | ⟨e, h⟩ <;> rw [e]
   ·rw [if_pos (by omega)]; exact Tr.getK_eq l _
   ·rw [if_neg (by omega)]; exact Tr.getK_eq r _
theorem Tr.setK_eq : ∀ (f : Nat) (t : Tr) (k : Nat) (o : Option CObj), Tr.setK f t k o = Tr.set f t k o
 | 0, _, _, _ => rfl
 | f + 1, .nil, 0, o => rfl
 | f + 1, .node v l r, 0, o => rfl
 | f + 1, .nil, k + 1, o => by
   show Bool.rec (motive := fun _ => Tr) (Tr.node none .nil (Tr.setK f .nil (k / 2) o)) (Tr.node none (Tr.setK f .nil (k / 2) o) .nil) (Nat.beq ((k + 1) % 2) 1) = _
   rw [Tr.setK_eq f]
   simp only [Tr.set]
   rcases bodd (k + 1) with ⟨e, h⟩ | ⟨e, h⟩ <;> rw [e]
   ·split
    ·rfl
    ·next q => exact absurd (show k % 2 = 0 by omega) q
   ·split
    ·next q => omega
    ·rfl
 | f + 1, .node v l r, k + 1, o => by
   show Bool.rec (motive := fun _ => Tr) (Tr.node v l (Tr.setK f r (k / 2) o)) (Tr.node v (Tr.setK f l (k / 2) o) r) (Nat.beq ((k + 1) % 2) 1) = _
   rw [Tr.setK_eq f, Tr.setK_eq f]
   simp only [Tr.set]
   rcases bodd (k + 1) with ⟨e, h⟩ | ⟨e, h⟩ <;> rw [e]
   ·split
    ·rfl
    ·next q => exact absurd (show k % 2 = 0 by omega) q
   ·split
    ·next q => omega
    ·rfl
theorem Heap.getK_eq (h : Heap) (i : Nat) : h.getK i = h.get i := Tr.getK_eq _ _
theorem Heap.setK_eq (h : Heap) (i : Nat) (o : CObj) : h.setK i o = h.set i o := by
 show Heap.mk _ _ = Heap.mk _ _; rw [Tr.setK_eq]
theorem Heap.newK_eq (h : Heap) (o : CObj) : h.newK o = h.new o := by
 show Heap.mk _ _ = Heap.mk _ _; rw [Tr.setK_eq]
theorem kNat_eq {k k' : IntKind} : Nat.beq (kNat k) (kNat k') = decide (k = k') := by cases k <;> cases k' <;> rfl
theorem addK_eq (a b : Int) : addK a b = a + b := by cases a <;> cases b <;> rfl
theorem eqKK_eq (a b : Int) : eqKK a b = (a == b) := by
 rw [Bool.eq_iff_iff]
 simp only [beq_iff_eq]
 cases a <;> cases b <;> simp [eqKK, Nat.beq_eq]
 exact Int.ofNat_inj.symm
theorem leK_eq (a b : Int) : leK a b = decide (a ≤ b) := by
 rw [Bool.eq_iff_iff]
 simp only [decide_eq_true_eq]
 cases a <;> cases b <;> simp [leK, Nat.ble_eq] <;> omega
theorem wrapS_eq (n : Int) : wrapS n = IntKind.wrap .i64 n := by
 have hw : ∀ m : Int, -9223372036854775808 ≤ m → m ≤ 9223372036854775807 → IntKind.wrap .i64 m = m := fun m h1 h2 => by
  simp only [IntKind.wrap, IntKind.bits, IntKind.signed, Bool.true_and, show (2 : Int) ^ 64 = 18446744073709551616 by decide, show (2 : Int) ^ (64 - 1) = 9223372036854775808 by decide]
  split
  ·next h => simp only [ge_iff_le, decide_eq_true_eq] at h; omega
  ·next h => simp only [ge_iff_le, decide_eq_true_eq] at h; omega
 cases n with
 | ofNat m =>
   show Bool.rec (motive := fun _ => Int) _ _ (Nat.ble m 9223372036854775807) = _
   cases e : Nat.ble m 9223372036854775807
   ·rfl
   ·have := Nat.le_of_ble_eq_true e
    exact (hw (m : Int) (by omega) (by omega)).symm
 | negSucc m =>
   show Bool.rec (motive := fun _ => Int) _ _ (Nat.ble m 9223372036854775807) = _
   cases e : Nat.ble m 9223372036854775807
   ·rfl
   ·have := Nat.le_of_ble_eq_true e
    exact (hw (Int.negSucc m) (by omega) (by omega)).symm
theorem wrapK_eq (k : IntKind) (n : Int) : wrapK k n = k.wrap n := by cases k <;> first | rfl | exact wrapS_eq n
theorem nthK_eq : ∀ (l : List CVal) (i : Nat), nthK l i = l[i]?
 | [], _ => by simp [nthK]
 | x :: l, 0 => rfl
 | x :: l, i + 1 => by show nthK l i = _; rw [nthK_eq l i]; simp
theorem setL_eq : ∀ (l : List CVal) (i : Nat) (v : CVal), setL l i v = l.set i v
 | [], _, _ => by simp [setL]
 | x :: l, 0, _ => rfl
 | x :: l, i + 1, v => by show x :: setL l i v = _; rw [setL_eq l i v]; rfl
theorem lenLK_eq : ∀ l : List CVal, lenLK l = l.length
 | [] => rfl
 | _ :: l => by show (lenLK l) + 1 = _; rw [lenLK_eq l]; rfl
theorem isNat_eq (v : CVal) : isNat v = asNat v := by
 cases v with
 | int k n =>
   cases n with
   | ofNat m => simp [isNat, natK, asNat]
   | negSucc m => simp [isNat, natK, asNat]
 | _ => rfl
theorem mapX_eq (f : CX → CVal) : ∀ l : List CX, mapX f l = l.map f
 | [] => rfl
 | x :: l => by show f x :: mapX f l = _; rw [mapX_eq f l]; rfl
theorem oneK_eq (v : CVal) : oneK v = v.one := by cases v <;> rfl
section
variable {a : List CVal} {h : Heap} {kv : KV} {kr : KR}
theorem load1_eq (v : CVal) : load1 v h kv = anyK (cop (.load false 1 (.c v)) [] h) kv kr := by
 cases v with
 | ptr i o =>
   show cellK (h.getK i) o h kv = _
   rw [Heap.getK_eq]
   simp only [cop, CX.ev]
   cases h.get i with
   | none => rfl
   | some x =>
     cases x with
     | cells vs wr opn =>
       show optV (nthK vs o) kv h = _
       rw [nthK_eq]
       simp only [Bool.false_eq_true, if_false]
       cases vs[o]? <;> rfl
     | _ => rfl
 | _ => rfl
theorem one_cellsK {v : CVal} (e : v.one = true) : v.cellsOf = some [v] := by cases v <;> first | rfl | simp [CVal.one] at e
theorem storeP_eq (p v : CVal) (e : v.one = true) : storeP p v h kv = anyK (cop (.store 1 (.c p) (.c v)) [] h) kv kr := by
 cases p with
 | ptr i o =>
   show store1 (h.getK i) i o v h kv = _
   rw [Heap.getK_eq]
   simp only [cop, CX.ev, one_cellsK e]
   cases h.get i with
   | none => rfl
   | some x =>
     cases x with
     | cells vs wr opn =>
       cases wr with
       | false => rfl
       | true =>
         show Bool.rec (motive := fun _ => O) none (kv .un (h.setK i (.cells (setL vs o v) true opn))) (Nat.blt o (lenLK vs)) = _
         rw [lenLK_eq, setL_eq, Heap.setK_eq]
         by_cases q : o < vs.length
         ·rw [show Nat.blt o vs.length = true by simp [Nat.blt_eq, q]]
          simp only [List.length_singleton, if_pos (show True ∧ o + 1 ≤ vs.length from ⟨trivial, q⟩)]; rfl
         ·rw [show Nat.blt o vs.length = false from Bool.eq_false_iff.2 (fun e => q (Nat.blt_eq ▸ e))]
          simp only [List.length_singleton, if_neg (show ¬ (True ∧ o + 1 ≤ vs.length) from fun e => q e.2)]; rfl
     | _ => rfl
 | _ => simp only [cop, CX.ev, one_cellsK e] <;> rfl
theorem intKK_eq (op : BinOp) (k : IntKind) (x y : Int) : intKK op k x y kv h = optV (binC op (.int k x) (.int k y)) kv h := by
 have lt : ∀ x y : Int, Bool.not (decide (y ≤ x)) = decide (x < y) := fun x y => by
  rw [Bool.eq_iff_iff]; simp
 cases op <;> first
  | rfl
  | (simp only [intKK, binC, intBin, if_pos, eqKK_eq, leK_eq, wrapK_eq, addK_eq, lt]; rfl)
theorem optV_any (r : Option CVal) : optV r kv h = anyK (match r with | some v => some (.val v, h) | none => none) kv kr := by cases r <;> rfl
theorem opBin_eq (op : BinOp) (x y : CX) : opBin op x y (CX.ev a) h kv kr = anyK (cop (.bin op x y) a h) kv kr := by
 have key : opBin op x y (CX.ev a) h kv kr = optV (binC op (x.ev a) (y.ev a)) kv h := by
  unfold opBin
  generalize x.ev a = v
  cases v with
  | int k n =>
    show bin2 (y.ev a) k n op kv h = _
    generalize y.ev a = u
    cases u with
    | int k' m =>
      show Bool.rec (motive := fun _ => O) (optV (binC op (.int k n) (.int k' m)) kv h) (intKK op k n m kv h) (Nat.beq (kNat k) (kNat k')) = _
      rw [kNat_eq]
      by_cases q : k = k'
      ·subst q; rw [decide_eq_true rfl]; exact intKK_eq op k n m
      ·rw [decide_eq_false q]
    | _ => rfl
  | str s => rfl
  | _ => generalize y.ev a = u; cases u <;> rfl
 rw [key, optV_any (kr := kr)]
 simp only [cop]
 cases binC op (x.ev a) (y.ev a) <;> rfl
theorem opIndex_eq (sz : Nat) (x i : CX) : opIndex sz x i (CX.ev a) h kv kr = anyK (cop (.indexAddr sz x i) a h) kv kr := by
 unfold opIndex
 simp only [cop, isNat_eq]
 generalize x.ev a = v
 cases v with
 | slice b o l c =>
   show idx2 (asNat (i.ev a)) b o l sz kv h = _
   cases asNat (i.ev a) with
   | none => rfl
   | some j =>
     show Bool.rec (motive := fun _ => O) none (kv (.ptr b (o + j * sz)) h) (Nat.blt j l) = _
     by_cases q : j < l
     ·rw [show Nat.blt j l = true from by simp [Nat.blt_eq, q]]; simp only [if_pos q]; rfl
     ·rw [show Nat.blt j l = false from Bool.eq_false_iff.2 (fun e => q (Nat.blt_eq ▸ e))]; simp only [if_neg q]; rfl
 | _ => cases asNat (i.ev a) <;> rfl
theorem opKK_eq (op : COp) : opKK op (CX.ev a) h kv kr = anyK (cop op a h) kv kr := by
 cases op with
 | move x => rfl
 | pick c x y =>
   show opPick c x y (CX.ev a) h kv kr = _
   unfold opPick; simp only [cop]
   generalize c.ev a = v
   cases v with
   | bool b => cases b <;> rfl
   | _ => rfl
 | new z =>
   show kv (.ptr h.next 0) (h.newK (.cells z true none)) = _
   rw [Heap.newK_eq]; rfl
 | load agg n x =>
   cases agg with
   | true => rfl
   | false => exact load1_eq (x.ev a)
 | store n p x =>
   show Bool.rec (motive := fun _ => O) (anyK (cop (.store n (.c (p.ev a)) (.c (x.ev a))) [] h) kv kr) (storeP (p.ev a) (x.ev a) h kv) (Bool.and (Nat.beq n 1) (oneK (x.ev a))) = _
   cases e : Bool.and (Nat.beq n 1) (oneK (x.ev a))
   ·rfl
   ·have e1 : Nat.beq n 1 = true ∧ oneK (x.ev a) = true := by simpa using e
    have e2 := Nat.eq_of_beq_eq_true e1.1
    subst e2
    exact storeP_eq _ _ (by rw [← oneK_eq]; exact e1.2)
 | nilCheck x =>
   show opNil x (CX.ev a) h kv kr = _
   unfold opNil; simp only [cop]
   generalize hx : x.ev a = v
   cases v <;> first
    | rfl
    | (show kv (x.ev a) h = _; rw [hx]; rfl)
 | bin op x y => exact opBin_eq op x y
 | un op x =>
   show optV (unC op (x.ev a)) kv h = _
   simp only [cop]
   cases unC op (x.ev a) <;> rfl
 | conv k x =>
   show opConv k x (CX.ev a) h kv kr = _
   unfold opConv; simp only [cop]
   generalize x.ev a = v
   cases v with
   | int k' n => show kv (.int k (wrapK k n)) h = _; rw [wrapK_eq]; rfl
   | _ => rfl
 | fieldAddr off x =>
   show opField off x (CX.ev a) h kv kr = _
   unfold opField; simp only [cop]
   generalize x.ev a = v
   cases v <;> rfl
 | indexAddr sz x i => exact opIndex_eq sz x i
 | len k x =>
   cases k with
   | slice =>
     show opLen .slice x (CX.ev a) h kv kr = _
     unfold opLen; simp only [cop]
     generalize x.ev a = v
     cases v <;> rfl
   | _ => rfl
 | extract x i =>
   show opExtract x i (CX.ev a) h kv kr = _
   unfold opExtract; simp only [cop]
   generalize x.ev a = v
   cases v with
   | tuple vs =>
     show optV (nthK vs i) kv h = _
     rw [nthK_eq, optV_any (kr := kr)]
     rfl
   | _ => rfl
 | part agg off n x =>
   cases agg with
   | true => rfl
   | false =>
     show opPart false off n x (CX.ev a) h kv kr = _
     unfold opPart; simp only [cop]
     generalize x.ev a = v
     cases v with
     | agg vs =>
       show optV (nthK vs off) kv h = _
       rw [nthK_eq, optV_any (kr := kr)]
       rfl
     | _ => rfl
 | call g l =>
   show opCall g l (CX.ev a) h kv kr = _
   have e : ∀ v : CVal, anyK (cop (.call (.c v) (l.map fun x => .c (x.ev a))) [] h) kv kr = anyK (cop (.call (.c v) l) a h) kv kr := fun v => by
    simp only [cop, List.map_map, Function.comp_def, CX.ev, List.length_map]
   have e2 : cop (.call g l) a h = cop (.call (.c (g.ev a)) l) a h := rfl
   unfold opCall; rw [e2]
   generalize g.ev a = v
   cases v with
   | func f first cap =>
     show kr (.enter f (List.append first (List.append (mapX (CX.ev a) l) cap))) h = _
     rw [mapX_eq]
     simp only [cop, CX.ev]
     show _ = kr (.enter f (first ++ _ ++ cap)) h
     rw [List.append_assoc]; rfl
   | _ => exact e _
 | append sz bytes s x =>
   show Option.rec (motive := fun _ => KV → O) _ _ (appendC h sz bytes (s.ev a) (x.ev a)) kv = _
   simp only [cop]
   cases appendC h sz bytes (s.ev a) (x.ev a) with
   | none => rfl
   | some p => rfl
 | build z l => show anyK (cop (.build z (l.map fun p => (p.1, p.2.1, .c (p.2.2.ev a)))) [] h) kv kr = _; simp only [cop, List.map_map, Function.comp_def, CX.ev]
 | buildSlice z n l => show anyK (cop (.buildSlice z n (l.map fun p => (p.1, p.2.1, .c (p.2.2.ev a)))) [] h) kv kr = _; simp only [cop, List.map_map, Function.comp_def, CX.ev]
 | func f l c => show anyK (cop (.func f (l.map fun x => .c (x.ev a)) (c.map fun x => .c (x.ev a))) [] h) kv kr = _; simp only [cop, List.map_map, Function.comp_def, CX.ev]
 | maxmin b x l => show anyK (cop (.maxmin b (.c (x.ev a)) (l.map fun x => .c (x.ev a))) [] h) kv kr = _; simp only [cop, List.map_map, Function.comp_def, CX.ev]
 | defer g l => show anyK (cop (.defer (.c (g.ev a)) (l.map fun x => .c (x.ev a))) [] h) kv kr = _; simp only [cop, List.map_map, Function.comp_def, CX.ev]
 | ext e l => show anyK (cop (.ext e (l.map fun x => .c (x.ev a))) [] h) kv kr = _; simp only [cop, List.map_map, Function.comp_def, CX.ev]
 | invoke m x l => show anyK (cop (.invoke m (.c (x.ev a)) (l.map fun x => .c (x.ev a))) [] h) kv kr = _; simp only [cop, List.map_map, Function.comp_def, CX.ev]
 | sliceStr x lo hi => cases lo <;> cases hi <;> rfl
 | slice sz x lo hi mx => cases lo <;> cases hi <;> cases mx <;> rfl
 | sliceArr n sz x lo hi mx => cases lo <;> cases hi <;> cases mx <;> rfl
 | _ => rfl
end
section
variable {ck call : CallFn} {t : PT} {a : List CVal} {ds : DS'} {h : Heap} {k : KN} {r : CVal × Heap}
theorem wantK_cases {v : CVal} {b : Bool} {y n : O} (e : wantK v b y n = some r) : (v = .bool b ∧ y = some r) ∨ ((v = .bool !b) ∧ n = some r) ∨ (v = .tuple [] ∧ n = some r) := by
 cases v with
 | bool c => cases c <;> cases b <;> first | exact .inl ⟨rfl, e⟩ | exact .inr (.inl ⟨rfl, e⟩)
 | tuple l =>
   cases l with
   | nil => exact .inr (.inr ⟨rfl, e⟩)
   | cons x l => exact absurd e (by intro e; cases e)
 | _ => exact absurd e (by intro e; cases e)
theorem runK_ok (hc : CallLe ck call) (R : Rp t a) {d : Option Nat} {op : COp} (e : runK op ck d t ds h k = some r) : ∃ v ds' h', evOp1 call ⟨d, op, none⟩ a h = some (v, ds', h') ∧ k (t.set v d) (ds' ++ ds) h' = some r := by
 unfold runK at e
 rw [R.ev, opKK_eq] at e
 cases e1 : cop op a h with
 | none => rw [e1] at e; cases e
 | some p =>
   rw [e1] at e
   obtain ⟨q, h'⟩ := p
   cases q with
   | val v => exact ⟨v, [], h', by simp only [evOp1, wantC, e1], e⟩
   | enter f args =>
     change Option.rec (motive := fun _ => Option Nat → PT → DS' → KN → O) _ _ (ck (fId f) args h') d t ds k = _ at e
     cases e2 : ck (fId f) args h' with
     | none => rw [e2] at e; cases e
     | some p =>
       rw [e2] at e
       obtain ⟨v, h''⟩ := p
       exact ⟨v, [], h'', by simp only [evOp1, wantC, e1, hc _ _ _ _ e2], e⟩
   | round i args =>
     change Option.rec (motive := fun _ => Option Nat → PT → DS' → KN → O) _ _ (ck (yId i) args h') d t ds k = _ at e
     cases e2 : ck (yId i) args h' with
     | none => rw [e2] at e; cases e
     | some p =>
       rw [e2] at e
       obtain ⟨v, h''⟩ := p
       exact ⟨v, [], h'', by simp only [evOp1, wantC, e1, hc _ _ _ _ e2], e⟩
   | defer f args =>
     change Option.rec (motive := fun _ => O) _ _ (isMark (f, args)) = _ at e
     cases e2 : isMark (f, args) with
     | some x => rw [e2] at e; cases e
     | none =>
       rw [e2] at e
       exact ⟨.un, [(f, args)], h', by simp only [evOp1, wantC, e1, e2], e⟩
theorem evOp1_want {c : CallFn} {d : Option Nat} {op : COp} {g : Option (Nat × Bool)} (e : wantC a g = some true) : evOp1 c ⟨d, op, g⟩ a h = evOp1 c ⟨d, op, none⟩ a h := by
 simp only [evOp1, e, show wantC a none = some true from rfl]
theorem evOp1_not {c : CallFn} {d : Option Nat} {op : COp} {g : Option (Nat × Bool)} (e : wantC a g = some false) : evOp1 c ⟨d, op, g⟩ a h = some (.un, [], h) := by
 simp only [evOp1, e]
theorem Rp.done (R : Rp t a) (v : CVal) (d : Option Nat) (ds ds' : DS') : ∃ a', Fr.done ⟨a, ds⟩ d v ds' = ⟨a', ds' ++ ds⟩ ∧ Rp (t.set v d) a' := R.set v d _
theorem operK_ok (hc : CallLe ck call) (R : Rp t a) {o : COper} (e : operK o ck t ds h k = some r) : ∃ t' a' ds' h', Rp t' a' ∧ evOper call o ⟨a, ds⟩ h = some (⟨a', ds'⟩, h') ∧ k t' ds' h' = some r := by
 obtain ⟨d, op, g⟩ := o
 have yes : ∀ (hw : wantC a g = some true), runK op ck d t ds h k = some r → ∃ t' a' ds' h', Rp t' a' ∧ evOper call ⟨d, op, g⟩ ⟨a, ds⟩ h = some (⟨a', ds'⟩, h') ∧ k t' ds' h' = some r := fun hw e => by
  obtain ⟨v, ds', h', e1, e2⟩ := runK_ok hc R e
  obtain ⟨a', e3, R'⟩ := R.done v d ds ds'
  exact ⟨_, a', _, h', R', by simp only [evOper, evOp1_want hw, e1, e3], e2⟩
 have no : ∀ (hw : wantC a g = some false), k (t.set .un d) ds h = some r → ∃ t' a' ds' h', Rp t' a' ∧ evOper call ⟨d, op, g⟩ ⟨a, ds⟩ h = some (⟨a', ds'⟩, h') ∧ k t' ds' h' = some r := fun hw e => by
  obtain ⟨a', e3, R'⟩ := R.done .un d ds []
  exact ⟨_, a', _, h, R', by simp only [evOper, evOp1_not hw, e3]; rfl, e⟩
 cases g with
 | none => exact yes rfl e
 | some p =>
   obtain ⟨s, b⟩ := p
   rcases wantK_cases (show wantK (t.get s) b (runK op ck d t ds h k) (k (t.set .un d) ds h) = some r from e) with ⟨e0, e⟩ | ⟨e0, e⟩ | ⟨e0, e⟩ <;> rw [R.get] at e0
   ·exact yes (by simp only [wantC, e0, beq_self_eq_true]) e
   ·exact no (by simp only [wantC, e0]; cases b <;> rfl) e
   ·exact no (by simp only [wantC, e0]) e
end
theorem opsK_ok {ck call : CallFn} (hc : CallLe ck call) {k : KN} {r : CVal × Heap} : ∀ (l : List COper) {t : PT} {a : List CVal} {ds : DS'} {h : Heap}, Rp t a → opsK ck l t ds h k = some r → ∃ t' a' ds' h', Rp t' a' ∧ evOps call l ⟨a, ds⟩ h = some (⟨a', ds'⟩, h') ∧ k t' ds' h' = some r
 | [], t, a, ds, h, R, e => ⟨t, a, ds, h, R, rfl, e⟩
 | o :: l, t, a, ds, h, R, e => by
   obtain ⟨t₁, a₁, ds₁, h₁, R₁, e1, e2⟩ := operK_ok hc R (show operK o ck t ds h (fun t ds h => opsK ck l t ds h k) = some r from e)
   obtain ⟨t₂, a₂, ds₂, h₂, R₂, e3, e4⟩ := opsK_ok hc l R₁ e2
   exact ⟨t₂, a₂, ds₂, h₂, R₂, by simp only [evOps, e1, e3], e4⟩
section
variable {ck call : CallFn} {t : PT} {a : List CVal} {ds : DS'} {h : Heap} {k : KN} {r : CVal × Heap}
theorem quiet_op {op : COp} {v : CVal} {h' : Heap} {d : Option Nat} (R : Rp t a) (e : opKK op (evX t) h someK noneK = some (v, h')) : evOp1 noCall ⟨d, op, none⟩ a h = some (v, [], h') := by
 rw [R.ev, opKK_eq] at e
 cases e1 : cop op a h with
 | none => rw [e1] at e; cases e
 | some p =>
   rw [e1] at e
   obtain ⟨q, h2⟩ := p
   cases q with
   | val u => cases e; simp only [evOp1, wantC, e1]
   | _ => cases e
theorem quietKK_ok (R : Rp t a) {c : COper} {v : CVal} {h' : Heap} (e : quietKK c t h = some (v, h')) : ∃ h'', evOp1 noCall c a h = some (v, [], h'') := by
 obtain ⟨d, op, g⟩ := c
 cases g with
 | none => exact ⟨_, quiet_op R e⟩
 | some p =>
   obtain ⟨s, b⟩ := p
   rcases wantK_cases (show wantK (t.get s) b (opKK op (evX t) h someK noneK) (some (.un, h)) = some (v, h') from e) with ⟨e0, e⟩ | ⟨e0, e⟩ | ⟨e0, e⟩ <;> rw [R.get] at e0
   ·exact ⟨_, (evOp1_want (by simp only [wantC, e0, beq_self_eq_true])).trans (quiet_op R e)⟩
   ·cases e; exact ⟨_, evOp1_not (by simp only [wantC, e0]; cases b <;> rfl)⟩
   ·cases e; exact ⟨_, evOp1_not (by simp only [wantC, e0])⟩
theorem drawS_ok (hc : CallLe ck call) {base : Nat} (R : Rp t a) {it : DIt} (e : drawS ck base it t ds h k = some r) : ∃ t' a' ds' h', Rp t' a' ∧ stepD call base it ⟨a, ds⟩ h = some (⟨a', ds'⟩, h') ∧ k t' ds' h' = some r := by
 obtain ⟨ix, c, kd⟩ := it
 cases kd with
 | quiet ks =>
   change Option.rec (motive := fun _ => O) none (fun p => Prod.rec (motive := fun _ => O) (fun v _ => k (t.set v (dstK c)) ds h) p) (quietKK c t h) = some r at e
   cases e1 : quietKK c t h with
   | none => rw [e1] at e; cases e
   | some p =>
     rw [e1] at e
     obtain ⟨v, h'⟩ := p
     obtain ⟨h2, e2⟩ := quietKK_ok R e1
     obtain ⟨a', e3, R'⟩ := R.set v c.dst ds
     exact ⟨_, a', ds, h, R', by simp only [stepD, e2, e3], e⟩
 | eff => exact operK_ok hc R e
 | alloc aid =>
   obtain ⟨d, op, g⟩ := c
   change Option.rec (motive := fun _ => O) (Bool.rec (motive := fun _ => O) none (opKK op (evX t) ⟨base + aid, h.t⟩ (fun v h' => k (t.set v d) ds ⟨h.next, h'.t⟩) noneK) (isA op)) (fun _ => none) g = some r at e
   cases g with
   | some p => cases e
   | none =>
     change Bool.rec (motive := fun _ => O) none _ (isA op) = some r at e
     cases ea : isA op with
     | false => rw [ea] at e; cases e
     | true =>
       rw [ea] at e
       change opKK op (evX t) ⟨base + aid, h.t⟩ (fun v h' => k (t.set v d) ds ⟨h.next, h'.t⟩) noneK = some r at e
       rw [R.ev, opKK_eq] at e
       cases e1 : cop op a ⟨base + aid, h.t⟩ with
       | none => rw [e1] at e; cases e
       | some p =>
         rw [e1] at e
         obtain ⟨q, h2⟩ := p
         obtain ⟨v, obj, e2, rfl, rfl⟩ := cop_alloc ea e1
         obtain ⟨a', e3, R'⟩ := R.set v d ds
         exact ⟨_, a', ds, h.set (base + aid) obj, R', by simp only [stepD, show allocC op a (base + aid) = some (v, obj) from e2, e3], e⟩
end
def Snap : List (PT × Heap) → List (Fr × Heap) → Prop
 | [], [] => True
 | p :: ps, q :: qs => Rp p.1 q.1.tmps ∧ p.2 = q.2 ∧ Snap ps qs
 | _, _ => False
theorem drawK_ok {ck call : CallFn} (hc : CallLe ck call) {base : Nat} {r : CVal × Heap} : ∀ (its : List DIt) {t : PT} {a : List CVal} {ds : DS'} {h : Heap} {k : KD}, Rp t a → drawK ck base its t ds h k = some r →
 ∃ t' a' ds' h' hs hs', Rp t' a' ∧ Snap hs hs' ∧ evD call base its ⟨a, ds⟩ h = some (⟨a', ds'⟩, h', hs') ∧ k t' ds' h' hs = some r
 | [], t, a, ds, h, k, R, e => ⟨t, a, ds, h, _, _, R, (show Snap [(t, h)] [(⟨a, ds⟩, h)] from ⟨R, rfl, trivial⟩), rfl, e⟩
 | it :: its, t, a, ds, h, k, R, e => by
   obtain ⟨t₁, a₁, ds₁, h₁, R₁, e1, e2⟩ := drawS_ok hc R (show drawS ck base it t ds h (fun t₁ ds₁ h₁ => drawK ck base its t₁ ds₁ h₁ (fun t' ds' h' hs => k t' ds' h' ((t, h) :: hs))) = some r from e)
   obtain ⟨t₂, a₂, ds₂, h₂, hs, hs', R₂, S, e3, e4⟩ := drawK_ok hc its R₁ e2
   exact ⟨t₂, a₂, ds₂, h₂, (t, h) :: hs, (⟨a, ds⟩, h) :: hs', R₂, (show Snap (_ :: _) (_ :: _) from ⟨R, rfl, S⟩), by simp only [evD, e1, e3], e4⟩
theorem Snap.nth : ∀ {hs : List (PT × Heap)} {hs' : List (Fr × Heap)}, Snap hs hs' → ∀ {k : Nat} {g : PT × Heap}, nthH hs k = some g → ∃ g', hs'[k]? = some g' ∧ g.2 = g'.2
 | [], _, _, k, g, e => by cases k <;> cases e
 | p :: ps, [], S, _, _, _ => S.elim
 | p :: ps, q :: qs, S, 0, g, e => by cases e; exact ⟨q, rfl, S.2.1⟩
 | p :: ps, q :: qs, S, k + 1, g, e => by
   obtain ⟨g', e1, e2⟩ := Snap.nth S.2.2 (k := k) (g := g) e
   exact ⟨g', by simpa using e1, e2⟩
theorem beqK_ok {u v : CVal} (e : beqK u v = true) : CVal.beq u v = true := by
 cases u with
 | int k n =>
   cases v with
   | int k' n' =>
     have e : Bool.and (Nat.beq (kNat k) (kNat k')) (eqKK n n') = true := e
     rw [kNat_eq, eqKK_eq] at e
     simpa [CVal.beq] using e
   | _ => cases e
 | bool b => cases v <;> first | exact e | (rename_i c; cases b <;> cases c <;> first | rfl | cases e) | cases e
 | _ => exact e
theorem checkQK_ok {t out : PT} {a o : List CVal} (R : Rp t a) (Ro : Rp out o) {hs : List (PT × Heap)} {hs' : List (Fr × Heap)} (S : Snap hs hs') {c : COper} {k : Nat} (e : checkQK c t out hs k = true) : checkQ c a o hs' k = true := by
 unfold checkQK at e
 cases e1 : nthH hs k with
 | none => rw [e1] at e; cases e
 | some g =>
   rw [e1] at e
   obtain ⟨g', e2, e3⟩ := S.nth e1
   obtain ⟨gt, gh⟩ := g
   change Option.rec (motive := fun _ => Bool) false (fun p => Prod.rec (motive := fun _ => Bool) (fun v _ => checkV (dstK c) out v) p) (quietKK c t gh) = true at e
   cases e4 : quietKK c t gh with
   | none => rw [e4] at e; cases e
   | some p =>
     rw [e4] at e
     obtain ⟨v, h2⟩ := p
     obtain ⟨h3, e5⟩ := quietKK_ok R e4
     unfold checkQ
     simp only [e2, ← show gh = g'.2 from e3, e5]
     change checkV c.dst out v = true at e
     cases e6 : c.dst with
     | none => rfl
     | some d =>
       rw [e6] at e
       have e : beqK v (out.get d) = true := e
       rw [Ro.get] at e
       exact beqK_ok e
theorem checkQs_ok {t out : PT} {a o : List CVal} (R : Rp t a) (Ro : Rp out o) {hs : List (PT × Heap)} {hs' : List (Fr × Heap)} (S : Snap hs hs') {c : COper} : ∀ (ks : List Nat), checkQs c t out hs ks = true → ks.all (checkQ c a o hs') = true
 | [], _ => rfl
 | k :: ks, e => by
   change Bool.rec (motive := fun _ => Bool) false (checkQs c t out hs ks) (checkQK c t out hs k) = true at e
   cases e1 : checkQK c t out hs k with
   | false => rw [e1] at e; cases e
   | true => rw [e1] at e; simp only [List.all_cons, checkQK_ok R Ro S e1, checkQs_ok R Ro S ks e, Bool.and_self]
theorem checkDK_ok {out : PT} {o : List CVal} (Ro : Rp out o) {hs : List (PT × Heap)} {hs' : List (Fr × Heap)} (S : Snap hs hs') : ∀ (its : List DIt) {ss : List (PT × Heap)} {ss' : List (Fr × Heap)}, Snap ss ss' → checkDK out hs its ss = true → checkD o hs' its ss' = true
 | [], _, ss', _, _ => by cases ss' <;> rfl
 | it :: its, [], _, _, e => by cases e
 | it :: its, s :: ss, [], S', _ => S'.elim
 | it :: its, s :: ss, s' :: ss', S', e => by
   change Bool.rec (motive := fun _ => Bool) false (checkDK out hs its ss) (checkI it s.1 out hs) = true at e
   cases e1 : checkI it s.1 out hs with
   | false => rw [e1] at e; cases e
   | true =>
     rw [e1] at e
     simp only [checkD, checkDK_ok Ro S its S'.2.2 e, Bool.and_true]
     obtain ⟨ix, c, kd⟩ := it
     cases kd with
     | quiet ks => exact checkQs_ok S'.1 Ro S ks e1
     | _ => rfl
def Ends (kn : KN) (ke : KE) (x : CExit) (t : PT) (ds : DS') (h : Heap) : O := match x with
 | .normal => kn t ds h
 | x => ke x t ds h
theorem codeK_ok {ck call : CallFn} (hc : CallLe ck call) {r : CVal × Heap} : ∀ (n : Nat) {c : CCode} {t : PT} {a : List CVal} {ds : DS'} {h : Heap} {kn : KN} {ke : KE}, Rp t a → codeK ck n c t ds h kn ke = some r →
 ∃ x t' a' ds' h', Rp t' a' ∧ evCode call n c ⟨a, ds⟩ h = some (x, ⟨a', ds'⟩, h') ∧ Ends kn ke x t' ds' h' = some r
 | 0, _, _, _, _, _, _, _, _, e => by cases e
 | n + 1, c, t, a, ds, h, kn, ke, R, e => by
   cases c with
   | skip => exact ⟨.normal, t, a, ds, h, R, rfl, e⟩
   | exit id => exact ⟨.exit id, t, a, ds, h, R, rfl, e⟩
   | ret => exact ⟨.ret, t, a, ds, h, R, rfl, e⟩
   | goto l => exact ⟨.goto l, t, a, ds, h, R, rfl, e⟩
   | rangeF fn k np f =>
     have e : rangeK ck fn k np (evX t f) t ds h kn ke = some r := e
     rw [R.ev] at e
     unfold rangeK at e
     split at e
     ·next g first cap e1 =>
      split at e
      ·next l e2 =>
       split at e
       ·next v h₁ e3 =>
        have el : l = a := R.list _ _ e2
        subst el
        simp only [Heap.newK_eq] at e3
        have e3 := hc _ _ _ _ e3
        simp only [Heap.getK_eq, Heap.setK_eq] at e
        split at e
        ·next st pend fn' k' np' tmps' d' e4 =>
         have fin : ∀ x, evCode call (n + 1) (.rangeF fn k np f) ⟨l, ds⟩ h = some (x, ⟨l, markD h.next :: ds⟩, h₁.set (h.next + 1) (.loop .exhausted pend fn' k' np' tmps' d')) → Ends kn ke x t (markD h.next :: ds) (h₁.set (h.next + 1) (.loop .exhausted pend fn' k' np' tmps' d')) = some r → ∃ x t' a' ds' h', Rp t' a' ∧ evCode call (n + 1) (.rangeF fn k np f) ⟨l, ds⟩ h = some (x, ⟨a', ds'⟩, h') ∧ Ends kn ke x t' ds' h' = some r :=
          fun x e5 e6 => ⟨x, t, l, markD h.next :: ds, _, R, e5, e6⟩
         have e3 : call (fId g) (first ++ [.yield (h.next + 1)] ++ cap) ((h.new .dfr).new (.loop .ready none fn k np l h.next)) = some (v, h₁) := e3
         have e4 : h₁.get (h.next + 1) = some (.loop st pend fn' k' np' tmps' d') := e4
         cases pend with
         | none =>
           refine fin .normal ?_ ?_
           ·cases st <;> first
             | cases e
             | simp only [evCode, e1, Heap.next_new, e3, e4]
           ·cases st <;> first
             | cases e
             | exact e
         | some j =>
           refine fin j.cx ?_ ?_
           ·cases st <;> first
             | cases e
             | simp only [evCode, e1, Heap.next_new, e3, e4]
           ·cases j <;> cases st <;> first
             | cases e
             | exact e
        ·cases e
       ·cases e
      ·cases e
     ·cases e
   | wipe l =>
     obtain ⟨a', e1, R'⟩ := PT.wipe_ok l ds R
     exact ⟨.normal, _, a', ds, h, R', by simp only [evCode, e1], e⟩
   | region ops =>
     obtain ⟨t', a', ds', h', R', e1, e2⟩ := opsK_ok hc ops R e
     exact ⟨.normal, t', a', ds', h', R', by simp only [evCode, e1], e2⟩
   | draw its k =>
     obtain ⟨t', a', ds', h', hs, hs', R', S, e1, e2⟩ := drawK_ok hc its R e
     cases e3 : checkDK t' hs its hs with
     | false => rw [e3] at e2; cases e2
     | true =>
       rw [e3] at e2
       exact ⟨.normal, t', a', ds', h', R', by simp only [evCode, show evD call h.next its ⟨a, ds⟩ { h with next := h.next + k } = some (⟨a', ds'⟩, h', hs') from e1, checkDK_ok R' S its S e3, if_pos], e2⟩
   | seq x y =>
     obtain ⟨z, t', a', ds', h', R', e1, e2⟩ := codeK_ok hc n R (show codeK ck n x t ds h (fun t ds h => codeK ck n y t ds h kn ke) ke = some r from e)
     cases z with
     | normal =>
       obtain ⟨z, t₂, a₂, ds₂, h₂, R₂, e3, e4⟩ := codeK_ok hc n R' e2
       exact ⟨z, t₂, a₂, ds₂, h₂, R₂, by simp only [evCode, e1, e3], e4⟩
     | exit q => exact ⟨.exit q, t', a', ds', h', R', by simp only [evCode, e1], e2⟩
     | ret => exact ⟨.ret, t', a', ds', h', R', by simp only [evCode, e1], e2⟩
     | goto q => exact ⟨.goto q, t', a', ds', h', R', by simp only [evCode, e1], e2⟩
   | loop x =>
     obtain ⟨z, t', a', ds', h', R', e1, e2⟩ := codeK_ok hc n R (show codeK ck n x t ds h (fun t ds h => codeK ck n (.loop x) t ds h kn ke) ke = some r from e)
     cases z with
     | normal =>
       obtain ⟨z, t₂, a₂, ds₂, h₂, R₂, e3, e4⟩ := codeK_ok hc n R' e2
       exact ⟨z, t₂, a₂, ds₂, h₂, R₂, by simp only [evCode, e1, e3], e4⟩
     | exit q => exact ⟨.exit q, t', a', ds', h', R', by simp only [evCode, e1], e2⟩
     | ret => exact ⟨.ret, t', a', ds', h', R', by simp only [evCode, e1], e2⟩
     | goto q => exact ⟨.goto q, t', a', ds', h', R', by simp only [evCode, e1], e2⟩
   | cond c x y =>
     have e : boolK (evX t c) (codeK ck n x t ds h kn ke) (codeK ck n y t ds h kn ke) = some r := e
     rw [R.ev] at e
     cases e1 : c.ev a with
     | bool b =>
       rw [e1] at e
       cases b with
       | true =>
         obtain ⟨z, t', a', ds', h', R', e2, e3⟩ := codeK_ok hc n R (show codeK ck n x t ds h kn ke = some r from e)
         exact ⟨z, t', a', ds', h', R', by simp only [evCode, e1, e2], e3⟩
       | false =>
         obtain ⟨z, t', a', ds', h', R', e2, e3⟩ := codeK_ok hc n R (show codeK ck n y t ds h kn ke = some r from e)
         exact ⟨z, t', a', ds', h', R', by simp only [evCode, e1, e2], e3⟩
     | _ => rw [e1] at e; cases e
   | block id x =>
     obtain ⟨z, t', a', ds', h', R', e1, e2⟩ := codeK_ok hc n R (show codeK ck n x t ds h kn (exitK id kn ke) = some r from e)
     cases z with
     | exit id' =>
       have e2 : Bool.rec (motive := fun _ => O) (ke (.exit id') t' ds' h') (kn t' ds' h') (Nat.beq id' id) = some r := e2
       by_cases q : id' = id
       ·subst q
        rw [Nat.beq_refl] at e2
        exact ⟨.normal, t', a', ds', h', R', by simp only [evCode, e1, if_pos], e2⟩
       ·rw [beqF q] at e2
        exact ⟨.exit id', t', a', ds', h', R', by simp only [evCode, e1, if_neg q], e2⟩
     | normal => exact ⟨.normal, t', a', ds', h', R', by simp only [evCode, e1], e2⟩
     | ret => exact ⟨.ret, t', a', ds', h', R', by simp only [evCode, e1], e2⟩
     | goto q => exact ⟨.goto q, t', a', ds', h', R', by simp only [evCode, e1], e2⟩
   | scope x rs =>
     obtain ⟨z, t', a', ds', h', R', e1, e2⟩ := codeK_ok hc n R (show codeK ck n x t ds h kn (restK rs (codeK ck n) kn ke) = some r from e)
     cases z with
     | goto l =>
       have e2 : Option.rec (motive := fun _ => O) none (fun r => codeK ck n (.scope r rs) t' ds' h' kn ke) (findRest l rs) = some r := e2
       cases e3 : findRest l rs with
       | none => rw [e3] at e2; cases e2
       | some y =>
         rw [e3] at e2
         obtain ⟨z, t₂, a₂, ds₂, h₂, R₂, e4, e5⟩ := codeK_ok hc n R' e2
         exact ⟨z, t₂, a₂, ds₂, h₂, R₂, by simp only [evCode, e1, e3, e4], e5⟩
     | normal => exact ⟨.normal, t', a', ds', h', R', by simp only [evCode, e1], e2⟩
     | exit q => exact ⟨.exit q, t', a', ds', h', R', by simp only [evCode, e1], e2⟩
     | ret => exact ⟨.ret, t', a', ds', h', R', by simp only [evCode, e1], e2⟩
theorem resultK_ok {t : PT} {a : List CVal} (R : Rp t a) {h : Heap} : ∀ (rs : List CRV) {vs : List CVal}, resultK t h rs = some vs → resultsC a h rs = some vs
 | [], _, e => by cases e; rfl
 | x :: rs, vs, e => by
   let q := CRV.rec (motive := fun _ => Option CVal) (fun s => some (t.get s)) (fun s agg n => match cop (.load agg n (.c (t.get s))) [] h with
    | some (.val v, _) => some v
    | _ => none) x
   change Option.rec (motive := fun _ => Option (List CVal)) none (fun vs => Option.rec (motive := fun _ => Option (List CVal)) none (fun v => some (v :: vs)) q) (resultK t h rs) = some vs at e
   have hq : resC a h x = q := by
    cases x with
    | tmp s => show some (a.getD s .undef) = some (t.get s); rw [R.get]
    | cell s agg n =>
      have e1 : cop (.load agg n (.t s)) a h = cop (.load agg n (.c (t.get s))) [] h := by rw [R.get]; rfl
      show (match cop (.load agg n (.t s)) a h with | some (.val v, _) => some v | _ => none) = (match cop (.load agg n (.c (t.get s))) [] h with | some (.val v, _) => some v | _ => none)
      rw [e1]
   cases e1 : resultK t h rs with
   | none => rw [e1] at e; cases e
   | some us =>
     rw [e1] at e
     change Option.rec (motive := fun _ => Option (List CVal)) none (fun v => some (v :: us)) q = some vs at e
     simp only [resultsC, hq, resultK_ok R rs e1]
     cases e2 : q with
     | none => rw [e2] at e; cases e
     | some v => rw [e2] at e; exact e
theorem finK_ok {cd cd' : CallFn} (hc : CallLe cd cd') {t : PT} {a : List CVal} (R : Rp t a) {rs : List CRV} {ds : DS'} {h : Heap} {v : CVal} {h' : Heap} (e : finK cd rs t ds h = some (v, h')) :
 ∃ vs, runDefers cd' ds h = some h' ∧ resultsC a h' rs = some vs ∧ v = packC vs := by
 unfold finK at e
 cases e1 : runDefers cd ds h with
 | none => rw [e1] at e; cases e
 | some h2 =>
   rw [e1] at e
   change Option.rec (motive := fun _ => O) none (fun vs => some (packC vs, h2)) (resultK t h2 rs) = _ at e
   cases e2 : resultK t h2 rs with
   | none => rw [e2] at e; cases e
   | some vs =>
     rw [e2] at e
     cases e
     exact ⟨vs, runDefers_mono hc e1, resultK_ok R rs e2, rfl⟩
theorem bodyK_ok {ck call cd cd' : CallFn} (hc : CallLe ck call) (hd : CallLe cd cd') {n : Nat} {fn : CFunc} {args : List CVal} {h : Heap} {r : CVal × Heap} (e : bodyK ck cd n fn args h = some r) : evBody call cd' n fn args h = some r := by
 obtain ⟨nt, rs, c⟩ := fn
 obtain ⟨v, h'⟩ := r
 change Bool.rec (motive := fun _ => O) none _ (Nat.ble (lenLK args) nt) = _ at e
 cases e0 : Nat.ble (lenLK args) nt with
 | false => rw [e0] at e; cases e
 | true =>
   rw [e0] at e
   rw [lenLK_eq] at e0
   obtain ⟨x, t', a', ds', h₁, R', e1, e2⟩ := codeK_ok hc n (frameK_ok (Nat.le_of_ble_eq_true e0)) e
   simp only [evBody, frame₀, e1]
   cases x with
   | normal =>
     obtain ⟨vs, e3, e4, rfl⟩ := finK_ok hd R' e2
     simp only [e3, e4]
   | ret =>
     obtain ⟨vs, e3, e4, rfl⟩ := finK_ok hd R' (show finK cd rs t' ds' h₁ = _ from e2)
     simp only [e3, e4]
   | _ => cases e2
theorem finDK_ok {t : PT} {a : List CVal} (R : Rp t a) {rs : List CRV} {ds : DS'} {h : Heap} {v : CVal} {h' : Heap} (e : finDK rs t ds h = some (v, h')) : ∃ vs, ds = [] ∧ h' = h ∧ resultsC a h rs = some vs ∧ v = packC vs := by
 cases ds with
 | cons => cases e
 | nil =>
   change Option.rec (motive := fun _ => O) none (fun vs => some (packC vs, h)) (resultK t h rs) = _ at e
   cases e2 : resultK t h rs with
   | none => rw [e2] at e; cases e
   | some vs => rw [e2] at e; cases e; exact ⟨vs, rfl, rfl, resultK_ok R rs e2, rfl⟩
theorem bodyDK_ok {ck call : CallFn} (hc : CallLe ck call) {n : Nat} {fn : CFunc} {args : List CVal} {h : Heap} {r : CVal × Heap} (e : bodyDK ck n fn args h = some r) : evBodyD call n fn args h = some r := by
 obtain ⟨nt, rs, c⟩ := fn
 obtain ⟨v, h'⟩ := r
 change Bool.rec (motive := fun _ => O) none _ (Nat.ble (lenLK args) nt) = _ at e
 cases e0 : Nat.ble (lenLK args) nt with
 | false => rw [e0] at e; cases e
 | true =>
   rw [e0] at e
   rw [lenLK_eq] at e0
   obtain ⟨x, t', a', ds', h₁, R', e1, e2⟩ := codeK_ok hc n (frameK_ok (Nat.le_of_ble_eq_true e0)) e
   simp only [evBodyD, frame₀, e1]
   cases x with
   | normal =>
     obtain ⟨vs, rfl, rfl, e4, rfl⟩ := finDK_ok R' e2
     simp only [e4]
   | ret =>
     obtain ⟨vs, rfl, rfl, e4, rfl⟩ := finDK_ok R' (show finDK rs t' ds' h₁ = _ from e2)
     simp only [e4]
   | _ => cases e2
theorem roundK_ok {ck call : CallFn} (hc : CallLe ck call) {n : Nat} {rc : Nat → Nat → Option RoundC} {i : Nat} {args : List CVal} {h : Heap} {r : CVal × Heap} (e : roundK ck n rc i args h = some r) : evRound call n rc i args h = some r := by
 unfold roundK at e
 rw [Heap.getK_eq] at e
 unfold evRound
 split at e
 ·next st pend fn k np tmps d e1 =>
  simp only [e1]
  split at e
  ·next e2 =>
   rw [if_pos e2]
   split at e
   ·next rr e3 =>
    simp only [e3]
    have R : Rp (frameK tmps.length tmps) tmps := by simpa using frameK_ok (Nat.le_refl tmps.length)
    obtain ⟨x, t₁, a₁, ds₁, h₁, R₁, e4, e5⟩ := codeK_ok hc n (R.sets rr.params args) e
    simp only [e4]
    cases x with
    | normal =>
      simp only [Ends, Heap.getK_eq, Heap.setK_eq] at e5 ⊢
      split at e5
      ·next e6 =>
       simp only [e6]
       obtain ⟨x, t₂, a₂, ds₂, h₂, R₂, e7, e8⟩ := codeK_ok hc n R₁ e5
       simp only [e7]
       unfold roundE at e8
       simp only [Heap.getK_eq, Heap.setK_eq] at e8
       cases ds₂ with
       | cons => cases x <;> cases e8
       | nil =>
         cases e9 : h₂.get i with
         | none => simp only [Ends, e9] at e8; cases x <;> cases e8
         | some o =>
           cases o with
           | loop => simp only [Ends, e9] at e8; cases x <;> exact e8
           | _ => simp only [Ends, e9] at e8; cases x <;> cases e8
      ·cases e5
    | _ => cases e5
   ·cases e
  ·cases e
 ·cases e
theorem callK_ok (T : Tab) : ∀ n, CallLe (callK T n) (callF T n)
 | 0, _, _, _, _, e => by cases e
 | n + 1, c, args, h, r, e => by
   have hc := callK_ok T n
   have hd : CallLe (fun g as h => match T.dcod g with | some gn => bodyDK (callK T n) n gn as h | none => none) (fun g as h => match T.dcod g with | some gn => evBodyD (callF T n) n gn as h | none => none) := fun g as h r e => by
    dsimp only at e ⊢
    split at e
    ·exact bodyDK_ok hc e
    ·cases e
   change Bool.rec (motive := fun _ => O) (roundK (callK T n) n T.rounds (c / 2) args h) (Option.rec (motive := fun _ => O) (Option.rec (motive := fun _ => O) none (fun fn => bodyK (callK T n) (fun g as h => match T.dcod g with | some gn => bodyDK (callK T n) n gn as h | none => none) n fn args h) (T.code (c / 2))) (fun p => p args h) (T.prim (c / 2))) (Nat.beq (c % 2) 0) = some r at e
   rcases Nat.mod_two_eq_zero_or_one c with hm | hm
   ·rw [hm] at e
    change Option.rec (motive := fun _ => O) _ (fun p => p args h) (T.prim (c / 2)) = some r at e
    simp only [callF, hm]
    cases e1 : T.prim (c / 2) with
    | some p => rw [e1] at e; exact e
    | none =>
      rw [e1] at e
      change Option.rec (motive := fun _ => O) none _ (T.code (c / 2)) = some r at e
      cases e2 : T.code (c / 2) with
      | none => rw [e2] at e; cases e
      | some fn => rw [e2] at e; exact bodyK_ok hc hd e
   ·rw [hm] at e
    simp only [callF, hm]
    exact roundK_ok hc e
end Go.Proofs.YtkjdgdkkepmciaaGreat.Cm
