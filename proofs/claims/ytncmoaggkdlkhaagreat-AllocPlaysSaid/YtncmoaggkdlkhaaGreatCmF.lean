/-
  The clean machine, and what the law's functions do in it: part F of this claim's own texts. No conditions.
-/
import Derived.Test.YtncmoaggkdlkhaaGreatCmE
namespace Go.Proofs.YtncmoaggkdlkhaaGreat.Cm
open Go.RowKit Go.IntWalk
theorem nx_ {h : Heap} {n : Nat} (s : h.next = n := by ((repeat first | apply Heap.nx_set | apply Heap.nx_new | apply Heap.nx_kill | apply Heap.nx_room); first | assumption | rfl)) : h.next = n := s
theorem Heap.new_skip_ {h : Heap} {i : Nat} {o : CObj} {x : Option CObj} {n : Nat} (k : h.get i = x) (e : h.next = n := by ((repeat first | apply Heap.nx_set | apply Heap.nx_new | apply Heap.nx_kill | apply Heap.nx_room); first | assumption | rfl)) (ne : i ≠ n := by omega) : (h.new o).get i = x := Heap.new_skip e ne k
theorem get_ {h : Heap} {i : Nat} {x : Option CObj} (s : h.get i = x := by ((repeat first | refine Heap.room_get ?_ | refine Heap.set_skip (by omega) ?_ | refine Heap.new_skip_ ?_ | refine Heap.kill_skip (by omega) ?_ | refine Exd.skip (by assumption) (by omega) ?_); first | assumption | exact Heap.set_at (by omega) | exact Heap.new_at nx_ (by omega) | rfl)) : h.get i = x := s
theorem exd_ {h h' : Heap} (s : Exd h h' := by (repeat' first | exact Exd.refl _ | assumption | refine Exd.new ?_ | refine Exd.set ?_ (by omega) | refine Exd.kill ?_ (by omega) | refine Exd.trans (by assumption) ?_)) : Exd h h' := s
theorem upd_ {S : Nat → Prop} {h h' : Heap} (s : Upd S h h' := by (repeat' first | exact Upd.refl _ _ | assumption | refine Upd.new ?_ | refine Upd.set ?_ (by first | (left; rfl) | (right; omega)) | refine Upd.trans (by assumption) ?_)) : Upd S h h' := s
theorem lt_ {a b : Nat} (s : a < b := by first | omega | (dsimp only; omega) | (simp only []; omega) | (simp only [Heap.next_new]; omega) | (simp only [Heap.next_set]; omega) | (simp only [Heap.next_set, Heap.next_new]; omega) | (simp only [Heap.next_set, Heap.next_new, Heap.next_kill]; omega)) : a < b := s
theorem RIn.lenS {h : Heap} {v : CVal} {R : List Int} {K : Int → Prop} (s : RIn h v R) (k : K R.length) : lenS v K := by
 rcases s with ⟨rfl, rfl⟩ | ⟨i, o, c, rfl, _⟩
 ·exact k
 ·exact k
def At1 (h : Heap) (b o : Nat) (x : CVal) : Prop := b < h.next ∧ ∃ cs wr opn, h.get b = some (.cells cs wr opn) ∧ cs[o]? = some x
theorem At1.exd {h h' : Heap} {b o : Nat} {x : CVal} (s : At1 h b o x) (e : Exd h h') : At1 h' b o x := by
 obtain ⟨s1, cs, wr, opn, g, a⟩ := s
 exact ⟨Nat.lt_of_lt_of_le s1 e.le, cs, wr, opn, (e.get b s1).trans g, a⟩
theorem At1.get {h : Heap} {b o : Nat} {x : CVal} {K : CVal → Prop} (s : At1 h b o x) (k : K x) : GETN h b fun us _ _ => AT us o fun v => K v := by
 obtain ⟨_, cs, wr, opn, g, a⟩ := s
 exact .mk g (AT.of a k)
theorem At1.look {N : Nat} {ρ : Env} {h : Heap} {n b o : Nat} {c : CX} {x : CVal} {A : Prop} (s : At1 h b o x) (k : A) (e : c.on N ρ = .ptr b o) : LOOKN N (.load false n c) ρ h x A := by
 obtain ⟨_, cs, wr, opn, g, a⟩ := s
 exact .mk (QV.load e g a) k
theorem RIn.idxS {h : Heap} {v : CVal} {R : List Int} {i : Int} {K : Nat → Nat → Prop} (s : RIn h v R) (hi : 0 ≤ i ∧ i < R.length) (k : ∀ b o, At1 h b o (.int .i64 (R.getD i.toNat 0)) → K b o) : idxS 1 v i K := by
 rcases s with ⟨rfl, rfl⟩ | ⟨b, o, c, rfl, hb, ra⟩
 ·simp at hi; omega
 ·refine ⟨hi, k _ _ ⟨hb, ?_⟩⟩
  rcases ra with rfl | ⟨cs, wr, opn, g, a⟩
  ·simp at hi; omega
  ·have hj : i.toNat < R.length := by omega
   exact ⟨cs, wr, opn, g, by rw [Nat.mul_one, a _ hj]; simp [List.getD, hj]⟩
theorem RIn.one {h : Heap} {v : CVal} {R : List Int} (s : RIn h v R) : v.one = true := by
 rcases s with ⟨rfl, rfl⟩ | ⟨i, o, c, rfl, _⟩ <;> rfl
structure Kp (Q : Prop) : Prop where
 o : Q
theorem LTN.y_ {a b : Int} {A B : Prop} (k : A) (h : a < b := by omega) : LTN a b A B := LTN.yes h k
theorem LTN.n_ {a b : Int} {A B : Prop} (k : B) (h : b ≤ a := by omega) : LTN a b A B := LTN.no h k
theorem EQN.y_ {a b : Int} {A B : Prop} (k : A) (h : a = b := by omega) : EQN a b A B := EQN.yes h k
theorem EQN.n_ {a b : Int} {A B : Prop} (k : B) (h : a ≠ b := by omega) : EQN a b A B := EQN.no h k
theorem ARN.i_ {r : Int} {K : Int → Prop} (k : K r) (h : -9223372036854775808 ≤ r ∧ r ≤ 9223372036854775807 := by omega) : ARN .i64 r K := ARN.in h k
theorem GETN.g_ {h : Heap} {i : Nat} {K : List CVal → Bool → Option Nat → Prop} {vs : List CVal} {wr : Bool} {opn : Option Nat} (k : K vs wr opn) (g : h.get i = some (.cells vs wr opn) := by exact get_) : GETN h i K := .mk g k
theorem GETM.g_ {h : Heap} {i : Nat} {K : List (CVal × CVal) → Bool → Option (List Nat × Nat) → Prop} {es : List (CVal × CVal)} {wr : Bool} {st : Option (List Nat × Nat)} (k : K es wr st) (g : h.get i = some (.map es wr st) := by exact get_) : GETM h i K := .mk g k
theorem SETN.g_ {h : Heap} {i o n : Nat} {us : List CVal} {K : Heap → Prop} {vs : List CVal} {opn : Option Nat} (k : K (h.set i (.cells (putCells vs o us) true opn))) (g : h.get i = some (.cells vs true opn) := by exact get_) (hl : us.length = n := by rfl)
  (ho : o + n ≤ vs.length := by first | decide | (simp; done) | (simp; omega) | exact Nat.le_of_ble_eq_true rfl) : SETN h i o n us K := .mk g hl ho k
theorem LOOKN.l_ {N : Nat} {ρ : Env} {h : Heap} {n i o : Nat} {c : CX} {x : CVal} {A : Prop} {vs : List CVal} {wr : Bool} {opn : Option Nat} (k : A) (e : c.on N ρ = .ptr i o := by rfl) (g : h.get i = some (.cells vs wr opn) := by exact get_) (a : vs[o]? = some x := by rfl) : LOOKN N (.load false n c) ρ h x A := .mk (QV.load e g a) k
theorem NEWN.n_ {h : Heap} {K : Nat → Prop} {n : Nat} (k : K n) (e : h.next = n := by exact nx_) : NEWN h K := .mk e k
theorem NUMN.n_ {x : Nat} {K : Nat → Prop} {n : Nat} (k : K n) (e : x = n := by first | exact nx_ | exact Nat.add_zero _ | rfl) : NUMN x K := .mk e k
theorem DOESN.d_ {P A : Prop} (k : A) (p : P := by first | rfl | omega | (simp; done) | (simp; omega)) : DOESN P A := .mk p k
theorem BC.y_ {b : Bool} {A B : Prop} (k : A) (e : b = true := by assumption) : BC b A B := BC.yes e k
theorem BC.n_ {b : Bool} {A B : Prop} (k : B) (e : b = false := by assumption) : BC b A B := BC.no e k
theorem SOMEN.s_ {α : Type} {x : Option α} {K : α → Prop} {a : α} (k : K a) (e : x = some a := by rfl) : SOMEN x K := .mk e k
theorem mapC_ {h : Heap} {i : Nat} {es : List (CVal × CVal)} {wr : Bool} {st : Option (List Nat × Nat)} {K : List (CVal × CVal) → Prop} (k : K es) (g : h.get i = some (.map es wr st) := by exact get_) : SOMEN (mapC h (.map i)) K := .mk (by simp only [mapC, g]) k
theorem draw_ {T : Tab} {N n k : Nat} {its : List DIt} {ρ : Env} {ds : DS} {h : Heap} {Q : QT} (q : NUMN h.next fun base => wD T N base n its 0 (fun _ => Heap.empty 0) [] ρ ds (h.room k) (Q .normal)) (hn : its.length = n := by rfl) : CODEN T N (.draw its k) ρ ds h Q := drawC hn q
theorem draw0_ {T : Tab} {N n : Nat} {its : List DIt} {ρ : Env} {ds : DS} {h : Heap} {Q : QT} (q : NUMN h.next fun base => wD T N base n its 0 (fun _ => Heap.empty 0) [] ρ ds h (Q .normal)) (hn : its.length = n := by rfl) : CODEN T N (.draw its 0) ρ ds h Q := drawC0 hn q
theorem lenS_ {h : Heap} {v : CVal} {R : List Int} {K : Int → Prop} (k : K R.length) (s : RIn h v R := by assumption) : lenS v K := s.lenS k
theorem idxS_ {h : Heap} {v : CVal} {R : List Int} {i : Int} {K : Nat → Nat → Prop} (k : ∀ b o, At1 h b o (.int .i64 (R.getD i.toNat 0)) → K b o) (s : RIn h v R := by assumption) (hi : 0 ≤ i ∧ i < R.length := by omega) : idxS 1 v i K := s.idxS hi k
theorem At1.g_ {h : Heap} {b o : Nat} {x : CVal} {K : CVal → Prop} (k : K x) (s : At1 h b o x := by first | assumption | exact At1.exd (by assumption) (by exact exd_)) : GETN h b fun us _ _ => AT us o fun v => K v := s.get k
theorem At1.l_ {N : Nat} {ρ : Env} {h : Heap} {n b o : Nat} {c : CX} {x : CVal} {A : Prop} (k : A) (e : c.on N ρ = .ptr b o := by rfl) (s : At1 h b o x := by first | assumption | exact At1.exd (by assumption) (by exact exd_)) : LOOKN N (.load false n c) ρ h x A := s.look k e
theorem one_ {v : CVal} (s : v.one = true := by first | rfl | assumption | exact RIn.one (by assumption)) : v.one = true := s
theorem go {P Q : Prop} (k : Q) (s : Kp Q → P := by
 intro kp_
 (conv => whnf); (first
  | ((with_reducible show LTN _ _ _ _); (first | refine LTN.y_ ?_ | refine LTN.n_ ?_))
  | ((with_reducible show EQN _ _ _ _); (first | refine EQN.y_ ?_ | refine EQN.n_ ?_))
  | ((with_reducible show ARN _ _ _); (first | refine ARN.i_ ?_ | refine ARN.f_ ?_))
  | ((with_reducible show GETN _ _ _); (first | refine GETN.g_ ?_ | refine At1.g_ ?_))
  | ((with_reducible show SETN _ _ _ _ _ _); refine SETN.g_ ?_)
  | ((with_reducible show LOOKN _ _ _ _ _ _); (first | refine LOOKN.l_ ?_ | refine LOOKN.a_ ?_ | refine At1.l_ ?_))
  | ((with_reducible show NEWN _ _); refine NEWN.n_ ?_)
  | ((with_reducible show NUMN _ _); refine NUMN.n_ ?_)
  | ((with_reducible show DOESN _ _); refine DOESN.d_ ?_)
  | ((with_reducible show CODEN _ _ _ _ _ _ _); (first | refine draw0_ ?_ | refine draw_ ?_ | refine scopeC ?_))
  | ((with_reducible show SOMEN _ _); (first | refine SOMEN.s_ ?_ | refine mapC_ ?_))
  | ((with_reducible show GETM _ _ _); refine GETM.g_ ?_)
  | ((with_reducible show EQSN _ _ _ _); (first | refine EQSN.y_ ?_ | refine EQSN.n_ ?_))
  | ((with_reducible show QUON _ _ _ _); refine QUON.pos (by omega) ?_)
  | ((with_reducible show REMN _ _ _); (first | refine REMN.pos (by omega) ?_ | refine REMN.mk (by omega) ?_))
  | (show vK _ _; (conv => arg 1; whnf); refine vK_any ?_)
  | (show BC _ _ _; first | refine BC.y_ ?_ | refine BC.n_ ?_)
  | (show lenS _ _; (conv => arg 1; whnf); refine lenS_ ?_)
  | (show celS _ _; (conv => arg 1; whnf); refine celS_one one_ ?_)
  | (show oneS _ _; (conv => arg 1; whnf); refine oneS_of one_ ?_))
 (repeat' ((conv => whnf); (first
  | ((with_reducible show LTN _ _ _ _); (first | refine LTN.y_ ?_ | refine LTN.n_ ?_))
  | ((with_reducible show EQN _ _ _ _); (first | refine EQN.y_ ?_ | refine EQN.n_ ?_))
  | ((with_reducible show ARN _ _ _); (first | refine ARN.i_ ?_ | refine ARN.f_ ?_))
  | ((with_reducible show GETN _ _ _); (first | refine GETN.g_ ?_ | refine At1.g_ ?_))
  | ((with_reducible show SETN _ _ _ _ _ _); refine SETN.g_ ?_)
  | ((with_reducible show LOOKN _ _ _ _ _ _); (first | refine LOOKN.l_ ?_ | refine LOOKN.a_ ?_ | refine At1.l_ ?_))
  | ((with_reducible show NEWN _ _); refine NEWN.n_ ?_)
  | ((with_reducible show NUMN _ _); refine NUMN.n_ ?_)
  | ((with_reducible show DOESN _ _); refine DOESN.d_ ?_)
  | ((with_reducible show CODEN _ _ _ _ _ _ _); (first | refine draw0_ ?_ | refine draw_ ?_ | refine scopeC ?_))
  | ((with_reducible show SOMEN _ _); (first | refine SOMEN.s_ ?_ | refine mapC_ ?_))
  | ((with_reducible show GETM _ _ _); refine GETM.g_ ?_)
  | ((with_reducible show EQSN _ _ _ _); (first | refine EQSN.y_ ?_ | refine EQSN.n_ ?_))
  | ((with_reducible show QUON _ _ _ _); refine QUON.pos (by omega) ?_)
  | ((with_reducible show REMN _ _ _); (first | refine REMN.pos (by omega) ?_ | refine REMN.mk (by omega) ?_))
  | (show vK _ _; (conv => arg 1; whnf); refine vK_any ?_)
  | (show BC _ _ _; first | refine BC.y_ ?_ | refine BC.n_ ?_)
  | (show lenS _ _; (conv => arg 1; whnf); refine lenS_ ?_)
  | (show celS _ _; (conv => arg 1; whnf); refine celS_one one_ ?_)
  | (show oneS _ _; (conv => arg 1; whnf); refine oneS_of one_ ?_))))
 exact kp_.o) : P := s ⟨k⟩
theorem sp {P A B : Prop} (a : A) (b : B) (s : A → B → P := by intro a b; (conv => whnf); first | exact LTN.mk a b | exact EQN.mk a b | exact EQSN.mk a b | exact BC.split a b) : P := s a b
theorem Upd.sub {S S' : Nat → Prop} {h h' : Heap} (u : Upd S h h') (s : ∀ i, i < h.next → S i → S' i) : Upd S' h h' := ⟨u.le, fun i hi hs => u.get i hi fun h1 => hs (s i hi h1)⟩
structure El (α : Type) where
 sz : Nat
 ok : (Nat → Prop) → Heap → List CVal → α → Prop
 len : ∀ {Z : Nat → Prop} {h : Heap} {cs : List CVal} {a : α}, ok Z h cs a → cs.length = sz
 upd : ∀ {Z : Nat → Prop} {h h' : Heap} {cs : List CVal} {a : α}, Upd Z h h' → ok Z h cs a → ok Z h' cs a
 sub : ∀ {Z Z' : Nat → Prop} {h : Heap} {cs : List CVal} {a : α}, (∀ i, i < h.next → Z' i → Z i) → ok Z h cs a → ok Z' h cs a
 one : ∀ {Z : Nat → Prop} {h : Heap} {cs : List CVal} {a : α}, ok Z h cs a → cs.all CVal.one = true
def chunk (sz o : Nat) (cs : List CVal) (j : Nat) : List CVal := (cs.drop (o + j * sz)).take sz
def RSl {α : Type} (Z : Nat → Prop) (E : El α) (h : Heap) (v : CVal) (L : List α) : Prop :=
 (v = .nilSlice ∧ L = []) ∨ ∃ i o c, v = .slice i o L.length c ∧ L.length ≤ c ∧ i < h.next ∧ ¬ Z i ∧ (L = [] ∨ ∃ cs wr opn, h.get i = some (.cells cs wr opn) ∧ ∀ j (hj : j < L.length), E.ok Z h (chunk E.sz o cs j) L[j])
section
variable {α β : Type} {Z Z' : Nat → Prop} {E : El α} {F : El β} {h h' : Heap} {v : CVal} {L : List α}
theorem RSl.nil : RSl Z E h .nilSlice [] := .inl ⟨rfl, rfl⟩
theorem RSl.upd (s : RSl Z E h v L) (u : Upd Z h h') : RSl Z E h' v L := by
 rcases s with s | ⟨i, o, c, s1, sc, s2, s3, s4⟩
 ·exact .inl s
 ·exact .inr ⟨i, o, c, s1, sc, Nat.lt_of_lt_of_le s2 u.le, s3, s4.imp id fun ⟨cs, wr, opn, g, a⟩ => ⟨cs, wr, opn, (u.get i s2 s3).trans g, fun j hj => E.upd u (a j hj)⟩⟩
theorem RSl.exd (s : RSl Z E h v L) (u : Exd h h') : RSl Z E h' v L := s.upd u.upd
theorem RSl.sub (s : RSl Z E h v L) (u : ∀ i, i < h.next → Z' i → Z i) : RSl Z' E h v L := by
 rcases s with s | ⟨i, o, c, s1, sc, s2, s3, s4⟩
 ·exact .inl s
 ·exact .inr ⟨i, o, c, s1, sc, s2, fun h1 => s3 (u i s2 h1), s4.imp id fun ⟨cs, wr, opn, g, a⟩ => ⟨cs, wr, opn, g, fun j hj => E.sub u (a j hj)⟩⟩
theorem RSl.one (s : RSl Z E h v L) : v.one = true := by
 rcases s with ⟨rfl, rfl⟩ | ⟨i, o, c, rfl, _⟩ <;> rfl
theorem RSl.lenS {K : Int → Prop} (s : RSl Z E h v L) (k : K L.length) : lenS v K := by
 rcases s with ⟨rfl, rfl⟩ | ⟨i, o, c, rfl, _⟩
 ·exact k
 ·exact k
def AtN (h : Heap) (b o : Nat) (xs : List CVal) : Prop := b < h.next ∧ ∃ cs wr opn, h.get b = some (.cells cs wr opn) ∧ (cs.drop o).take xs.length = xs
theorem AtN.at {b o j : Nat} {xs : List CVal} {x : CVal} (s : AtN h b o xs) (e : xs[j]? = some x) : At1 h b (o + j) x := by
 obtain ⟨s1, cs, wr, opn, g, a⟩ := s
 refine ⟨s1, cs, wr, opn, g, ?_⟩
 have hj : j < xs.length := (List.getElem?_eq_some_iff.1 e).1
 rw [← a, List.getElem?_take, if_pos hj, List.getElem?_drop] at e
 exact e
theorem AtN.get {b o n : Nat} {xs : List CVal} {K : List CVal → Prop} (s : AtN h b o xs) (hn : xs.length = n) (k : argsK xs K) : GETN h b fun vs _ _ => argsK ((vs.drop o).take n) K := by
 subst hn
 obtain ⟨_, cs, wr, opn, g, a⟩ := s
 exact .mk g (by rw [a]; exact k)
theorem RSl.idxS {sz : Nat} {i : Int} {K : Nat → Nat → Prop} (s : RSl Z E h v L) (hz : E.sz = sz) (hi : 0 ≤ i ∧ i < L.length) (k : ∀ b o xs (hj : i.toNat < L.length), E.ok Z h xs L[i.toNat] → AtN h b o xs → K b o) : idxS sz v i K := by
 subst hz
 rcases s with ⟨rfl, rfl⟩ | ⟨b, o, c, rfl, _, hb, _, ra⟩
 ·simp at hi; omega
 ·have hj : i.toNat < L.length := by omega
  rcases ra with rfl | ⟨cs, wr, opn, g, a⟩
  ·simp at hj
  ·have := a _ hj
   have hl : (chunk E.sz o cs i.toNat).length = E.sz := E.len this
   exact ⟨hi, k _ _ _ hj this ⟨hb, cs, wr, opn, g, by rw [hl]; rfl⟩⟩
theorem RSl.src (s : RSl Z E h v L) : ∃ new, srcC h E.sz v = some (L.length, new) ∧ new.length = L.length * E.sz ∧ ∀ j (hj : j < L.length), E.ok Z h (chunk E.sz 0 new j) L[j] := by
 rcases s with ⟨rfl, rfl⟩ | ⟨b, o, c, rfl, _, hb, _, ra⟩
 ·exact ⟨[], rfl, by simp, fun j hj => by simp at hj⟩
 ·by_cases h0 : L.length = 0
  ·obtain rfl : L = [] := by simpa using h0
   exact ⟨[], by simp [srcC], by simp, fun j hj => by simp at hj⟩
  ·rcases ra with rfl | ⟨cs, wr, opn, g, a⟩
   ·simp at h0
   ·have hc : ∀ j (hj : j < L.length), chunk E.sz 0 ((cs.drop o).take (L.length * E.sz)) j = chunk E.sz o cs j := fun j hj => by
     have h1 : (j + 1) * E.sz ≤ L.length * E.sz := Nat.mul_le_mul_right _ hj
     rw [Nat.add_mul, Nat.one_mul] at h1
     rw [chunk, chunk, Nat.zero_add, List.drop_take, List.drop_drop, List.take_take, Nat.min_eq_left (by omega)]
    have hl : ((cs.drop o).take (L.length * E.sz)).length = L.length * E.sz := by
     have := E.len (a (L.length - 1) (by omega))
     have e : (L.length - 1 + 1) * E.sz = L.length * E.sz := by rw [Nat.sub_add_cancel (by omega)]
     rw [Nat.add_mul, Nat.one_mul] at e
     simp only [chunk, List.length_take, List.length_drop] at this ⊢
     have z : E.sz = 0 → L.length * E.sz = 0 := fun h => by rw [h, Nat.mul_zero]
     generalize (L.length - 1) * E.sz = A at e this
     generalize L.length * E.sz = B at e z ⊢
     generalize E.sz = C at e this z
     omega
    refine ⟨(cs.drop o).take (L.length * E.sz), ?_, hl, fun j hj => by rw [hc j hj]; exact a j hj⟩
    simp only [srcC, if_neg h0, g]
    rw [if_pos hl]
def isB (v : CVal) (i : Nat) : Prop := ∃ o l c, v = .slice i o l c
def GSl (Z : Nat → Prop) (E : El α) (h : Heap) (v : CVal) (L : List α) : Prop :=
 (∀ i, isB v i → i < h.next) ∧ ∃ cs, IsSl h v E.sz L.length cs ∧ ∀ j (hj : j < L.length), E.ok (fun i => Z i ∨ isB v i) h (chunk E.sz 0 cs j) L[j]
theorem isB_slice {i j o l c : Nat} : isB (.slice i o l c) j ↔ j = i := by
 refine ⟨fun ⟨_, _, _, e⟩ => ?_, fun e => ⟨o, l, c, by rw [e]⟩⟩
 simp only [CVal.slice.injEq] at e
 exact e.1.symm
theorem isB_nil {j : Nat} : ¬ isB .nilSlice j := fun ⟨_, _, _, e⟩ => by simp at e
theorem GSl.nil : GSl Z E h .nilSlice [] := ⟨fun i hi => (isB_nil hi).elim, [], .nil, fun j hj => by simp at hj⟩
theorem GSl.new {i : Nat} {wr : Bool} (g : h.get i = some (.cells [] wr none)) (hi : i < h.next) : GSl Z E h (.slice i 0 0 0) [] :=
 ⟨fun j hj => by rw [isB_slice] at hj; omega, [], .inr ⟨i, wr, none, rfl, by simp, g, .inl rfl⟩, fun j hj => by simp at hj⟩
theorem GSl.head (s : GSl Z E h v L) : (v = .nilSlice ∧ L = []) ∨ ∃ i, v = .slice i 0 L.length L.length ∧ i < h.next := by
 obtain ⟨s1, cs, s2, _⟩ := s
 rcases s2 with ⟨e1, e2, _⟩ | ⟨b, wr, opn, e, _⟩
 ·exact .inl ⟨e1, List.length_eq_zero_iff.1 e2⟩
 ·exact .inr ⟨b, e, s1 b (by rw [e]; exact isB_slice.2 rfl)⟩
theorem GSl.lenS {K : Int → Prop} (s : GSl Z E h v L) (k : K L.length) : lenS v K := by
 rcases s.head with ⟨rfl, rfl⟩ | ⟨i, rfl, _⟩
 ·exact k
 ·exact k
theorem GSl.one (s : GSl Z E h v L) : v.one = true := by
 rcases s.head with ⟨rfl, rfl⟩ | ⟨i, rfl, _⟩ <;> rfl
theorem GSl.upd {S : Nat → Prop} (s : GSl Z E h v L) (u : Upd S h h') (hs : ∀ i, i < h.next → S i → Z i ∧ ¬ isB v i) : GSl Z E h' v L := by
 obtain ⟨s1, cs, s2, s3⟩ := s
 refine ⟨fun i hi => Nat.lt_of_lt_of_le (s1 i hi) u.le, cs, s2.frame fun j hj => ?_, fun j hj => E.upd (u.sub fun i h1 h2 => .inl (hs i h1 h2).1) (s3 j hj)⟩
 have hb : isB v j := Classical.byContradiction fun hn => hj fun o l c e => hn ⟨o, l, c, e⟩
 exact u.get j (s1 j hb) fun h1 => (hs j (s1 j hb) h1).2 hb
theorem GSl.exd (s : GSl Z E h v L) (u : Exd h h') : GSl Z E h' v L := s.upd (S := fun _ => False) ⟨u.le, fun i hi _ => u.get i hi⟩ fun _ _ f => f.elim
theorem GSl.sub (s : GSl Z E h v L) (u : ∀ i, i < h.next → Z' i → Z i) : GSl Z' E h v L := by
 obtain ⟨s1, cs, s2, s3⟩ := s
 exact ⟨s1, cs, s2, fun j hj => E.sub (fun i hi h1 => h1.imp (u i hi) id) (s3 j hj)⟩
theorem GSl.read (s : GSl Z E h v L) (hz : ∀ i, isB v i → ¬ Z i) : RSl Z E h v L := by
 obtain ⟨s1, cs, s2, s3⟩ := s
 rcases s2 with ⟨e1, e2, _⟩ | ⟨b, wr, opn, rfl, _, g, _⟩
 ·exact .inl ⟨e1, List.length_eq_zero_iff.1 e2⟩
 ·have hb := (show isB (.slice b 0 L.length L.length) b from isB_slice.2 rfl)
  exact .inr ⟨b, 0, _, rfl, Nat.le_refl _, s1 b hb, hz b hb, .inr ⟨cs, wr, opn, g, fun j hj => E.sub (fun i _ h1 => .inl h1) (s3 j hj)⟩⟩
theorem chunk_append {sz : Nat} {cs new : List CVal} {m j : Nat} (hc : cs.length = m * sz) : chunk sz 0 (cs ++ new) j = if j < m then chunk sz 0 cs j else chunk sz 0 new (j - m) := by
 simp only [chunk, Nat.zero_add]
 split
 ·next hj =>
  have h1 : (j + 1) * sz ≤ m * sz := Nat.mul_le_mul_right _ hj
  rw [Nat.add_mul, Nat.one_mul] at h1
  rw [List.drop_append_of_le_length (by omega), List.take_append_of_le_length (by rw [List.length_drop]; omega)]
 ·next hj =>
  have h1 : m * sz ≤ j * sz := Nat.mul_le_mul_right _ (by omega)
  rw [List.drop_append, List.drop_eq_nil_of_le (by omega), List.nil_append, hc, ← Nat.sub_mul]
theorem GSl.pushW {src : CVal} {bytes : Nat} {new : List CVal} {M : List α} (s : GSl Z E h v L) (hx : srcC h E.sz src = some (M.length, new)) (hn : 0 < M.length) (hb : (L.length + M.length) * bytes ≤ 1099511627776)
  (hl : new.length = M.length * E.sz) (ho : new.all CVal.one = true) (he : ∀ j (hj : j < M.length), E.ok (fun i => Z i ∨ isB v i) h (chunk E.sz 0 new j) M[j]) :
  ∃ h2, appendC h E.sz bytes v src = some (.slice h.next 0 (L.length + M.length) (L.length + M.length), h2) ∧ Upd (isB v) h h2 ∧ h2.next = h.next + 1 ∧ GSl Z E h2 (.slice h.next 0 (L.length + M.length) (L.length + M.length)) (L ++ M) ∧ ∃ cs, h2.get h.next = some (.cells cs true (some E.sz)) := by
 obtain ⟨s1, cs, s2, s3⟩ := s
 obtain ⟨h2, ea, en, eg, ef⟩ := appendC_sl (bytes := bytes) s2 hx hn ho hb
 have u : Upd (isB v) h h2 := ⟨by omega, fun i hi hs => ef i hi fun o l c e => hs ⟨o, l, c, e⟩⟩
 have u' : Upd (fun i => Z i ∨ isB v i) h h2 := u.sub fun _ _ h => .inr h
 have sb : ∀ {xs : List CVal} {a : α}, E.ok (fun i => Z i ∨ isB v i) h xs a → E.ok (fun i => Z i ∨ isB (.slice h.next 0 (L.length + M.length) (L.length + M.length)) i) h2 xs a := fun {xs a} k => by
  refine E.sub (fun i hi h1 => ?_) (E.upd (Z := fun i => (Z i ∨ isB v i) ∨ h.next ≤ i) (h := h) ⟨u.le, fun i hi hs => u.get i hi fun h1 => hs (.inl (.inr h1))⟩ (E.sub (fun i hi h1 => h1.elim id fun h2 => absurd hi (Nat.not_lt.2 h2)) k))
  rcases h1 with h1 | h1
  ·exact .inl (.inl h1)
  ·rw [isB_slice] at h1; exact .inr (by omega)
 refine ⟨h2, ea, u, en, ⟨fun i hi => by rw [isB_slice] at hi; omega, cs ++ new, .inr ⟨h.next, true, some E.sz, by rw [List.length_append], by rw [List.length_append, List.length_append, s2.len, hl, Nat.add_mul], eg, .inr ⟨rfl, rfl⟩⟩, fun j hj => ?_⟩, _, eg⟩
 rw [chunk_append s2.len]
 rw [List.length_append] at hj
 rw [List.getElem_append]
 split
 ·next h1 => exact sb (s3 j h1)
 ·next h1 => exact sb (he _ _)
theorem GSl.push {src : CVal} {bytes : Nat} {new : List CVal} {M : List α} (s : GSl Z E h v L) (hx : srcC h E.sz src = some (M.length, new)) (hn : 0 < M.length) (hb : (L.length + M.length) * bytes ≤ 1099511627776)
  (hl : new.length = M.length * E.sz) (ho : new.all CVal.one = true) (he : ∀ j (hj : j < M.length), E.ok (fun i => Z i ∨ isB v i) h (chunk E.sz 0 new j) M[j]) :
  ∃ h2, appendC h E.sz bytes v src = some (.slice h.next 0 (L.length + M.length) (L.length + M.length), h2) ∧ Upd (isB v) h h2 ∧ h2.next = h.next + 1 ∧ GSl Z E h2 (.slice h.next 0 (L.length + M.length) (L.length + M.length)) (L ++ M) := by
 obtain ⟨h2, a, b, c, d, _⟩ := s.pushW hx hn hb hl ho he
 exact ⟨h2, a, b, c, d⟩
end
def intE : El Int where
 sz := 1
 ok := fun _ _ cs n => cs = [.int .i64 n]
 len := by rintro _ _ _ _ rfl; rfl
 upd := fun _ e => e
 sub := fun _ e => e
 one := by rintro _ _ _ _ rfl; rfl
def boolE : El Bool where
 sz := 1
 ok := fun _ _ cs n => cs = [.bool n]
 len := by rintro _ _ _ _ rfl; rfl
 upd := fun _ e => e
 sub := fun _ e => e
 one := by rintro _ _ _ _ rfl; rfl
def strE : El (List UInt8) where
 sz := 1
 ok := fun _ _ cs n => cs = [.str n]
 len := by rintro _ _ _ _ rfl; rfl
 upd := fun _ e => e
 sub := fun _ e => e
 one := by rintro _ _ _ _ rfl; rfl
def slE {α : Type} (E : El α) : El (List α) where
 sz := 1
 ok := fun Z h cs L => ∃ v, cs = [v] ∧ RSl Z E h v L
 len := by rintro _ _ _ _ ⟨v, rfl, _⟩; rfl
 upd := fun u ⟨v, e, s⟩ => ⟨v, e, s.upd u⟩
 sub := fun u ⟨v, e, s⟩ => ⟨v, e, s.sub u⟩
 one := by rintro _ _ _ _ ⟨v, rfl, s⟩; simp [s.one]
def prE {α β : Type} (E : El α) (F : El β) : El (α × β) where
 sz := E.sz + F.sz
 ok := fun Z h cs p => ∃ c d, cs = c ++ d ∧ E.ok Z h c p.1 ∧ F.ok Z h d p.2
 len := by rintro _ _ _ _ ⟨c, d, rfl, h1, h2⟩; rw [List.length_append, E.len h1, F.len h2]
 upd := fun u ⟨c, d, e, h1, h2⟩ => ⟨c, d, e, E.upd u h1, F.upd u h2⟩
 sub := fun u ⟨c, d, e, h1, h2⟩ => ⟨c, d, e, E.sub u h1, F.sub u h2⟩
 one := by rintro _ _ _ _ ⟨c, d, rfl, h1, h2⟩; rw [List.all_append, E.one h1, F.one h2]; rfl
def viaE {α β : Type} (E : El α) (f : β → α) : El β where
 sz := E.sz
 ok := fun Z h cs b => E.ok Z h cs (f b)
 len := E.len
 upd := E.upd
 sub := E.sub
 one := E.one
theorem RSl.rin {Z : Nat → Prop} {h : Heap} {v : CVal} {R : List Int} (s : RSl Z intE h v R) : RIn h v R := by
 rcases s with s | ⟨i, o, c, s1, _, s2, _, s4⟩
 ·exact .inl s
 ·refine .inr ⟨i, o, c, s1, s2, s4.imp id fun ⟨cs, wr, opn, g, a⟩ => ⟨cs, wr, opn, g, fun j hj => ?_⟩⟩
  have e : (cs.drop (o + j * 1)).take 1 = [.int .i64 R[j]] := a j hj
  have := congrArg (fun l : List CVal => l[0]?) e
  simpa [List.getElem?_take, List.getElem?_drop] using this
theorem RIn.rsl {Z : Nat → Prop} {h : Heap} {v : CVal} {R : List Int} (s : RIn h v R) (hz : ∀ i, isB v i → ¬ Z i) (hc : ∀ i o l c, v = .slice i o l c → l ≤ c) : RSl Z intE h v R := by
 rcases s with s | ⟨i, o, c, rfl, s2, s4⟩
 ·exact .inl s
 ·refine .inr ⟨i, o, c, rfl, hc _ _ _ _ rfl, s2, hz i (isB_slice.2 rfl), s4.imp id fun ⟨cs, wr, opn, g, a⟩ => ⟨cs, wr, opn, g, fun j hj => ?_⟩⟩
  have e := a j hj
  show (cs.drop (o + j * 1)).take 1 = [.int .i64 R[j]]
  refine List.ext_getElem? fun p => ?_
  rw [List.getElem?_take, List.getElem?_drop, Nat.mul_one]
  cases p with
  | zero => rw [if_pos (by omega), Nat.add_zero, e]; rfl
  | succ p => rw [if_neg (by omega)]; rfl
section
variable {α : Type} [DecidableEq α] {kt : KT} {f : α → CVal}
def delA (x : α) (L : List (α × CVal)) : List (α × CVal) := match findA x L 0 with
 | some q => L.eraseIdx q.1
 | none => L
theorem delA_cons (x : α) (e : α × CVal) (L : List (α × CVal)) : delA x (e :: L) = if x = e.1 then L else e :: delA x L := by
 unfold delA
 simp only [findA]
 by_cases h : x = e.1
 ·simp [h]
 ·rw [if_neg h, if_neg h, findA_shift]
  cases findA x L 0 with
  | none => rfl
  | some q => simp [Nat.add_comm]
theorem delA_sub {x : α} {L : List (α × CVal)} : (delA x L).Sublist L := by
 unfold delA
 split
 ·exact List.eraseIdx_sublist ..
 ·exact List.Sublist.refl _
theorem delA_nodup {x : α} {L : List (α × CVal)} (h : (L.map (·.1)).Nodup) : ((delA x L).map (·.1)).Nodup := h.sublist (delA_sub.map _)
theorem lookA_del {x y : α} : ∀ {L : List (α × CVal)}, (L.map (·.1)).Nodup → lookA y (delA x L) = if y = x then none else lookA y L
 | [], _ => by simp [delA, findA, lookA]
 | e :: L, nd => by
  obtain ⟨n1, n2⟩ := List.nodup_cons.1 nd
  rw [delA_cons]
  by_cases h : x = e.1
  ·rw [if_pos h]
   by_cases hy : y = x
   ·rw [if_pos hy, lookA_mem, hy, h]; exact n1
   ·rw [if_neg hy, lookA_cons, if_neg (fun e' => hy (e'.trans h.symm))]
  ·rw [if_neg h, lookA_cons, lookA_cons, lookA_del n2]
   by_cases hy : y = x
   ·subst hy; simp [h]
   ·simp [hy]
theorem delA_length {x : α} {v : CVal} {L : List (α × CVal)} (h : lookA x L = some v) : (delA x L).length + 1 = L.length := by
 unfold lookA at h
 unfold delA
 cases hq : findA x L 0 with
 | none => rw [hq] at h; simp at h
 | some q =>
  have := (List.getElem?_eq_some_iff.1 (findA_at hq).1).1
  simp only [List.length_eraseIdx, this, if_true]
  omega
theorem StOk.erase {st : Option (List Nat × Nat)} {n j : Nat} (s : StOk st n) (hj : j < n) : StOk (stErase st j) (n - 1) := by
 obtain ⟨bs, c, rfl, h1, h2, h3⟩ := s.ok
 refine ⟨bs.eraseIdx j, c, rfl, ?_, h2.sublist (List.eraseIdx_sublist ..), fun b m => h3 b ((List.eraseIdx_sublist ..).subset m)⟩
 rw [List.length_eraseIdx, if_pos (by omega), h1]
theorem lkT (E : KeyE kt f) {x : α} {L : List (α × CVal)} {zero v : CVal} {K : CVal → Prop} (e : lookA x L = .some v) (k : K (.tuple [v, .bool true])) : LKN kt zero true (f x) (mapE f L) K := LKN.some E e k
theorem lkF (E : KeyE kt f) {x : α} {L : List (α × CVal)} {zero v : CVal} {K : CVal → Prop} (e : lookA x L = .some v) (k : K v) : LKN kt zero false (f x) (mapE f L) K := LKN.some E e k
theorem lkNT (E : KeyE kt f) {x : α} {L : List (α × CVal)} {zero : CVal} {K : CVal → Prop} (e : lookA x L = .none) (k : K (.tuple [zero, .bool false])) : LKN kt zero true (f x) (mapE f L) K := LKN.none E e k
theorem lkNF (E : KeyE kt f) {x : α} {L : List (α × CVal)} {zero : CVal} {K : CVal → Prop} (e : lookA x L = .none) (k : K zero) : LKN kt zero false (f x) (mapE f L) K := LKN.none E e k
def MapAt (h : Heap) (m : Nat) (f : α → CVal) (L : List (α × CVal)) : Prop := ∃ st, h.get m = some (.map (mapE f L) true st) ∧ StOk st L.length ∧ (L.map (·.1)).Nodup
omit [DecidableEq α] in
theorem MapAt.new {h : Heap} {m : Nat} (g : h.get m = some (.map [] true (some ([], 0)))) : MapAt h m f ([] : List (α × CVal)) := ⟨_, g, StOk.empty, List.nodup_nil⟩
omit [DecidableEq α] in
theorem MapAt.of_get {h h' : Heap} {m : Nat} {L : List (α × CVal)} (M : MapAt h m f L) (e : h'.get m = h.get m) : MapAt h' m f L := by
 obtain ⟨st, g, r⟩ := M
 exact ⟨st, e.trans g, r⟩
omit [DecidableEq α] in
theorem MapAt.soms {h : Heap} {m : Nat} {L : List (α × CVal)} {K : List (CVal × CVal) → Prop} (M : MapAt h m f L) (k : K (mapE f L)) : SOMEN (mapC h (.map m)) K := by
 obtain ⟨st, g, _⟩ := M
 exact mapC_ k g
theorem MapAt.upn (E : KeyE kt f) {x : α} {z : CVal} {m : Nat} {L : List (α × CVal)} {st : Option (List Nat × Nat)} {h : Heap} {K : Heap → Prop} (s : StOk st L.length) (k : ∀ st', StOk st' (setA x z L).length → K (h.set m (.map (mapE f (setA x z L)) true st'))) : UPN kt m (f x) z (mapE f L) st h K :=
 UPN.gen E (k _ s.set)
omit [DecidableEq α] in
theorem MapAt.set_at {h : Heap} {m : Nat} {L : List (α × CVal)} {st : Option (List Nat × Nat)} (s : StOk st L.length) (nd : (L.map (·.1)).Nodup) : MapAt (h.set m (.map (mapE f L) true st)) m f L := ⟨st, Heap.set_at rfl, s, nd⟩
omit [DecidableEq α] in
theorem MapAt.nd {h : Heap} {m : Nat} {L : List (α × CVal)} (M : MapAt h m f L) : (L.map (·.1)).Nodup := M.elim fun _ r => r.2.2
theorem OPN.delete (E : KeyE kt f) {N : Nat} {ρ : Env} {h : Heap} {M X : CX} {m : Nat} {x : α} {L : List (α × CVal)} {K : CVal → Heap → Prop} (hm : M.on N ρ = .map m) (hx : X.on N ρ = f x) (A : MapAt h m f L)
  (k : ∀ h', (∀ i, i ≠ m → h'.get i = h.get i) → h'.next = h.next → MapAt h' m f (delA x L) → K .un h') : OPN N (.delete kt M X) ρ h K := by
 have A' := A
 obtain ⟨st, g, s, nd⟩ := A
 cases hf : findA x L 0 with
 | none =>
  have hd : delA x L = L := by simp [delA, hf]
  refine .mk (v := .un) (h' := h) ?_ (k h (fun _ _ => rfl) rfl (by rw [hd]; exact A'))
  simp only [cop, CX.on_ev, hm, hx, E.ok, g, findK_A E, hf, Bool.true_eq_false, if_false]
 | some q =>
  have hj := (List.getElem?_eq_some_iff.1 (findA_at hf).1).1
  have hd : delA x L = L.eraseIdx q.1 := by simp [delA, hf]
  have hme : (mapE f L).eraseIdx q.1 = mapE f (delA x L) := by rw [hd, mapE, mapE]; exact eraseIdx_map' _ _ _
  refine .mk (v := .un) (h' := h.set m (.map (mapE f (delA x L)) true (stErase st q.1))) ?_ (k _ (fun i hi => Heap.get_set_ne _ _ _ _ hi) (Heap.next_set ..) ⟨_, Heap.set_at rfl, ?_, delA_nodup nd⟩)
  ·simp only [cop, CX.on_ev, hm, hx, E.ok, g, findK_A E, hf, hme, Bool.true_eq_false, if_false]
  ·rw [hd, List.length_eraseIdx, if_pos hj]
   exact s.erase hj
theorem MapAt.entry (E : KeyE kt f) {N : Nat} {ρ : Env} {h : Heap} {zero : CVal} {M X : CX} {m : Nat} {x : α} {L : List (α × CVal)} {K : CVal → Heap → Prop} (hm : M.on N ρ = .map m) (hx : X.on N ρ = f x) (A : MapAt h m f L)
  (k : ∀ (j n : Nat) (L' : List (α × CVal)) (bs : List Nat) (c : Nat), L'[j]? = some (x, (lookA x L).getD zero) → L' = setA x ((lookA x L).getD zero) L → StOk (some (bs, c)) L'.length → bs[j]? = some n → bs.Nodup → (L'.map (·.1)).Nodup →
   K (.tuple [(lookA x L).getD zero, .int .i64 n]) (h.set m (.map (mapE f L') true (some (bs, c))))) : OPN N (.mapEntry kt zero M X) ρ h K := by
 obtain ⟨st, g, s, nd⟩ := A
 refine OPN.entry E hm hx g s fun j n L' st' h1 h2 ⟨bs, c, e, h3⟩ h4 => ?_
 subst e
 obtain ⟨bs', c', e, _, h5, _⟩ := h2.ok
 simp only [Option.some.injEq, Prod.mk.injEq] at e
 obtain ⟨rfl, rfl⟩ := e
 exact k j n L' bs c h1 h4 h2 h3 h5 (by rw [h4]; exact keys_setA_nodup nd)
theorem setA_at {x : α} {z z' : CVal} {L : List (α × CVal)} {j : Nat} (nd : ((setA x z' L).map (·.1)).Nodup) (h : (setA x z' L)[j]? = some (x, z')) : (setA x z' L).set j (x, z) = setA x z L := by
 unfold setA at nd h ⊢
 cases hf : findA x L 0 with
 | none =>
  rw [hf] at h nd
  simp only at h nd ⊢
  have hj : j = L.length := by
   refine Classical.byContradiction fun hne => ?_
   have hlt : j < L.length := by
    have := (List.getElem?_eq_some_iff.1 h).1
    rw [List.length_append, List.length_singleton] at this
    omega
   rw [List.getElem?_append_left hlt] at h
   exact findA_none hf (List.mem_map.2 ⟨_, List.mem_of_getElem? h, rfl⟩)
  subst hj
  simp
 | some q =>
  rw [hf] at h nd
  simp only at h nd ⊢
  have hq := (List.getElem?_eq_some_iff.1 (findA_at hf).1).1
  have hj : j = q.1 := by
   have hjl := (List.getElem?_eq_some_iff.1 h).1
   refine (List.getElem?_inj (l := (L.set q.1 (x, z')).map (·.1)) (by rw [List.length_map]; exact hjl) nd).1 ?_
   rw [List.getElem?_map, h, List.getElem?_map, List.getElem?_set]
   simp [hq]
  subst hj
  simp
theorem MapAt.store {N : Nat} {ρ : Env} {h : Heap} {M S X : CX} {m j n : Nat} {x : α} {z' : CVal} {L : List (α × CVal)} {bs : List Nat} {c : Nat} {K : CVal → Heap → Prop} (hm : M.on N ρ = .map m) (hs : S.on N ρ = .int .i64 n) (g : h.get m = some (.map (mapE f (setA x z' L)) true (some (bs, c)))) (s : StOk (some (bs, c)) (setA x z' L).length) (nb : bs.Nodup) (hb : bs[j]? = some n) (hL : (setA x z' L)[j]? = some (x, z')) (nd : ((setA x z' L).map (·.1)).Nodup)
  (k : ∀ h', (∀ i, i ≠ m → h'.get i = h.get i) → h'.next = h.next → MapAt h' m f (setA x (X.on N ρ) L) → K .un h') : OPN N (.entryStore M S X) ρ h K := by
 have e := setA_at (z := X.on N ρ) nd hL
 have sl := s
 rw [← List.length_set (i := j) (a := (x, X.on N ρ)), e] at sl
 refine OPN.estore hm hs g nb hb hL ?_
 rw [e]
 refine k _ (fun i hi => Heap.get_set_ne _ _ _ _ hi) (Heap.next_set ..) ⟨_, Heap.set_at rfl, sl, ?_⟩
 ·have e2 : (setA x (X.on N ρ) L).map (·.1) = (setA x z' L).map (·.1) := by rw [keys_setA, keys_setA]
  rw [e2]; exact nd
theorem MapAt.storeX {N : Nat} {ρ : Env} {h : Heap} {M S X : CX} {m j n : Nat} {x : α} {v z' : CVal} {L : List (α × CVal)} {bs : List Nat} {c : Nat} {K : CVal → Heap → Prop} (hm : M.on N ρ = .map m) (hs : S.on N ρ = .int .i64 n) (hX : X.on N ρ = v) (g : h.get m = some (.map (mapE f (setA x z' L)) true (some (bs, c)))) (s : StOk (some (bs, c)) (setA x z' L).length) (nb : bs.Nodup) (hb : bs[j]? = some n) (hL : (setA x z' L)[j]? = some (x, z')) (nd : ((setA x z' L).map (·.1)).Nodup)
  (k : StOk (some (bs, c)) (setA x v L).length → ((setA x v L).map (·.1)).Nodup → K .un (h.set m (.map (mapE f (setA x v L)) true (some (bs, c))))) : OPN N (.entryStore M S X) ρ h K := by
 subst hX
 have e := setA_at (z := X.on N ρ) nd hL
 have sl := s
 rw [← List.length_set (i := j) (a := (x, X.on N ρ)), e] at sl
 refine OPN.estore hm hs g nb hb hL ?_
 rw [e]
 refine k sl ?_
 have e2 : (setA x (X.on N ρ) L).map (·.1) = (setA x z' L).map (·.1) := by rw [keys_setA, keys_setA]
 rw [e2]; exact nd
theorem setA_length {x : α} {z : CVal} {L : List (α × CVal)} (h : lookA x L = none) : (setA x z L).length = L.length + 1 := by
 unfold setA
 cases hq : findA x L 0 with
 | none => simp
 | some q => simp [lookA, hq] at h
end
section
variable {α : Type} {Z Z' : Nat → Prop} {E : El α} {h h' : Heap} {v : CVal} {i : Int} {K : Nat → Nat → Prop}
theorem RSl.rowS {M : List (List α)} (s : RSl Z (slE E) h v M) (hi : 0 ≤ i ∧ i < M.length) (k : ∀ b o w, RSl Z E h w (M.getD i.toNat []) → At1 h b o w → K b o) : Cm.idxS 1 v i K :=
 s.idxS rfl hi fun b o xs hj ⟨w, e, r⟩ a => by
  subst e
  refine k b o w ?_ (by simpa using a.at (j := 0) rfl)
  rw [List.getD_eq_getElem?_getD, List.getElem?_eq_getElem hj]
  exact r
abbrev npE (E : El α) : El (Int × List α) := prE intE (slE E)
theorem RSl.pairS {M : List (Int × List α)} (s : RSl Z (npE E) h v M) (hi : 0 ≤ i ∧ i < M.length) (k : ∀ b o w, RSl Z E h w (M.getD i.toNat (0, [])).2 → At1 h b o (.int .i64 (M.getD i.toNat (0, [])).1) → At1 h b (o + 1) w → AtN h b o [.int .i64 (M.getD i.toNat (0, [])).1, w] → K b o) : Cm.idxS 2 v i K :=
 s.idxS rfl hi fun b o xs hj ⟨c, d, e, e1, w, e2, r⟩ a => by
  have e1 : c = [.int .i64 (M[i.toNat]).1] := e1
  subst e e1 e2
  have ge : M.getD i.toNat (0, []) = M[i.toNat] := by rw [List.getD_eq_getElem?_getD, List.getElem?_eq_getElem hj]; rfl
  refine k b o w (by rw [ge]; exact r) ?_ ?_ (by rw [ge]; exact a)
  ·rw [ge]; simpa using a.at (j := 0) rfl
  ·exact a.at (j := 1) rfl
theorem npE.ok {p : Int × List α} {w : CVal} (r : RSl Z E h w p.2) : (npE E).ok Z h [.int .i64 p.1, w] p := ⟨[.int .i64 p.1], [w], rfl, rfl, w, rfl, r⟩
theorem slE.ok {L : List α} {w : CVal} (r : RSl Z E h w L) : (slE E).ok Z h [w] L := ⟨w, rfl, r⟩
theorem src_one {N o n : Nat} {xs : List CVal} {wr : Bool} {opn : Option Nat} (g : h.get N = some (.cells xs wr opn)) (hx : xs.length = n) (ho : o = 0) : srcC h n (.slice N o 1 1) = some (1, xs) := by
 subst ho hx
 simp [srcC, g]
theorem chunk_one {n : Nat} {xs : List CVal} (hx : xs.length = n) : chunk n 0 xs 0 = xs := by
 subst hx
 simp [chunk]
theorem GSl.push1 {L : List α} {src : CVal} {bytes N : Nat} {xs : List CVal} {a : α} (s : GSl Z E h v L) (hx : srcC h E.sz src = some (1, xs)) (hb : (L.length + 1) * bytes ≤ 1099511627776) (he : E.ok (fun i => Z i ∨ isB v i) h xs a) (hN : h.next = N) :
  ∃ h2, appendC h E.sz bytes v src = some (.slice N 0 (L.length + 1) (L.length + 1), h2) ∧ Upd (isB v) h h2 ∧ h2.next = N + 1 ∧ GSl Z E h2 (.slice N 0 (L.length + 1) (L.length + 1)) (L ++ [a]) := by
 subst hN
 have hl := E.len he
 obtain ⟨h2, h3, h4, h5, h6⟩ := s.push (M := [a]) (bytes := bytes) hx (Nat.succ_pos _) hb (by simp [hl]) (E.one he) (fun j hj => by
  have e : j = 0 := by simpa using hj
  subst e
  rw [chunk_one hl]
  exact he)
 exact ⟨h2, h3, h4, h5, h6⟩
end
section
variable {α : Type} {Z Z' : Nat → Prop} {E : El α} {h h' : Heap} {v : CVal} {L : List α}
def GSlW (Z : Nat → Prop) (E : El α) (h : Heap) (v : CVal) (L : List α) : Prop := GSl Z E h v L ∧ ∀ b, isB v b → ∃ cs opn, h.get b = some (.cells cs true opn)
theorem append_copy {bytes N : Nat} {vs : CVal} (s : RSl Z E h vs L) (hN : h.next = N) (hb : L.length * bytes ≤ 1099511627776) :
  ∃ v' h2, appendC (h.new (.cells [] true none)) E.sz bytes (.slice N 0 0 0) vs = some (v', h2) ∧ Exd h h2 ∧ GSlW Z E h2 v' L ∧ (∀ b, isB v' b → N ≤ b ∧ b < h2.next) ∧ N < h2.next ∧ h2.next ≤ N + 2 := by
 subst hN
 have g0 : (h.new (.cells [] true none)).get h.next = some (.cells [] true none) := Heap.new_at rfl rfl
 obtain ⟨new, hs, hl, hok⟩ := (s.exd (Exd.new (o := .cells [] true none) (Exd.refl h))).src
 have G0 : GSl Z E (h.new (.cells [] true none)) (.slice h.next 0 0 0) [] := GSl.new (wr := true) g0 (by rw [Heap.next_new]; omega)
 by_cases h0 : L.length = 0
 ·obtain rfl : L = [] := by simpa using h0
  obtain rfl : new = [] := by simpa using hl
  exact ⟨_, _, appendC_none hs (.inr ⟨_, _, _, _, rfl⟩), Exd.new (Exd.refl _), ⟨G0, fun b hb => by rw [isB_slice] at hb; subst hb; exact ⟨_, _, g0⟩⟩, fun b hb => by rw [isB_slice] at hb; rw [Heap.next_new]; omega, by rw [Heap.next_new]; omega, by rw [Heap.next_new]; omega⟩
 ·have hok' : ∀ j (hj : j < L.length), E.ok (fun i => Z i ∨ isB (.slice h.next 0 0 0) i) (h.new (.cells [] true none)) (chunk E.sz 0 new j) L[j] := by
   have s2 : RSl (fun i => Z i ∨ isB (.slice h.next 0 0 0) i) E (h.new (.cells [] true none)) vs L := (s.sub fun i hi h1 => h1.elim id fun h2 => by rw [isB_slice] at h2; omega).exd (Exd.new (Exd.refl h))
   obtain ⟨new2, hs2, _, hok2⟩ := s2.src
   rw [hs] at hs2
   simp only [Option.some.injEq, Prod.mk.injEq, true_and] at hs2
   subst hs2
   exact hok2
  have ho : new.all CVal.one = true := by
   rw [List.all_eq_true]
   intro x hx
   obtain ⟨p, hp, rfl⟩ := List.getElem_of_mem hx
   have hz : 0 < E.sz := by
    rcases Nat.eq_zero_or_pos E.sz with e | e
    ·rw [hl, e, Nat.mul_zero] at hp; omega
    ·exact e
   have hj : p / E.sz < L.length := by rw [Nat.div_lt_iff_lt_mul hz]; omega
   have h1 := E.one (hok (p / E.sz) hj)
   rw [List.all_eq_true] at h1
   refine h1 _ ?_
   simp only [chunk, Nat.zero_add]
   rw [List.mem_iff_getElem?]
   refine ⟨p % E.sz, ?_⟩
   have e3 : p / E.sz * E.sz + p % E.sz = p := by rw [Nat.mul_comm]; exact Nat.div_add_mod p E.sz
   rw [List.getElem?_take, if_pos (Nat.mod_lt _ hz), List.getElem?_drop, e3, List.getElem?_eq_getElem hp]
  obtain ⟨h2, ea, u, n2, G2, cs2, g2⟩ := G0.pushW (bytes := bytes) hs (by omega) (by simpa using hb) hl ho hok'
  simp only [List.length_nil, Nat.zero_add, List.nil_append] at ea G2
  have n2' := n2
  rw [Heap.next_new] at n2'
  exact ⟨_, h2, ea, ⟨by omega, fun i hi => (u.get i (by rw [Heap.next_new]; omega) fun hb => by rw [isB_slice] at hb; omega).trans (Heap.get_new_ne _ _ _ (by omega))⟩, ⟨G2, fun b hb => by rw [isB_slice] at hb; rw [hb]; exact ⟨_, _, g2⟩⟩, fun b hb => by rw [isB_slice, Heap.next_new] at hb; omega, by omega, by omega⟩
theorem GSl.pushR {bytes : Nat} {src : CVal} {M : List α} (G : GSl Z E h v L) (s : RSl (fun i => Z i ∨ isB v i) E h src M) (hb : (L.length + M.length) * bytes ≤ 1099511627776) :
  ∃ v' h2, appendC h E.sz bytes v src = some (v', h2) ∧ Upd (isB v) h h2 ∧ h.next ≤ h2.next ∧ GSl Z E h2 v' (L ++ M) ∧ ∀ b, isB v' b → (isB v b ∨ h.next ≤ b) ∧ b < h2.next := by
 obtain ⟨new, hs, hl, hok⟩ := s.src
 by_cases h0 : M.length = 0
 ·obtain rfl : M = [] := by simpa using h0
  obtain rfl : new = [] := by simpa using hl
  have hv : v = .nilSlice ∨ ∃ i o l c, v = .slice i o l c := by
   rcases G.head with ⟨e, _⟩ | ⟨i, e, _⟩
   ·exact .inl e
   ·exact .inr ⟨_, _, _, _, e⟩
  exact ⟨v, h, appendC_none hs hv, Upd.refl _ _, Nat.le_refl _, by rw [List.append_nil]; exact G, fun b hb => ⟨.inl hb, G.1 b hb⟩⟩
 ·have ho : new.all CVal.one = true := by
   rw [List.all_eq_true]
   intro x hx
   obtain ⟨p, hp, rfl⟩ := List.getElem_of_mem hx
   have hz : 0 < E.sz := by
    rcases Nat.eq_zero_or_pos E.sz with e | e
    ·rw [hl, e, Nat.mul_zero] at hp; omega
    ·exact e
   have hj : p / E.sz < M.length := by rw [Nat.div_lt_iff_lt_mul hz]; omega
   have h1 := E.one (hok (p / E.sz) hj)
   rw [List.all_eq_true] at h1
   refine h1 _ ?_
   simp only [chunk, Nat.zero_add]
   rw [List.mem_iff_getElem?]
   refine ⟨p % E.sz, ?_⟩
   have e3 : p / E.sz * E.sz + p % E.sz = p := by rw [Nat.mul_comm]; exact Nat.div_add_mod p E.sz
   rw [List.getElem?_take, if_pos (Nat.mod_lt _ hz), List.getElem?_drop, e3, List.getElem?_eq_getElem hp]
  obtain ⟨h2, ea, u, n2, G2⟩ := G.push (bytes := bytes) hs (by omega) hb hl ho hok
  exact ⟨_, h2, ea, u, by omega, G2, fun b hb => by rw [isB_slice] at hb; exact ⟨.inr (by omega), by omega⟩⟩
theorem GSlW.store {b o n j : Nat} {us : List CVal} {a : α} {K : Heap → Prop} (s : GSlW Z E h v L) (hb : isB v b) (hj : j < L.length) (hn : E.sz = n) (ho : o = j * n) (he : E.ok (fun i => Z i ∨ isB v i) h us a)
  (k : ∀ h', GSlW Z E h' v (L.set j a) → Upd (isB v) h h' → h'.next = h.next → K h') : SETN h b o n us K := by
 subst hn ho
 obtain ⟨⟨s1, cs, s2, s3⟩, s4⟩ := s
 have hl := E.len he
 rcases s2 with ⟨rfl, _⟩ | ⟨b', wr, opn, rfl, hcl, g, r⟩
 ·exact (isB_nil hb).elim
 ·rw [isB_slice] at hb
  subst hb
  obtain ⟨cs', opn', g'⟩ := s4 b (isB_slice.2 rfl)
  rw [g] at g'
  simp only [Option.some.injEq, CObj.cells.injEq] at g'
  obtain ⟨_, rfl, _⟩ := g'
  have hm : (j + 1) * E.sz ≤ L.length * E.sz := Nat.mul_le_mul_right _ hj
  rw [Nat.add_mul, Nat.one_mul] at hm
  have u : Upd (isB (.slice b 0 L.length L.length)) h (h.set b (.cells (putCells cs (j * E.sz) us) true opn)) := Upd.set (Upd.refl _ _) (.inl (isB_slice.2 rfl))
  have pl : (putCells cs (j * E.sz) us).length = cs.length := putCells_length ..
  have pc : ∀ (us vs : List CVal) (o p : Nat), o + us.length ≤ vs.length → (putCells vs o us)[p]? = if o ≤ p ∧ p < o + us.length then us[p - o]? else vs[p]? := by
   intro us
   induction us with
   | nil => intro vs o p _; simp [putCells]; omega
   | cons x us ih =>
    intro vs o p h
    rw [List.length_cons] at h
    rw [putCells, ih _ _ _ (by rw [List.length_set]; omega), List.length_cons]
    by_cases h1 : p = o
    ·subst h1
     rw [if_neg (by omega), if_pos (by omega), List.getElem?_set, if_pos rfl, if_pos (by omega), Nat.sub_self]; rfl
    ·by_cases h2 : o + 1 ≤ p ∧ p < o + 1 + us.length
     ·rw [if_pos h2, if_pos (by omega)]
      rw [show p - o = (p - (o + 1)) + 1 by omega, List.getElem?_cons_succ]
     ·rw [if_neg h2, if_neg (by omega), List.getElem?_set, if_neg (fun e => h1 e.symm)]
  refine .mk g hl (by omega) (k _ ⟨⟨fun i hi => by rw [Heap.next_set]; rw [isB_slice] at hi; rw [hi]; exact s1 b (isB_slice.2 rfl), _, .inr ⟨b, true, opn, by rw [List.length_set], by rw [pl, List.length_set]; exact hcl, Heap.set_at rfl, r⟩, fun p hp => ?_⟩, fun i hi => ?_⟩ u (Heap.next_set ..))
  ·rw [List.length_set] at hp
   have hp2 : (p + 1) * E.sz ≤ L.length * E.sz := Nat.mul_le_mul_right _ hp
   rw [Nat.add_mul, Nat.one_mul] at hp2
   have ch : chunk E.sz 0 (putCells cs (j * E.sz) us) p = if p = j then us else chunk E.sz 0 cs p := by
    refine List.ext_getElem? fun q => ?_
    simp only [chunk, Nat.zero_add]
    rw [List.getElem?_take, List.getElem?_drop, pc _ _ _ _ (by omega)]
    by_cases hq : q < E.sz
    ·rw [if_pos hq]
     by_cases e : p = j
     ·subst e
      rw [if_pos (by omega), if_pos rfl, show p * E.sz + q - p * E.sz = q by omega]
     ·have hlt : p * E.sz + q < j * E.sz ∨ j * E.sz + E.sz ≤ p * E.sz + q := by
       rcases Nat.lt_or_ge p j with h1 | h1
       ·have := Nat.mul_le_mul_right E.sz h1
        rw [Nat.succ_mul] at this
        omega
       ·have := Nat.mul_le_mul_right E.sz (show j + 1 ≤ p by omega)
        rw [Nat.succ_mul] at this
        omega
      rw [if_neg (by omega), if_neg e, List.getElem?_take, if_pos hq, List.getElem?_drop]
    ·rw [if_neg hq]
     split
     ·rw [List.getElem?_eq_none (by omega)]
     ·rw [List.getElem?_take, if_neg hq]
   rw [ch, List.getElem_set]
   by_cases e : p = j
   ·subst e
    rw [if_pos rfl, if_pos rfl]
    exact E.upd (u.sub fun _ _ h => .inr h) he
   ·rw [if_neg e, if_neg (fun h => e h.symm)]
    exact E.upd (u.sub fun _ _ h => .inr h) (s3 p hp)
  ·rw [isB_slice] at hi
   rw [hi]
   exact ⟨_, _, Heap.set_at rfl⟩
theorem GSlW.exd (s : GSlW Z E h v L) (x : Exd h h') : GSlW Z E h' v L := ⟨s.1.exd x, fun b hb => by
 obtain ⟨cs, opn, g⟩ := s.2 b hb
 exact ⟨cs, opn, (x.get b (s.1.1 b hb)).trans g⟩⟩
theorem GSl.idxS {i : Int} {j n : Nat} {K : Nat → Nat → Prop} (s : GSl Z E h v L) (hi : i = j) (hj : j < L.length) (hn : E.sz = n) (k : ∀ b, isB v b → K b (j * n)) : Cm.idxS n v i K := by
 subst hi hn
 rcases s.head with ⟨rfl, rfl⟩ | ⟨b, rfl, _⟩
 ·simp at hj
 ·refine ⟨by omega, ?_⟩
  rw [Nat.zero_add, Int.toNat_natCast]
  exact k b (isB_slice.2 rfl)
end
theorem goS {P Q : Prop} (k : Q) (s : Kp Q → P := by
 intro kp_
 (conv => whnf); (first
  | ((with_reducible show LTN _ _ _ _); (first | refine LTN.y_ ?_ | refine LTN.n_ ?_))
  | ((with_reducible show EQN _ _ _ _); (first | refine EQN.y_ ?_ | refine EQN.n_ ?_))
  | ((with_reducible show ARN _ _ _); (first | refine ARN.i_ ?_ | refine ARN.f_ ?_))
  | ((with_reducible show GETN _ _ _); (first | refine GETN.g_ ?_ | refine At1.g_ ?_))
  | ((with_reducible show LOOKN _ _ _ _ _ _); (first | refine LOOKN.l_ ?_ | refine LOOKN.a_ ?_ | refine At1.l_ ?_))
  | ((with_reducible show NEWN _ _); refine NEWN.n_ ?_)
  | ((with_reducible show NUMN _ _); refine NUMN.n_ ?_)
  | ((with_reducible show DOESN _ _); refine DOESN.d_ ?_)
  | ((with_reducible show CODEN _ _ _ _ _ _ _); (first | refine draw0_ ?_ | refine draw_ ?_ | refine scopeC ?_))
  | ((with_reducible show SOMEN _ _); (first | refine SOMEN.s_ ?_ | refine mapC_ ?_))
  | ((with_reducible show GETM _ _ _); refine GETM.g_ ?_)
  | ((with_reducible show EQSN _ _ _ _); (first | refine EQSN.y_ ?_ | refine EQSN.n_ ?_))
  | ((with_reducible show QUON _ _ _ _); refine QUON.pos (by omega) ?_)
  | ((with_reducible show REMN _ _ _); (first | refine REMN.pos (by omega) ?_ | refine REMN.mk (by omega) ?_))
  | (show vK _ _; (conv => arg 1; whnf); refine vK_any ?_)
  | (show BC _ _ _; first | refine BC.y_ ?_ | refine BC.n_ ?_)
  | (show lenS _ _; (conv => arg 1; whnf); refine lenS_ ?_)
  | (show celS _ _; (conv => arg 1; whnf); refine celS_one one_ ?_)
  | (show oneS _ _; (conv => arg 1; whnf); refine oneS_of one_ ?_))
 (repeat' ((conv => whnf); (first
  | ((with_reducible show LTN _ _ _ _); (first | refine LTN.y_ ?_ | refine LTN.n_ ?_))
  | ((with_reducible show EQN _ _ _ _); (first | refine EQN.y_ ?_ | refine EQN.n_ ?_))
  | ((with_reducible show ARN _ _ _); (first | refine ARN.i_ ?_ | refine ARN.f_ ?_))
  | ((with_reducible show GETN _ _ _); (first | refine GETN.g_ ?_ | refine At1.g_ ?_))
  | ((with_reducible show LOOKN _ _ _ _ _ _); (first | refine LOOKN.l_ ?_ | refine LOOKN.a_ ?_ | refine At1.l_ ?_))
  | ((with_reducible show NEWN _ _); refine NEWN.n_ ?_)
  | ((with_reducible show NUMN _ _); refine NUMN.n_ ?_)
  | ((with_reducible show DOESN _ _); refine DOESN.d_ ?_)
  | ((with_reducible show CODEN _ _ _ _ _ _ _); (first | refine draw0_ ?_ | refine draw_ ?_ | refine scopeC ?_))
  | ((with_reducible show SOMEN _ _); (first | refine SOMEN.s_ ?_ | refine mapC_ ?_))
  | ((with_reducible show GETM _ _ _); refine GETM.g_ ?_)
  | ((with_reducible show EQSN _ _ _ _); (first | refine EQSN.y_ ?_ | refine EQSN.n_ ?_))
  | ((with_reducible show QUON _ _ _ _); refine QUON.pos (by omega) ?_)
  | ((with_reducible show REMN _ _ _); (first | refine REMN.pos (by omega) ?_ | refine REMN.mk (by omega) ?_))
  | (show vK _ _; (conv => arg 1; whnf); refine vK_any ?_)
  | (show BC _ _ _; first | refine BC.y_ ?_ | refine BC.n_ ?_)
  | (show lenS _ _; (conv => arg 1; whnf); refine lenS_ ?_)
  | (show celS _ _; (conv => arg 1; whnf); refine celS_one one_ ?_)
  | (show oneS _ _; (conv => arg 1; whnf); refine oneS_of one_ ?_))))
 exact kp_.o) : P := s ⟨k⟩
end Go.Proofs.YtncmoaggkdlkhaaGreat.Cm
