/-
  Jobs as texts: the numbers of a line.
-/
import Derived.Test.YthdeoeokjmmnbaaDoorCmSD
import Derived.Test.YthdeoeokjmmnbaaDoorCmZ
namespace Go.Proofs.YthdeoeokjmmnbaaDoor.Cm
open Go.RowKit Go.IntWalk
attribute [local irreducible] Heap.set Heap.new Heap.kill Heap.get Heap.room Cal WP

theorem atoiV_eq (s : List UInt8) : atoiV s = parseV s := by
  unfold atoiV parseV
  rw [← atoi_parse, ← atoiSat_eq]
  cases Lib.atoiAll s <;> rfl
theorem atoiP_cal {s : List UInt8} {h : Heap} {Q : CVal → Heap → Prop} (hs : s.length ≤ 281474976710656) (q : ∀ e, e = .nilIface ∨ e = .iface 80 .undef → Q (.tuple [.int .i64 (parseV s), e]) h) : Cal tt 28 [.str s] h Q :=
  atoi_cal hs fun e he => by rw [atoiV_eq]; exact q e he
theorem fieldsGoD_len : ∀ (f : Nat) (cur l : List UInt8), (Lib.fieldsGoD f cur l).length ≤ f + 1
  | 0, cur, l => by unfold Lib.fieldsGoD; split <;> simp
  | f + 1, cur, l => by
    unfold Lib.fieldsGoD
    split
    · split <;> simp
    · split
      · have := fieldsGoD_len f [] (l.drop (Lib.decodeL l).2)
        rw [List.length_append]
        split
        · simp; omega
        · simp; omega
      · have := fieldsGoD_len f (cur ++ l.take (Lib.decodeL l).2) (l.drop (Lib.decodeL l).2)
        omega
theorem fieldsGoD_mem : ∀ (f : Nat) (cur l w : List UInt8), w ∈ Lib.fieldsGoD f cur l → w.length ≤ cur.length + l.length
  | 0, cur, l, w, h => by
    unfold Lib.fieldsGoD at h
    split at h
    · simp at h
    · simp at h; subst h; omega
  | f + 1, cur, l, w, h => by
    unfold Lib.fieldsGoD at h
    split at h
    · split at h
      · simp at h
      · simp at h; subst h; omega
    · split at h
      · rcases List.mem_append.1 h with h | h
        · split at h
          · simp at h
          · simp at h; subst h; omega
        · have := fieldsGoD_mem f _ _ w h
          simp only [List.length_nil, List.length_drop] at this
          omega
      · have := fieldsGoD_mem f _ _ w h
        simp only [List.length_append, List.length_take, List.length_drop] at this
        omega
theorem fieldsD_len (s : List UInt8) : (Lib.fieldsD s).length ≤ s.length + 2 := fieldsGoD_len _ _ _
theorem fieldsD_mem {s w : List UInt8} (h : w ∈ Lib.fieldsD s) : w.length ≤ s.length := by
  have := fieldsGoD_mem _ _ _ w h
  simpa using this

def numsB (s : List UInt8) : List Int := ((Lib.fieldsD s).drop (min 1 (Lib.fieldsD s).length)).map parseV
theorem numsB_64 (s : List UInt8) : I64 (numsB s) := fun n hn => by
  obtain ⟨w, _, rfl⟩ := List.mem_map.1 hn
  exact parseV_range w
theorem numsB_length (s : List UInt8) : (numsB s).length ≤ s.length + 2 := by
  have := fieldsD_len s
  simp only [numsB, List.length_map, List.length_drop]
  omega

theorem fieldsF_cal {s : List UInt8} {F : List (List UInt8)} {n : Nat} {h : Heap} {Q : CVal → Heap → Prop} (hF : Lib.fieldsD s = F) (hs : s.length ≤ 1000000) (hn : h.next = n) (q : Q (.slice n 0 F.length F.length) (h.new (.cells (F.map .str) true none))) : Cal tt 27 [.str s] h Q := by
  subst hF; subst hn; exact fields_cal hs q

theorem Own.base {h₀ h₁ h : Heap} {v : CVal} {sz m : Nat} {cs : List CVal} (O : Own h₁ h v sz m cs) (le : h₀.next ≤ h₁.next) : Own h₀ h v sz m cs :=
  ⟨O.1, fun j o l c e => ⟨Nat.le_trans le (O.2 j o l c e).1, (O.2 j o l c e).2⟩⟩

set_option maxHeartbeats 2000000 in
theorem numbers_cal {s : List UInt8} {h : Heap} {Q : CVal → Heap → Prop} (hs : s.length ≤ 100000) (k : ∀ v h', Exd h h' → Own h h' v 1 (numsB s).length ((numsB s).map (CVal.int .i64)) → Q v h') : Cal tt 22 [.str s] h Q := by
  have lf := fieldsD_len s
  have mf : ∀ w ∈ Lib.fieldsD s, w.length ≤ 281474976710656 := fun w hw => by have := fieldsD_mem hw; omega
  have en : numsB s = ((Lib.fieldsD s).drop (min 1 (Lib.fieldsD s).length)).map parseV := rfl
  generalize numsB s = R at en k
  generalize hF : Lib.fieldsD s = F at lf mf en
  have hp : min 1 F.length ≤ F.length := Nat.min_le_right _ _
  have hpi : (min 1 (F.length : Int)) = ((min 1 F.length : Nat) : Int) := by omega
  generalize hP : min 1 F.length = p at hp hpi en
  have lR : R.length = F.length - p := by rw [en, List.length_map, List.length_drop]
  refine Cal.run rfl rfl rfl rfl ?_
  (repeat' ((conv => whnf); (first | (refine Za (fieldsF_cal hF (by omega) (by ((repeat first | apply Z1 | apply Z2 | apply Z3 | apply Z4); first | assumption | rfl)) ?_)) | (refine ZX (bounds1 (p := p) hpi hp (Nat.le_refl _)) ?_) | (refine ZA (by omega) ?_) | (refine ZB (by omega) ?_) | (refine ZC (fun _ => ?_) fun _ => ?_) | (refine ZD (by omega) ?_) | (refine ZE (by omega) ?_) | (refine ZF (fun _ => ?_) fun _ => ?_) | (refine ZG (by first | rfl | assumption) ?_) | (refine ZH (by first | decide | assumption) ?_) | (refine ZI (fun _ => ?_) fun _ => ?_) | (refine ZJ (by omega) ?_) | (refine ZK (by first | (apply u8_in; omega) | (apply i32_in; omega) | (apply u32_in; omega)) ?_) | (refine ZL (by omega) ?_) | (refine ZM (by omega) ?_) | (refine ZN (by omega) ?_) | ((first | (show GETN _ _ _; apply ZO) | (show GETM _ _ _; apply ZP) | (show SETN _ _ _ _ _ _; apply ZQ) | (show LOOKN _ _ _ _ _ _; apply ZR (QV.load rfl ?g ?hl)) | (show LOOKN _ _ _ _ _ _; apply ZR (QV.loadA rfl ?g ?hl ?ho))); (case g => ((repeat first | refine Z5 ?_ | refine Z6 (by omega) ?_ | refine Z7 (by ((repeat first | apply Z1 | apply Z2 | apply Z3 | apply Z4); first | assumption | rfl)) (by omega) ?_ | refine Z8 (by assumption) (by omega) ?_); first | assumption | exact Z9 (by omega) | exact Z0 (by ((repeat first | apply Z1 | apply Z2 | apply Z3 | apply Z4); first | assumption | rfl)) (by omega))); (try (case hl => rfl)); (try (case ho => first | rfl | (first | decide | (simp; done) | (simp; omega) | exact Nat.le_of_ble_eq_true rfl)))) | (show NEWN _ _; refine ZS (by ((repeat first | apply Z1 | apply Z2 | apply Z3 | apply Z4); first | assumption | rfl)) ?_) | (show DOESN _ _; refine ZT (by first | rfl | omega | (simp; done) | (simp; omega)) ?_) | (refine ZU (by assumption) ?_) | (refine ZV (by assumption) ?_) | (refine ZW (fun _ => ?_) fun _ => ?_) | (refine ZX (by rfl) ?_) | (refine scopeC ?_) | (refine ZZ rfl ?_) | (refine Zz rfl ?_) | (show NUMN _ _; refine ZY (by ((repeat first | apply Z1 | apply Z2 | apply Z3 | apply Z4); first | assumption | rfl)) ?_) | fail)))
  generalize hh : Heap.new (Heap.new h _) _ = h1
  have x1 : Exd h h1 := by rw [← hh]; (repeat' first | exact Exd.refl _ | assumption | refine Exd.new ?_ | refine Exd.set ?_ (by omega) | refine Exd.kill ?_ (by omega))
  have g0 : h1.get h.next = some (.cells (F.map .str) true none) := by rw [← hh]; ((repeat first | refine Z5 ?_ | refine Z6 (by omega) ?_ | refine Z7 (by ((repeat first | apply Z1 | apply Z2 | apply Z3 | apply Z4); first | assumption | rfl)) (by omega) ?_ | refine Z8 (by assumption) (by omega) ?_); first | assumption | exact Z9 (by omega) | exact Z0 (by ((repeat first | apply Z1 | apply Z2 | apply Z3 | apply Z4); first | assumption | rfl)) (by omega))
  have n1 : h1.next = h.next + 1 + 1 := by rw [← hh]; ((repeat first | apply Z1 | apply Z2 | apply Z3 | apply Z4); first | assumption | rfl)
  clear hh
  refine loopC (fun x : Nat × CVal => [(2, x.2), (13, .slice h.next (0 + p * 1) (F.length - p) (F.length - p)), (14, .int .i64 ((F.length - p : Nat) : Int)), (15, .int .i64 x.1)])
    (fun x h' => Exd h1 h' ∧ x.1 ≤ F.length - p ∧ Own h1 h' x.2 1 x.1 ((R.take x.1).map (CVal.int .i64))) (fun x => F.length - p - x.1) (0, .nilSlice) ⟨rfl, rfl, rfl, rfl, trivial⟩ ⟨Exd.refl _, Nat.zero_le _, Own.nil⟩ ?_
  rintro ⟨i, v⟩ ρ h' ⟨e, hi, O⟩
  simp only at hi O
  have xe : Exd h h' := Exd.trans x1 e
  have gF : h'.get h.next = some (.cells (F.map .str) true none) := Z8 e (by omega) g0
  by_cases hil : i < F.length - p
  rotate_left
  · obtain rfl : i = F.length - p := by omega
    rw [← lR, List.take_length] at O
    rcases O.cases with ⟨rfl, _⟩ | ⟨b, rfl, _⟩
    all_goals
    (repeat' ((conv => whnf); (first | (refine ZA (by omega) ?_) | (refine ZB (by omega) ?_) | (refine ZC (fun _ => ?_) fun _ => ?_) | (refine ZD (by omega) ?_) | (refine ZE (by omega) ?_) | (refine ZF (fun _ => ?_) fun _ => ?_) | (refine ZG (by first | rfl | assumption) ?_) | (refine ZH (by first | decide | assumption) ?_) | (refine ZI (fun _ => ?_) fun _ => ?_) | (refine ZJ (by omega) ?_) | (refine ZK (by first | (apply u8_in; omega) | (apply i32_in; omega) | (apply u32_in; omega)) ?_) | (refine ZL (by omega) ?_) | (refine ZM (by omega) ?_) | (refine ZN (by omega) ?_) | ((first | (show GETN _ _ _; apply ZO) | (show GETM _ _ _; apply ZP) | (show SETN _ _ _ _ _ _; apply ZQ) | (show LOOKN _ _ _ _ _ _; apply ZR (QV.load rfl ?g ?hl)) | (show LOOKN _ _ _ _ _ _; apply ZR (QV.loadA rfl ?g ?hl ?ho))); (case g => ((repeat first | refine Z5 ?_ | refine Z6 (by omega) ?_ | refine Z7 (by ((repeat first | apply Z1 | apply Z2 | apply Z3 | apply Z4); first | assumption | rfl)) (by omega) ?_ | refine Z8 (by assumption) (by omega) ?_); first | assumption | exact Z9 (by omega) | exact Z0 (by ((repeat first | apply Z1 | apply Z2 | apply Z3 | apply Z4); first | assumption | rfl)) (by omega))); (try (case hl => rfl)); (try (case ho => first | rfl | (first | decide | (simp; done) | (simp; omega) | exact Nat.le_of_ble_eq_true rfl)))) | (show NEWN _ _; refine ZS (by ((repeat first | apply Z1 | apply Z2 | apply Z3 | apply Z4); first | assumption | rfl)) ?_) | (show DOESN _ _; refine ZT (by first | rfl | omega | (simp; done) | (simp; omega)) ?_) | (refine ZU (by assumption) ?_) | (refine ZV (by assumption) ?_) | (refine ZW (fun _ => ?_) fun _ => ?_) | (refine ZX (by rfl) ?_) | (refine scopeC ?_) | (refine ZZ rfl ?_) | (refine Zz rfl ?_) | (show NUMN _ _; refine ZY (by ((repeat first | apply Z1 | apply Z2 | apply Z3 | apply Z4); first | assumption | rfl)) ?_) | fail)))
    exact k _ _ xe (O.base x1.le)
  have hiF : p + i < F.length := by omega
  have hiR : i < R.length := by omega
  have aF : (F.map CVal.str)[p + i]? = some (.str F[p + i]) := by simp [hiF]
  have eR : R[i] = parseV F[p + i] := by simp [en]
  have mF := mf F[p + i] (List.getElem_mem hiF)
  have rF := parseV_range F[p + i]
  have tk : (R.take (i + 1)).map (CVal.int .i64) = (R.take i).map (CVal.int .i64) ++ [.int .i64 (parseV F[p + i])] := by
    rw [List.take_add_one, List.getElem?_eq_getElem hiR, List.map_append, eR]; rfl
  have step : ∃ h2, appendC (h'.new (.cells [.int .i64 (parseV F[p + i])] true none)) 1 8 v (.slice h'.next 0 1 1) = some (.slice (h'.next + 1) 0 (i + 1) (i + 1), h2) ∧ Exd h1 h2 ∧ Own h1 h2 (.slice (h'.next + 1) 0 (i + 1) (i + 1)) 1 (i + 1) ((R.take (i + 1)).map (CVal.int .i64)) := by
    obtain ⟨h2, eb, x2, O2, n2, _⟩ := O.push (bytes := 8) e (Exd.new (Exd.refl _)) (srcC_one (h'.get_new_same (.cells [.int .i64 (parseV F[p + i])] true none)) rfl (by omega)) (by omega) rfl (by omega)
    rw [Heap.next_new] at eb O2
    rw [tk]
    exact ⟨h2, eb, x2, O2⟩
  obtain ⟨h2, eb, x2, O2⟩ := step
  rcases O.cases with ⟨rfl, _⟩ | ⟨b, rfl, _⟩
  all_goals
  (repeat' ((conv => whnf); (first | ((refine ZO gF ?_; refine AT.of (by show (F.map CVal.str)[0 + p * 1 + (i : Int).toNat * 1]? = _; rw [show 0 + p * 1 + (i : Int).toNat * 1 = p + i by omega]; exact aF) ?_)) | ((refine Za (atoiP_cal mF fun err he => ?_); rcases he with rfl | rfl)) | (refine ZX eb ?_) | (refine ZA (by omega) ?_) | (refine ZB (by omega) ?_) | (refine ZC (fun _ => ?_) fun _ => ?_) | (refine ZD (by omega) ?_) | (refine ZE (by omega) ?_) | (refine ZF (fun _ => ?_) fun _ => ?_) | (refine ZG (by first | rfl | assumption) ?_) | (refine ZH (by first | decide | assumption) ?_) | (refine ZI (fun _ => ?_) fun _ => ?_) | (refine ZJ (by omega) ?_) | (refine ZK (by first | (apply u8_in; omega) | (apply i32_in; omega) | (apply u32_in; omega)) ?_) | (refine ZL (by omega) ?_) | (refine ZM (by omega) ?_) | (refine ZN (by omega) ?_) | ((first | (show GETN _ _ _; apply ZO) | (show GETM _ _ _; apply ZP) | (show SETN _ _ _ _ _ _; apply ZQ) | (show LOOKN _ _ _ _ _ _; apply ZR (QV.load rfl ?g ?hl)) | (show LOOKN _ _ _ _ _ _; apply ZR (QV.loadA rfl ?g ?hl ?ho))); (case g => ((repeat first | refine Z5 ?_ | refine Z6 (by omega) ?_ | refine Z7 (by ((repeat first | apply Z1 | apply Z2 | apply Z3 | apply Z4); first | assumption | rfl)) (by omega) ?_ | refine Z8 (by assumption) (by omega) ?_); first | assumption | exact Z9 (by omega) | exact Z0 (by ((repeat first | apply Z1 | apply Z2 | apply Z3 | apply Z4); first | assumption | rfl)) (by omega))); (try (case hl => rfl)); (try (case ho => first | rfl | (first | decide | (simp; done) | (simp; omega) | exact Nat.le_of_ble_eq_true rfl)))) | (show NEWN _ _; refine ZS (by ((repeat first | apply Z1 | apply Z2 | apply Z3 | apply Z4); first | assumption | rfl)) ?_) | (show DOESN _ _; refine ZT (by first | rfl | omega | (simp; done) | (simp; omega)) ?_) | (refine ZU (by assumption) ?_) | (refine ZV (by assumption) ?_) | (refine ZW (fun _ => ?_) fun _ => ?_) | (refine ZX (by rfl) ?_) | (refine scopeC ?_) | (refine ZZ rfl ?_) | (refine Zz rfl ?_) | (show NUMN _ _; refine ZY (by ((repeat first | apply Z1 | apply Z2 | apply Z3 | apply Z4); first | assumption | rfl)) ?_) | fail)))
  all_goals exact ⟨rfl, (i + 1, _), ⟨rfl, rfl, rfl, rfl, trivial⟩, ⟨x2, hil, O2⟩, by show F.length - p - (i + 1) < F.length - p - i; omega⟩
end Go.Proofs.YthdeoeokjmmnbaaDoor.Cm
