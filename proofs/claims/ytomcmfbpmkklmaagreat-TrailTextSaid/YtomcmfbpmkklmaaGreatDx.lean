/- Plain law: a path as text, and back. No condition. -/
import Derived.Test.YtomcmfbpmkklmaaGreatDl
import Derived.Test.YtomcmfbpmkklmaaGreatDs
import Derived.Test.YtomcmfbpmkklmaaGreatXk
import Derived.Test.YtomcmfbpmkklmaaGreatZc
namespace Go.Proofs.YtomcmfbpmkklmaaGreat
set_option maxHeartbeats 16000000
set_option linter.unusedSimpArgs false
set_option linter.unusedVariables false
set_option maxRecDepth 20000
open Go Go.Proofs Go.Vc
def agsX (n L : Nat) (m : Int) : List Ag := if 1 ≤ m ∧ m ≤ 3 then thsF n ++ (List.range n).flatMap (fun t => if m = 2 then [.fl t (-1)] else if m = 3 then (List.range L).map fun (l : Nat) => .fl t (l : Int) else []) else []
def dupB : List ByteArray → Bool
 | [] => true
 | x :: l => (l.all fun y => !decide (y = x)) && dupB l
def wordB (s : ByteArray) : Bool := (s.data.toList.all fun c => !(c == 32)) && !decide (s = bQ) && !decide (s = b0)
def namesB (l : List ByteArray) : Bool := l.all wordB && dupB l
theorem names_all : ((List.range 5).all fun n => (List.range 7).all fun L => namesB ((agsX n L 1).map nameA) && (namesB ((agsX n L 2).map nameA) && namesB ((agsX n L 3).map nameA))) = true := by kernel_rfl
theorem agsF_X {u : Un} (h : unitB u = true) (m : Int) : agsF u m = agsX u.regs.length u.init.length m := by
 unfold agsF agsX
 by_cases hm : 1 ≤ m ∧ m ≤ 3
 ·rw [if_pos ⟨h, hm⟩, if_pos hm]; rfl
 ·rw [if_neg fun q => hm q.2, if_neg hm]
theorem names_ok (u : Un) (m : Int) : namesB ((agsF u m).map nameA) = true := by
 by_cases h : unitB u = true ∧ 1 ≤ m ∧ m ≤ 3
 ·rw [agsF_X h.1]
  obtain ⟨h1, h2, _⟩ := unit_lens h.1
  have h3 := List.all_eq_true.1 (List.all_eq_true.1 names_all _ (List.mem_range.2 (show u.regs.length < 5 by omega))) _ (List.mem_range.2 (show u.init.length < 7 by omega))
  simp only [Bool.and_eq_true] at h3
  have : m = 1 ∨ m = 2 ∨ m = 3 := by omega
  rcases this with rfl | rfl | rfl
  ·exact h3.1
  ·exact h3.2.1
  ·exact h3.2.2
 ·rw [agsF_no h]; rfl
theorem dupB_at : ∀ {l : List ByteArray} {i j : Nat} {x y : ByteArray}, dupB l = true → i < j → l[i]? = some x → l[j]? = some y → decide (x = y) = false
 | [], i, j, x, y, _, _, h, _ => by simp at h
 | z :: l, i, j, x, y, hd, hij, h1, h2 => by
  simp only [dupB, Bool.and_eq_true, List.all_eq_true, Bool.not_eq_true', decide_eq_false_iff_not] at hd
  obtain ⟨j, rfl⟩ : ∃ n, j = n + 1 := ⟨j - 1, by omega⟩
  cases i with
  | zero =>
   cases h1
   exact decide_eq_false fun q => hd.1 y (List.mem_of_getElem? h2) q.symm
  | succ i => exact dupB_at (l := l) (i := i) (j := j) hd.2 (by omega) h1 h2
theorem tok_good {u : Un} {m a : Int} (h : nameM u m a ≠ b0) : tokF u m a = nameM u m a ∧ numF (agsF u m) (tokF u m a) = a ∧ wordB (tokF u m a) = true := by
 have hn := names_ok u m
 simp only [namesB, Bool.and_eq_true, List.all_eq_true] at hn
 have ht : tokF u m a = nameM u m a := by simp only [tokF, decide_eq_false h]
 rw [ht]
 cases ho : oneF u m a with
 | none => exact absurd (by simp only [nameM, ho]) h
 | some ag =>
  have hN : nameM u m a = nameA ag := by simp only [nameM, ho]
  unfold oneF at ho
  cases h0 : decide (0 ≤ a) with
  | false => rw [h0] at ho; cases ho
  | true =>
  rw [h0] at ho
  dsimp only at ho
  simp only [decide_eq_true_eq] at h0
  rw [hN]
  refine ⟨rfl, ?_, hn.1 _ (List.mem_map.2 ⟨ag, List.mem_of_getElem? ho, rfl⟩)⟩
  rw [numF_at ho (decide_eq_true rfl) fun i y hi hy => dupB_at hn.2 hi (by rw [List.getElem?_map, hy]; rfl) (by rw [List.getElem?_map, ho]; rfl)]
  omega
theorem tok_bad {u : Un} {m a : Int} (h : nameM u m a = b0) : tokF u m a = bQ ∧ numF (agsF u m) (tokF u m a) = -1 := by
 have hn := names_ok u m
 simp only [namesB, Bool.and_eq_true, List.all_eq_true] at hn
 have ht : tokF u m a = bQ := by simp only [tokF, decide_eq_true h]
 rw [ht]
 refine ⟨rfl, numF_no fun i y hy => ?_⟩
 have := hn.1 _ (List.mem_map.2 ⟨y, List.mem_of_getElem? hy, rfl⟩)
 simp only [wordB, Bool.and_eq_true, Bool.not_eq_true'] at this
 exact this.1.2
theorem tok_plain {u : Un} {m a : Int} : ∀ c, c ∈ (tokF u m a).data.toList → c ≠ 32 := by
 by_cases h : nameM u m a = b0
 ·rw [(tok_bad h).1]
  intro c hc
  have : c = 63 := by simpa [bQ] using hc
  subst this
  decide
 ·have := (tok_good h).2.2
  simp only [wordB, Bool.and_eq_true, List.all_eq_true, Bool.not_eq_true', beq_eq_false_iff_ne, ne_eq] at this
  exact fun c hc => this.1.1 c hc
def stT (u : Un) (m : Int) (p : List Int) : Nat → Nat
 | 0 => 0
 | k + 1 => stT u m p k + (tokF u m (p.getD k 0)).size + 1
def preK (u : Un) (m : Int) (p : List Int) (k : Nat) : List UInt8 := (txtK u m p k).data.toList ++ (if 0 < k then [32] else [])
theorem bapp_l (a b : ByteArray) : (a ++ b).data.toList = a.data.toList ++ b.data.toList := by simp
theorem txt_succ (u : Un) (m : Int) (p : List Int) (k : Nat) : (txtK u m p (k + 1)).data.toList = preK u m p k ++ (tokF u m (p.getD k 0)).data.toList := by
 unfold preK
 rcases Nat.eq_zero_or_pos k with rfl | h
 ·simp [txtK]
 ·simp only [txtK, decide_eq_true h, bapp_l, if_pos h]
theorem size_l (s : ByteArray) : s.data.toList.length = s.size := by rw [Array.length_toList]; rfl
theorem pre_len (u : Un) (m : Int) (p : List Int) : ∀ k, (preK u m p k).length = stT u m p k
 | 0 => by simp [preK, txtK, stT]
 | k + 1 => by
  unfold preK
  rw [List.length_append, txt_succ, List.length_append, pre_len u m p k, size_l, if_pos (by omega), stT]
  rfl
theorem txt_split (u : Un) (m : Int) (p : List Int) (k : Nat) : ∀ n, k < n → ∃ post : List UInt8, (txtK u m p n).data.toList = preK u m p k ++ ((tokF u m (p.getD k 0)).data.toList ++ post) ∧ (n = k + 1 → post = []) ∧ (k + 1 < n → ∃ X, post = 32 :: X)
 | 0, h => by omega
 | n + 1, h => by
  rcases Nat.lt_or_ge k n with hk | hk
  ·obtain ⟨post, h1, h2, h3⟩ := txt_split u m p k n hk
   refine ⟨post ++ 32 :: (tokF u m (p.getD n 0)).data.toList, ?_, fun q => by omega, fun _ => ?_⟩
   ·rw [txt_succ, preK, h1, if_pos (by omega)]
    simp
   ·rcases Nat.lt_or_ge (k + 1) n with h4 | h4
    ·obtain ⟨X, rfl⟩ := h3 h4
     exact ⟨_, rfl⟩
    ·rw [h2 (by omega)]
     exact ⟨_, rfl⟩
  ·obtain rfl : n = k := by omega
   exact ⟨[], by rw [txt_succ, List.append_nil], fun _ => rfl, fun q => by omega⟩
theorem parK_word {u : Un} {m : Int} {s : ByteArray} {A w R : List UInt8} (hs : s.data.toList = A ++ (w ++ R)) (hw : ∀ c, c ∈ w → c ≠ 32) {o : List Int} (h : parK u m s A.length = some (A.length, o)) :
  ∀ i, i ≤ w.length → parK u m s (A.length + i) = some (A.length, o)
 | 0, _ => h
 | i + 1, hi => by
  rw [← Nat.add_assoc]
  refine parK_go (parK_word hs hw h i (by omega)) (cutAt_0 ?_ ?_)
  ·rw [← size_l, hs, List.length_append, List.length_append]; omega
  ·have hg : s.data.toList.getD (A.length + i) 0 = w.getD i 0 := by
    rw [hs, List.getD_eq_getElem?_getD, List.getElem?_append_right (by omega), List.getElem?_append_left (by omega), List.getD_eq_getElem?_getD]
    congr 2
    omega
   have hm : w.getD i 0 ∈ w := getD_mem (by omega)
   have := hw _ hm
   unfold byS
   rw [hg]
   intro q
   apply this
   have q' : (w.getD i 0).toNat = 32 := by omega
   exact UInt8.toNat_inj.1 q'
theorem parK_next {u : Un} {m : Int} {s : ByteArray} {A w R : List UInt8} (hs : s.data.toList = A ++ (w ++ R)) (hw : ∀ c, c ∈ w → c ≠ 32) (hR : R = [] ∨ ∃ X, R = 32 :: X) {o : List Int} (h : parK u m s A.length = some (A.length, o)) (W : ByteArray) (hW : W.data.toList = w) :
  parK u m s (A.length + w.length + 1) = match decide (numF (agsF u m) W = -1) with | true => none | false => some (A.length + w.length + 1, o ++ [numF (agsF u m) W]) := by
 have h1 := parK_word hs hw h w.length (Nat.le_refl _)
 have hc : cutAt s (A.length + w.length) = true := by
  rcases hR with rfl | ⟨X, rfl⟩
  ·refine cutAt_e ?_
   rw [← size_l, hs]; simp
  ·refine cutAt_1 ?_ ?_
   ·rw [← size_l, hs, List.length_append, List.length_append, List.length_cons]; omega
   ·unfold byS
    rw [hs, List.getD_eq_getElem?_getD, List.getElem?_append_right (by omega), List.getElem?_append_right (by omega), show A.length + w.length - A.length - w.length = 0 by omega]
    rfl
 rw [parK_cut h1 hc]
 have he : s.extract A.length (A.length + w.length) = W := by
  apply ByteArray.ext
  apply Array.toList_inj.1
  rw [hW, ByteArray.data_extract, Array.toList_extract, List.extract_eq_take_drop, hs, List.drop_left, show A.length + w.length - A.length = w.length by omega, List.take_left]
 rw [he]
 cases decide (numF (agsF u m) W = -1) <;> rfl
theorem par_step {u : Un} {m : Int} {p : List Int} {k : Nat} (hk : k < p.length) {o : List Int} (h : parK u m (txtK u m p p.length) (stT u m p k) = some (stT u m p k, o)) :
  parK u m (txtK u m p p.length) (stT u m p (k + 1)) = match decide (numF (agsF u m) (tokF u m (p.getD k 0)) = -1) with | true => none | false => some (stT u m p (k + 1), o ++ [numF (agsF u m) (tokF u m (p.getD k 0))]) := by
 obtain ⟨post, h1, h2, h3⟩ := txt_split u m p k p.length hk
 rw [← pre_len] at h
 have := parK_next h1 tok_plain (by rcases Nat.lt_or_ge (k + 1) p.length with q | q; exact .inr (h3 q); exact .inl (h2 (by omega))) h _ rfl
 rw [pre_len, size_l] at this
 exact this
theorem par_good {u : Un} {m : Int} {p : List Int} : ∀ k, k ≤ p.length → (∀ i, i < k → nameM u m (p.getD i 0) ≠ b0) → parK u m (txtK u m p p.length) (stT u m p k) = some (stT u m p k, p.take k)
 | 0, _, _ => rfl
 | k + 1, hk, hg => by
  have h1 := par_good k (by omega) fun i hi => hg i (by omega)
  have h2 := tok_good (hg k (by omega))
  rw [par_step (by omega) h1, h2.2.1]
  have h0 : 0 ≤ p.getD k 0 := by
   have := numF_ge (agsF u m) (tokF u m (p.getD k 0))
   rcases Int.lt_or_le (p.getD k 0) 0 with q | q
   ·exfalso
    apply hg k (by omega)
    unfold nameM oneF
    rw [decide_eq_false (by omega)]
   ·exact q
  rw [decide_eq_false (by omega)]
  dsimp only
  rw [List.take_add_one, getD_at (d := 0) (show k < p.length by omega)]
  rfl
theorem txt_ne {u : Un} {m : Int} {p : List Int} (h : p ≠ []) (hg : ∀ i, i < p.length → tokF u m (p.getD i 0) ≠ b0) : txtK u m p p.length ≠ b0 := by
 cases p with
 | nil => exact absurd rfl h
 | cons x p =>
  intro q
  have h1 := txt_succ u m (x :: p) p.length
  rw [List.length_cons] at q
  rw [q] at h1
  have h2 : (tokF u m ((x :: p).getD p.length 0)).data.toList = [] := (List.append_eq_nil_iff.1 h1.symm).2
  apply hg p.length (by simp)
  apply ByteArray.ext
  apply Array.toList_inj.1
  rw [h2]
theorem tok_ne (u : Un) (m a : Int) : tokF u m a ≠ b0 := by
 by_cases h : nameM u m a = b0
 ·rw [(tok_bad h).1]; decide
 ·rw [(tok_good h).1]; exact h
theorem st_end {u : Un} {m : Int} {p : List Int} (h : p ≠ []) : stT u m p p.length = (txtK u m p p.length).size + 1 := by
 cases p with
 | nil => exact absurd rfl h
 | cons x p => rw [List.length_cons, stT, ← pre_len, ← size_l (tokF u m ((x :: p).getD p.length 0)), ← List.length_append, ← txt_succ, size_l]
theorem par_yes {u : Un} {m : Int} {p : List Int} (hg : ∀ i, i < p.length → nameM u m (p.getD i 0) ≠ b0) : parF u m (txtK u m p p.length) = some p := by
 by_cases h : p = []
 ·subst h; rfl
 ·have h1 := par_good p.length (Nat.le_refl _) hg
  rw [List.take_length] at h1
  have h2 := st_end (u := u) (m := m) h
  rw [h2] at h1
  exact parF_yes (txt_ne h fun i _ => tok_ne _ _ _) h1
theorem par_none {u : Un} {m : Int} {p : List Int} (hb : ∃ i, i < p.length ∧ nameM u m (p.getD i 0) = b0) : parF u m (txtK u m p p.length) = none := by
 obtain ⟨i, hi, hbi⟩ := hb
 have key : ∀ k, k ≤ p.length → (∃ i, i < k ∧ nameM u m (p.getD i 0) = b0) → parK u m (txtK u m p p.length) (stT u m p k) = none := by
  intro k
  induction k with
  | zero => rintro _ ⟨i, h, _⟩; omega
  | succ k ih =>
   intro hk hx
   by_cases h1 : ∃ i, i < k ∧ nameM u m (p.getD i 0) = b0
   ·have := ih (by omega) h1
    rw [stT, Nat.add_assoc]
    exact parK_no this
   ·have h2 := par_good k (by omega) fun i hi q => h1 ⟨i, hi, q⟩
    obtain ⟨i, hi, hbi⟩ := hx
    have hik : i = k := by
     rcases Nat.lt_or_ge i k with q | q
     ·exact absurd ⟨i, q, hbi⟩ h1
     ·omega
    subst hik
    rw [par_step (by omega) h2, (tok_bad hbi).2]
    rfl
 have h0 : p ≠ [] := fun q => by subst q; simp at hi
 have := key p.length (Nat.le_refl _) ⟨i, hi, hbi⟩
 rw [st_end h0] at this
 exact parF_no (txt_ne h0 fun i _ => tok_ne _ _ _) (Nat.le_refl _) this
attribute [local irreducible] retQ VCg VCw VCx
abbrev c15C (u : Un) (m r b : Int) : List D := unC u ++ [iD m, iD r, iD b]
theorem parF_len {u : Un} {m : Int} {s : ByteArray} {q : List Int} (h : parF u m s = some q) : q.length ≤ s.size + 1 := by
 unfold parF at h
 split at h
 ·cases h; exact Nat.zero_le _
 ·cases hp : parK u m s (s.size + 1) with
  | none => rw [hp] at h; cases h
  | some x => rw [hp] at h; cases h; exact (parK_at (f := x.1) (o := x.2) hp).2
theorem txt_one (u : Un) (m x : Int) : txtK u m [x] 1 = tokF u m x := by
 show b0 ++ tokF u m x = _
 apply ByteArray.ext
 apply Array.toList_inj.1
 rw [bapp_l]
 rfl
def toldB (u : Un) (m : Int) (p : List Int) (k : Nat) : Bool := (List.range k).all fun i => !decide (tokF u m (p.getD i 0) = bQ)
theorem toldB_succ (u : Un) (m : Int) (p : List Int) (k : Nat) : toldB u m p (k + 1) = (toldB u m p k && !decide (tokF u m (p.getD k 0) = bQ)) := by
 simp [toldB, List.range_succ, List.all_append]
theorem tok_q {u : Un} {m a : Int} : tokF u m a = bQ ↔ nameM u m a = b0 := by
 constructor
 ·intro h
  by_cases q : nameM u m a = b0
  ·exact q
  ·have := (tok_good q).2.2
   rw [h] at this
   exact absurd this (by decide)
 ·exact fun h => (tok_bad h).1
theorem toldB_yes {u : Un} {m : Int} {p : List Int} {k : Nat} (h : toldB u m p k = true) : ∀ i, i < k → nameM u m (p.getD i 0) ≠ b0 := fun i hi q => by
 have := List.all_eq_true.1 h i (List.mem_range.2 hi)
 rw [decide_eq_true (tok_q.2 q)] at this
 cases this
theorem toldB_no {u : Un} {m : Int} {p : List Int} {k : Nat} (h : toldB u m p k = false) : ∃ i, i < k ∧ nameM u m (p.getD i 0) = b0 := by
 simp only [toldB, List.all_eq_false, List.mem_range] at h
 obtain ⟨i, hi, h1⟩ := h
 refine ⟨i, hi, tok_q.1 ?_⟩
 simpa using h1
theorem lawText (u : Un) (m r b : Int) (p : List Int) (s : ByteArray) : Pure Tryz.prog 6 [.agg (c15C u m r b), ints p, sD s] (bD true) := by
 have cl := ulight_ok u
 have ck := known16_ok
 refine Fun.of T [.tmp 6] Tryz.func6 rfl Tryz.ntmps6 Tryz.results6 rfl (by kernel_rfl) ?_
 cases hL : lightU u with
 | false =>
  rw [hL] at cl
  repeat' first | refine vb rfl rfl rfl rfl ?_ | refine vs T rfl fun K hK => ?_; (try simp (disch := omega) only [go_sem, Nat.reduceBEq, Nat.reduceAdd, Nat.reduceLeDiff, Bool.not_false]); (first | refine hK _ _ ?_; clear hK K | refine Op1.callp rfl rfl (cl) rfl ?_; refine hK _ _ ?_; clear hK K | refine Op1.callp rfl rfl (ck) rfl ?_; refine hK _ _ ?_; clear hK K) | refine st rfl ?_ | refine sc rfl ?_ | refine nl ?_ | refine gs rfl rfl ?_ | exact ret1 T (List.nil_sublist _) ⟨rfl, rfl⟩
 | true =>
 rw [hL] at cl
 have hu := okU_light hL
 by_cases h1 : p.length ≤ 100
 case neg =>
  have e1 : decide ((p.length : Int) > 100) = true := decide_eq_true (by omega)
  repeat' first | refine vb rfl rfl rfl rfl ?_ | refine vs T rfl fun K hK => ?_; (try simp (disch := omega) only [go_sem, Nat.reduceBEq, Nat.reduceAdd, Nat.reduceLeDiff, Bool.not_true, iRs_len, e1]); (first | refine hK _ _ ?_; clear hK K | refine Op1.callp rfl rfl (cl) rfl ?_; refine hK _ _ ?_; clear hK K | refine Op1.callp rfl rfl (ck) rfl ?_; refine hK _ _ ?_; clear hK K) | refine st rfl ?_ | refine sc rfl ?_ | refine nl ?_ | refine gs rfl rfl ?_ | exact ret1 T (List.nil_sublist _) ⟨rfl, rfl⟩
 have e1 : decide ((p.length : Int) > 100) = false := decide_eq_false (by omega)
 by_cases h2 : s.size ≤ 300
 case neg =>
  have e2 : decide ((s.size : Int) > 300) = true := decide_eq_true (by omega)
  repeat' first | refine vb rfl rfl rfl rfl ?_ | refine vs T rfl fun K hK => ?_; (try simp (disch := omega) only [go_sem, Nat.reduceBEq, Nat.reduceAdd, Nat.reduceLeDiff, Bool.not_true, iRs_len, e1, e2]); (first | refine hK _ _ ?_; clear hK K | refine Op1.callp rfl rfl (cl) rfl ?_; refine hK _ _ ?_; clear hK K | refine Op1.callp rfl rfl (ck) rfl ?_; refine hK _ _ ?_; clear hK K) | refine st rfl ?_ | refine sc rfl ?_ | refine nl ?_ | refine gs rfl rfl ?_ | exact ret1 T (List.nil_sublist _) ⟨rfl, rfl⟩
 have e2 : decide ((s.size : Int) > 300) = false := decide_eq_false (by omega)
 have ct := text_ok u hu m p (by omega)
 have dt := rtext_ok u hu m p (by omega)
 have cp := parse_ok16 u hu m s (by omega)
 have dp := rparse_ok u hu m s (by omega)
 have hsz := txtK_size u m p p.length
 have cb := parse_ok16 u hu m (txtK u m p p.length) (by omega)
 have hy := par_yes (u := u) (m := m) (p := p)
 have hn := par_none (u := u) (m := m) (p := p)
 generalize txtK u m p p.length = t at *
 obtain ⟨q, e, hq, hpd⟩ : ∃ (q : List Int) (e : Int), q.length ≤ 1000000 ∧ parD (parF u m s) = .tup [ints q, iD e] := by
  cases hF : parF u m s with
  | none => exact ⟨[], 8, by simp, rfl⟩
  | some q => exact ⟨q, 0, by have := parF_len hF; omega, rfl⟩
 rw [hpd] at cp dp
 have cq := ints_ok q q hq hq
 rw [decide_eq_true rfl] at cq
 obtain ⟨q', e', hpd', hz1, hz2⟩ : ∃ (q' : List Int) (e' : Int), parD (parF u m t) = .tup [ints q', iD e'] ∧ (∀ l, parF u m t = some l → q' = l ∧ e' = 0) ∧ (parF u m t = none → e' = 8) := by
  cases hF : parF u m t with
  | none => exact ⟨[], 8, rfl, fun l h => (by cases h), fun _ => rfl⟩
  | some q => exact ⟨q, 0, rfl, fun l h => (by cases h; exact ⟨rfl, rfl⟩), fun h => (by cases h)⟩
 have cb' := cb
 rw [hpd'] at cb
 repeat' first | refine vb rfl rfl rfl rfl ?_ | refine vs T rfl fun K hK => ?_; (try simp (disch := omega) only [go_sem, Nat.reduceBEq, Nat.reduceAdd, Nat.reduceLeDiff, Bool.not_true, iRs_len, e1, e2, beq_self_eq_true, bne_self_eq_false]); (first | refine hK _ _ ?_; clear hK K | refine Op1.callp rfl rfl (cl) rfl ?_; refine hK _ _ ?_; clear hK K | refine Op1.callp rfl rfl (ct) rfl ?_; refine hK _ _ ?_; clear hK K | refine Op1.callp rfl rfl (dt) rfl ?_; refine hK _ _ ?_; clear hK K | refine Op1.callp rfl rfl (cp) rfl ?_; refine hK _ _ ?_; clear hK K | refine Op1.callp rfl rfl (dp) rfl ?_; refine hK _ _ ?_; clear hK K | refine Op1.callp rfl rfl (cq) rfl ?_; refine hK _ _ ?_; clear hK K | refine Op1.callp rfl rfl (cb) rfl ?_; refine hK _ _ ?_; clear hK K) | refine st rfl ?_ | refine sc rfl ?_ | refine nl ?_ | refine gs rfl rfl ?_
 refine VC.loop {k : Nat // k ≤ p.length} (fun k => ⟨lookD [(1, ints p), (3, .pt (c15C u m r b)), (12, ints q'), (13, iD e'), (14, bD (toldB u m p k.1)), (15, iD (k.1 : Nat))], []⟩) (fun k => p.length - k.1) ⟨0, Nat.zero_le _⟩ ?_ ?_
 ·refine Weak_subEq rfl ?_
  simp [sub, upd, toldB]
 rintro ⟨k, hk⟩
 dsimp only at hk ⊢
 rcases Nat.lt_or_ge k p.length with hlt | hge
 ·have c1 := text_ok u hu m [p.getD k 0] (by simp)
  rw [show [p.getD k 0].length = 1 from rfl, txt_one] at c1
  have hsl : ((iRs p).take (k + 1)).drop k = iRs [p.getD k 0] := by
   simp only [iRs, ← List.map_take, ← List.map_drop, List.map_cons, List.map_nil]
   rw [List.take_add_one, getD_at (d := 0) hlt, List.drop_append_of_le_length (by simp; omega)]
   simp
  have hts := toldB_succ u m p k
  repeat' first | refine dr (id := 13) T 11 (by kernel_rfl) ?_ | refine gn ?_ | (first | apply VCg.step T rfl rfl | apply exF); focus ((try simp (disch := omega) only [go_sem, Nat.reduceBEq, Nat.reduceAdd, Nat.reduceLeDiff, iRs_len, Int.toNat_natCast, toNat1, hsl, w64]); (first | exact rfl | refine ⟨?_, rfl⟩; try omega)) | refine VCg.gstep T rfl rfl rfl rfl ?_; try simp only [GB] | refine vs T rfl fun K hK => ?_; (try simp (disch := omega) only [go_sem, Nat.reduceBEq, iRs_len, w64]); (first | refine hK _ _ ?_; clear hK K | refine Op1.callp rfl rfl (c1) rfl ?_; refine hK _ _ ?_; clear hK K) | refine st rfl ?_ | refine sc rfl ?_ | refine nl ?_ | refine gs rfl rfl ?_ | with_reducible refine gsplit_intro (fun hc => ?_) (fun hc => ?_) <;> (try simp only [decide_eq_true_eq, decide_eq_false_iff_not, Int.not_lt] at hc) <;> (try (exfalso; omega))
  all_goals
   refine ⟨⟨k + 1, by omega⟩, Weak_subEq rfl ?_, by dsimp only; omega⟩
   simp [sub, upd, hts, hc, -List.getD_eq_getElem?_getD]
   try rfl
 ·obtain rfl : k = p.length := by omega
  cases hg : toldB u m p p.length with
  | true =>
   obtain ⟨rfl, rfl⟩ := hz1 _ (hy (toldB_yes hg))
   have cz := ints_ok q' q' (by omega) (by omega)
   rw [decide_eq_true rfl] at cz
   repeat' first | refine vs T rfl fun K hK => ?_; (try simp (disch := omega) only [go_sem, Nat.reduceBEq, iRs_len, Bool.not_true, beq_self_eq_true]); (first | refine hK _ _ ?_; clear hK K | refine Op1.callp rfl rfl (cz) rfl ?_; refine hK _ _ ?_; clear hK K | refine Op1.callp rfl rfl (ck) rfl ?_; refine hK _ _ ?_; clear hK K) | refine st rfl ?_ | refine sc rfl ?_ | refine nl ?_ | refine gs rfl rfl ?_ | with_reducible refine gsplit_intro (fun hc => ?_) (fun hc => ?_) <;> (try simp only [decide_eq_true_eq, decide_eq_false_iff_not, Int.not_lt] at hc) <;> (try (exfalso; omega))
   all_goals exact ret1 T (List.nil_sublist _) ⟨rfl, rfl⟩
  | false =>
   obtain rfl := hz2 (hn (toldB_no hg))
   repeat' first | refine vs T rfl fun K hK => ?_; (try simp (disch := omega) only [go_sem, Nat.reduceBEq, iRs_len, Bool.not_false, beq_self_eq_true]); (first | refine hK _ _ ?_; clear hK K | refine Op1.callp rfl rfl (ck) rfl ?_; refine hK _ _ ?_; clear hK K) | refine st rfl ?_ | refine sc rfl ?_ | refine nl ?_ | refine gs rfl rfl ?_ | with_reducible refine gsplit_intro (fun hc => ?_) (fun hc => ?_) <;> (try simp only [decide_eq_true_eq, decide_eq_false_iff_not, Int.not_lt] at hc) <;> (try (exfalso; omega))
   all_goals exact ret1 T (List.nil_sublist _) ⟨rfl, rfl⟩
open Go Go.Proofs Go.Vc Go.ChangeShapes Go.WideShapes Go.ChangeAt Go.RowKit Go.Joins
abbrev case15T : List Ty := [.int .i64, .sl [.int .i64], .sl [.int .i64], .sl [.sl insT], .int .i64, .int .i64, .int .i64]
theorem case15_all {l : List D} (h : ShL case15T l) : ∃ u m r b, l = c15C u m r b := by
 obtain ⟨_, _, rfl, ⟨md, rfl, _⟩, _, _, rfl, h1, _, _, rfl, h2, _, _, rfl, ⟨cr, rfl, _, h3⟩, _, _, rfl, ⟨m, rfl, _⟩, _, _, rfl, ⟨r, rfl, _⟩, _, _, rfl, ⟨b, rfl, _⟩, h⟩ := h
 rw [ShL] at h; subst h
 obtain ⟨i0, rfl⟩ := sh_ints h1
 obtain ⟨rg, rfl⟩ := sh_ints h2
 obtain ⟨cd, rfl⟩ := rows_all (fun l : List Ins => [.sl false 7 (insRs l)]) _ (fun r h => sh_row h) cr h3
 exact ⟨⟨md, i0, rg, cd⟩, m, r, b, rfl⟩
theorem lawTrailText_all (Ds : List D) (h : ShA [.many case15T, .one (.sl [.int .i64]), .one .str] Ds) : Pure Tryz.prog 6 Ds (bD true) := by
 obtain ⟨_, _, rfl, h1, _, _, rfl, h2, _, _, rfl, ⟨s, rfl, _⟩, h3⟩ := h
 rw [ShA] at h3; subst h3
 obtain ⟨u, m, r, b, rfl⟩ := case15_all h1
 obtain ⟨p, rfl⟩ := sh_ints h2
 exact lawText u m r b p s
set_option maxRecDepth 100000 in
theorem lifted_TrailText (os : Os) (started : os.Started) (H : Type) (enc : TypeId × Value → H) :
  ReturnsInHanded {} Tryz.checked os 6 .any (Rows.trailTextSpec.pre6 enc Tryz.prog Tryz.f6 Rows.trailTextRow.domain false) (Rows.trailTextSpec.post enc Tryz.prog Tryz.f6 false true false false) := by
 refine returnsInHanded_of_change (C := Tryz.checked) ownK started (by kernel_rfl) Tryz.func6
  (ChangeSpec.witness6 (enc := enc) (C := Tryz.checked) false ⟨#[], #[.agg #[.int .i64 0, .slice none 0 0, .slice none 0 0, .slice none 0 0, .int .i64 0, .int .i64 0, .int .i64 0], .slice none 0 0, .string ⟨#[]⟩], []⟩ 12 (by kernel_rfl) (by kernel_rfl) (by kernel_rfl) (by kernel_rfl)) ?_
 intro W base args ds gs before hval0 hW hcnd _
 have hval : ∀ (j : Nat) t v, Tryz.f6.params[j]? = some t → args[j]? = some v → Value.okWide Tryz.prog W .any base t v := hval0
 have hW' := hW
 obtain ⟨p, q, hA0, hV, rfl, hfz, hnd⟩ := hW
 have hA : DataW.TrodAll enc Tryz.prog W 0 (fun _ => true) true Tryz.f6.params.toList args.toList ds p := hA0
 obtain ⟨rfl, rfl⟩ := trodVars_none hV
 obtain ⟨Ds, hS, hR⟩ := open_args (L := live [] (fun _ => False)) (fun b hb => hb.elim id (fun h => by cases h)) _ _ _ _ [.many case15T, .one (.sl [.int .i64]), .one .str] hA
  (fun j t v h1 h2 => hval j t v (by simpa using h1) (by simpa using h2)) (by kernel_rfl)
 obtain ⟨d0, d1, d2, rfl⟩ := spine3 (trodAll_len _ _ _ _ hA)
 simp only [List.append_nil] at hW'
 have hlt : ∀ x ∈ p, x.block < W.heap.size := fun x hx => by simpa using hW'.lt x hx
 refine (calls_yes (lawTrailText_all Ds hS) W args.toList hR).mono fun e W' ⟨he, hw⟩ => ?_
 subst he
 exact ⟨_, rfl, _, _, _, [], p, [], hW', trodAll_mk1 (shut_bool Tryz.underlying4 _), shut_args (by kernel_rfl) hw _ _ _ _ (by kernel_rfl) hA hlt, rfl, hw.frame _, fun h => by cases h⟩
theorem TrailText_holds : Rows.TrailTextSaid :=
 OpenClaim.holds_of_wide 6 Tryz.f6 rfl rfl rfl rfl rfl rfl rfl ⟨rfl, rfl, rfl, rfl, rfl⟩ rfl rfl rfl rfl rfl (by kernel_rfl) Tryz.func6 (by kernel_rfl)
  (of_decide_eq_true (by kernel_rfl)) (by unfold Func.isWrapper; first | (rw [if_pos (by decide +kernel)]; kernel_rfl) | (rw [if_neg (by decide +kernel)]; exact ⟨rfl, rfl⟩))
  (fun os started H enc _ => lifted_TrailText os started H enc)
end Go.Proofs.YtomcmfbpmkklmaaGreat
