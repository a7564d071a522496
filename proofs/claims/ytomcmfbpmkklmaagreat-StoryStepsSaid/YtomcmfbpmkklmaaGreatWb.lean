/- Buffers, in plain Lean: what is pushed, popped, and what stands next. No condition. -/
import Derived.Test.YtomcmfbpmkklmaaGreatWa
import Derived.Test.YtomcmfbpmkklmaaGreatK2
import Derived.Laws.StructEq
namespace Go.Proofs.YtomcmfbpmkklmaaGreat
set_option linter.unusedSimpArgs false
set_option linter.unusedVariables false
open Go Go.Proofs Go.Vc
attribute [local irreducible] retQ VCg VCw VCx
abbrev En := Int × Int
def eR (x : En) : List D := [iD x.1, iD x.2]
def eRs (b : List En) : List (List D) := b.map eR
abbrev buf (b : List En) : D := .sl false 2 (eRs b)
def iRs (l : List Int) : List (List D) := l.map fun n => [iD n]
abbrev ints (l : List Int) : D := .sl false 1 (iRs l)
def fstI (loc : Int) : List En → Option Nat
 | [] => none
 | x :: r => match decide (x.1 = loc) with | true => some 0 | false => (fstI loc r).map (· + 1)
def cntF (loc : Int) (b : List En) : Nat := b.countP fun x => decide (x.1 = loc)
def insF (e : En) : List En → List En
 | [] => [e]
 | x :: r => match decide (x.1 > e.1) with | true => e :: x :: r | false => x :: insF e r
def pushF (m : Int) (e : En) (b : List En) : List En := if m = 2 then b ++ [e] else if m = 3 then insF e b else b
def lastF (loc : Int) : List En → Option Int
 | [] => none
 | x :: r => match lastF loc r with
  | some n => some n
  | none => match decide (x.1 = loc) with | true => some x.2 | false => none
def selF (m : Int) (b : List En) (i : Nat) : Bool := (decide (m = 2) && decide (i = 0)) || (decide (m = 3) && decide (fstI ((b[i]?).getD (0, 0)).1 b = some i))
def headsK (m : Int) (b : List En) (k : Nat) : List Int := ((List.range k).filter (selF m b)).map fun i => ((b[i]?).getD (0, 0)).1
def headsF (m : Int) (b : List En) : List Int := headsK m b b.length
def nextF (m loc : Int) (b : List En) : Option Nat := if m = 3 then fstI loc b else if m = 2 ∧ b ≠ [] ∧ (loc < 0 ∨ (b.head?.map (·.1)) = some loc) then some 0 else none
theorem eRs_row (b : List En) : ∀ r, r ∈ eRs b → r.length = 2 := by
 intro r h
 obtain ⟨x, _, rfl⟩ := List.mem_map.1 h
 rfl
theorem eRs_len (b : List En) : (eRs b).length = b.length := List.length_map ..
theorem eRs_at (b : List En) (i : Nat) : (eRs b)[i]? = (b[i]?).map eR := List.getElem?_map ..
theorem eRs_flat (b : List En) : (eRs b).flatten.length = b.length * 2 := by
 induction b with
 | nil => rfl
 | cons x b ih => simp only [eRs, List.map_cons, List.flatten_cons, List.length_append, List.length_cons] at ih ⊢; rw [ih]; simp [eR]; omega
def Srt : List En → Prop
 | [] => True
 | x :: r => (∀ y, y ∈ r → x.1 ≤ y.1) ∧ Srt r
def que (loc : Int) (b : List En) : List En := b.filter fun x => decide (x.1 = loc)
theorem insF_mem (e : En) : ∀ (b : List En) (y : En), y ∈ insF e b ↔ y = e ∨ y ∈ b
 | [], y => by simp [insF]
 | x :: r, y => by
  unfold insF
  split
  ·simp
  ·simp only [List.mem_cons, insF_mem e r y]
   constructor
   ·rintro (h | h | h)
    ·exact .inr (.inl h)
    ·exact .inl h
    ·exact .inr (.inr h)
   ·rintro (h | h | h)
    ·exact .inr (.inl h)
    ·exact .inl h
    ·exact .inr (.inr h)
theorem insF_len (e : En) : ∀ b : List En, (insF e b).length = b.length + 1
 | [] => rfl
 | x :: r => by
  unfold insF
  split
  ·simp
  ·simp [insF_len e r]
theorem insF_srt (e : En) : ∀ b : List En, Srt b → Srt (insF e b)
 | [], _ => ⟨fun y h => (by cases h), trivial⟩
 | x :: r, ⟨h1, h2⟩ => by
  unfold insF
  split
  ·rename_i hx
   have hx' : x.1 > e.1 := of_decide_eq_true hx
   refine ⟨fun y hy => ?_, h1, h2⟩
   rcases List.mem_cons.1 hy with rfl | hy
   ·omega
   ·have := h1 y hy; omega
  ·rename_i hx
   have hx' : ¬ x.1 > e.1 := of_decide_eq_false hx
   refine ⟨fun y hy => ?_, insF_srt e r h2⟩
   rcases (insF_mem e r y).1 hy with rfl | hy
   ·omega
   ·exact h1 y hy
theorem insF_que (e : En) (loc : Int) : ∀ b : List En, Srt b → que loc (insF e b) = que loc b ++ que loc [e]
 | [], _ => by simp [insF, que]
 | x :: r, ⟨h1, h2⟩ => by
  unfold insF
  split
  ·rename_i hx
   have hx' : x.1 > e.1 := of_decide_eq_true hx
   have hno : e.1 = loc → que loc (x :: r) = [] := fun he => by
    rw [que, List.filter_eq_nil_iff]
    intro y hy
    have : x.1 ≤ y.1 := by
     rcases List.mem_cons.1 hy with rfl | hy
     ·exact Int.le_refl _
     ·exact h1 y hy
    simp; omega
   by_cases he : e.1 = loc
   ·rw [hno he, List.nil_append]
    show que loc (e :: x :: r) = _
    have : que loc (e :: x :: r) = que loc [e] ++ que loc (x :: r) := by rw [que, que, que, ← List.filter_append]; rfl
    rw [this, hno he, List.append_nil]
   ·have e1 : que loc [e] = [] := by simp [que, he]
    have e2 : que loc (e :: x :: r) = que loc (x :: r) := by simp [que, he]
    rw [e1, e2, List.append_nil]
  ·have : que loc (x :: insF e r) = que loc [x] ++ que loc (insF e r) := by rw [que, que, que, ← List.filter_append]; rfl
   rw [this, insF_que e loc r h2, ← List.append_assoc]
   congr 1
   rw [que, que, que, ← List.filter_append]; rfl
def SameQ (a b : List En) : Prop := ∀ loc, que loc a = que loc b
theorem SameQ.nil {b : List En} (h : SameQ [] b) : b = [] := by
 cases b with
 | nil => rfl
 | cons x r =>
  have := h x.1
  simp [que] at this
theorem que_append (loc : Int) (a b : List En) : que loc (a ++ b) = que loc a ++ que loc b := List.filter_append ..
theorem fstI_none {loc : Int} : ∀ {b : List En}, fstI loc b = none → que loc b = []
 | [], _ => rfl
 | x :: r, h => by
  unfold fstI at h
  split at h
  ·cases h
  ·rename_i hx
   have := fstI_none (Option.map_eq_none_iff.1 h)
   rw [que, List.filter_cons, hx]
   simpa [que] using this
theorem fstI_some {loc : Int} : ∀ {b : List En} {i : Nat}, fstI loc b = some i → ∃ x p q, b = p ++ x :: q ∧ p.length = i ∧ x.1 = loc ∧ que loc p = []
 | [], i, h => by simp [fstI] at h
 | x :: r, i, h => by
  unfold fstI at h
  split at h
  ·rename_i hx
   obtain rfl := Option.some.inj h
   exact ⟨x, [], r, rfl, rfl, of_decide_eq_true hx, rfl⟩
  ·rename_i hx
   obtain ⟨j, hj, rfl⟩ := Option.map_eq_some_iff.1 h
   obtain ⟨y, p, q, rfl, h1, h2, h3⟩ := fstI_some hj
   exact ⟨y, x :: p, q, rfl, by simp [h1], h2, by rw [que, List.filter_cons, hx]; simpa [que] using h3⟩
theorem fstI_lt {loc : Int} {b : List En} {i : Nat} (h : fstI loc b = some i) : i < b.length := by
 obtain ⟨x, p, q, rfl, rfl, _⟩ := fstI_some h
 simp
theorem SameQ.cut {a b : List En} {loc : Int} {i j : Nat} (h : SameQ a b) (hi : fstI loc a = some i) (hj : fstI loc b = some j) : a[i]? = b[j]? ∧ SameQ (a.take i ++ a.drop (i + 1)) (b.take j ++ b.drop (j + 1)) := by
 obtain ⟨x, p, q, rfl, rfl, h1, h2⟩ := fstI_some hi
 obtain ⟨y, p', q', rfl, rfl, h3, h4⟩ := fstI_some hj
 have hx : que loc (x :: q) = x :: que loc q := by rw [que, List.filter_cons]; simp [h1, que]
 have hy : que loc (y :: q') = y :: que loc q' := by rw [que, List.filter_cons]; simp [h3, que]
 have hq := h loc
 rw [que_append, que_append, h2, h4, hx, hy, List.nil_append, List.nil_append, List.cons.injEq] at hq
 obtain ⟨rfl, hq⟩ := hq
 refine ⟨by simp, fun l => ?_⟩
 have e1 : (p ++ x :: q).take p.length ++ (p ++ x :: q).drop (p.length + 1) = p ++ q := by simp [List.drop_append]
 have e2 : (p' ++ x :: q').take p'.length ++ (p' ++ x :: q').drop (p'.length + 1) = p' ++ q' := by simp [List.drop_append]
 rw [e1, e2, que_append, que_append]
 by_cases hl : l = loc
 ·subst hl; rw [h2, h4, hq]
 ·have hh := h l
  have hxl : ∀ q : List En, que l (x :: q) = que l q := fun q => by rw [que, List.filter_cons]; simp [h1, Ne.symm hl, que]
  rwa [que_append, que_append, hxl, hxl] at hh
theorem Weak_subEq {env : Nat → D} {env' : List (Nat × D)} {H H' : Heap} (hh : H = H') (h : Vc.sub env env') : Weak ⟨env, H⟩ ⟨lookD env', H'⟩ := hh ▸ Weak.sub h
theorem Weak_subH {env : Nat → D} {env' : List (Nat × D)} {x : Nat × HC} {H H' : Heap} (hh : H = H') (h : Vc.sub env env') : Weak ⟨env, x :: H⟩ ⟨lookD env', H'⟩ := Weak.subH (hh ▸ List.sublist_cons_self _ _) h
theorem VC_gok {P : Program} {n : Nat} {c : Code} {s : St} {Q : Exit → St → Prop} {t m : Nat} {g : Option (Nat × Nat)} (ht : s.env t = .gs g m) (h : gOk g m → VC P n c s Q) : VC P n c s Q := fun x a w hn hs =>
 h (by have := hs.env t; rw [ht, Rel] at this; exact this.2) x a w hn hs
theorem eq25 (a b a' b' : Int) : EqS Tryz.prog 127 [.int .i64 a, .int .i64 b] [.int .i64 a', .int .i64 b'] (a == a' && b == b') := by
 refine ⟨by kernel_rfl, fun w => ?_⟩
 have u3 := Tryz.underlying3
 have a3 := Tryz.isAgg3
 have z3 := Tryz.sizeOf3
 have hS : Tryz.prog.underlying 127 = some (.struct (Tryz.prog.fieldsOf 127)) := by kernel_rfl
 have hp : Tryz.prog.stoodInHeld 127 = false := by kernel_rfl
 rw [show (10000 : Nat) = 9999 + 1 from rfl, run_equalIn_agg w 9999 127 _ _ hS hp]
 simp only [Program.fieldsOf, Tryz.underlying127]
 go_simp
 by_cases h1 : a = a' <;> by_cases h2 : b = b' <;> simp [h1, h2]
theorem fstI_at {loc : Int} : ∀ {b : List En} {k : Nat} {x : En}, b[k]? = some x → x.1 = loc → (∀ i y, i < k → b[i]? = some y → y.1 ≠ loc) → fstI loc b = some k
 | x0 :: r, 0, x, h, hx, _ => by
  obtain rfl : x0 = x := by simpa using h
  simp [fstI, hx]
 | x0 :: r, k + 1, x, h, hx, hno => by
  have h0 : x0.1 ≠ loc := hno 0 x0 (by omega) rfl
  have := fstI_at (b := r) (k := k) (by simpa using h) hx fun i y hi hy => hno (i + 1) y (by omega) (by simpa using hy)
  simp [fstI, h0, this]
theorem fstI_no {loc : Int} : ∀ {b : List En}, (∀ (i : Nat) (y : En), b[i]? = some y → y.1 ≠ loc) → fstI loc b = none
 | [], _ => rfl
 | x0 :: r, hno => by
  have h0 : x0.1 ≠ loc := hno 0 x0 rfl
  have := fstI_no (b := r) fun i y hy => hno (i + 1) y (by simpa using hy)
  simp [fstI, h0, this]
def idxI : Option Nat → Int
 | some k => k
 | none => -1
theorem first_ok (b : List En) (hb : b.length ≤ 1000000) (loc : Int) : Pure Tryz.prog 244 [buf b, iD loc] (iD (idxI (fstI loc b))) := by
 refine Fun.of T [.tmp 4] Tryz.func244 rfl Tryz.ntmps244 Tryz.results244 rfl (by kernel_rfl) ?_
 repeat' first | refine vs T rfl fun K hK => ?_; (try simp (disch := omega) only [go_sem, Nat.reduceBEq]); (refine hK _ _ ?_; clear hK K) | refine st rfl ?_ | refine nl ?_
 refine VC.loop {k : Nat // k ≤ b.length ∧ ∀ i y, i < k → b[i]? = some y → y.1 ≠ loc} (fun p => ⟨lookD [(1, iD loc), (7, buf b), (8, iD (b.length : Nat)), (9, iD (p.1 : Nat))], []⟩) (fun p => b.length - p.1) ⟨0, by omega, fun i y hi => by omega⟩ ?_ ?_
 ·refine Weak.sub ?_
  simp [sub, upd, eRs]
 ·rintro ⟨k, hk, hno⟩
  dsimp only
  rcases Nat.lt_or_ge k b.length with hlt | hge
  ·have hd : decide ((k : Int) < (b.length : Int)) = true := by simp; omega
   have hw : IntKind.i64.wrap ((k : Int) + 1) = ((k + 1 : Nat) : Int) := by rw [w64 (by omega)]; omega
   obtain ⟨x, hx⟩ : ∃ x, b[k]? = some x := ⟨_, List.getElem?_eq_getElem hlt⟩
   have hrow : (eRs b)[k]? = some [iD x.1, iD x.2] := by rw [eRs_at, hx]; rfl
   by_cases he : x.1 = loc
   ·have he' : (x.1 == loc) = true := by simpa using he
    have hf := fstI_at hx he hno
    repeat' first | refine vs T rfl fun K hK => ?_; (try simp (disch := omega) only [go_sem, Nat.reduceBEq, Nat.reduceAdd, Nat.reduceLeDiff, hd, hrow, he', eRs_len]); (first | refine hK _ _ ?_; clear hK K | intro bq hbq; (try simp only [HB] at hbq); refine hK _ _ ?_; clear hK K | refine ⟨?_, hK _ _ ?_⟩ <;> clear hK K; focus (try omega)) | refine st rfl ?_ | refine sc rfl ?_ | refine nl ?_ | refine ret1 T (List.nil_sublist _) ?_; (try simp only [upd, Nat.reduceBEq, cond_true, cond_false, and_true, hf, idxI])
   ·have he' : (x.1 == loc) = false := by simpa using he
    repeat' first | refine vs T rfl fun K hK => ?_; (try simp (disch := omega) only [go_sem, Nat.reduceBEq, Nat.reduceAdd, Nat.reduceLeDiff, hd, hw, hrow, he', eRs_len]); (first | refine hK _ _ ?_; clear hK K | intro bq hbq; (try simp only [HB] at hbq); refine hK _ _ ?_; clear hK K | refine ⟨?_, hK _ _ ?_⟩ <;> clear hK K; focus (try omega)) | refine st rfl ?_ | refine sc rfl ?_ | refine nl ?_
    refine ⟨⟨k + 1, by omega, fun i y hi hy => ?_⟩, Weak_subH rfl ?_, by simp only []; omega⟩
    ·rcases Nat.lt_or_ge i k with h' | h'
     ·exact hno i y h' hy
     ·obtain rfl : i = k := by omega
      rw [hx] at hy; cases hy; exact he
    ·simp [sub, upd]
  ·have hd : decide ((k : Int) < (b.length : Int)) = false := by simp; omega
   have hf : fstI loc b = none := fstI_no fun i y hy => hno i y (by have := (List.getElem?_eq_some_iff.1 hy).1; omega) hy
   repeat' first | refine vs T rfl fun K hK => ?_; (try simp (disch := omega) only [go_sem, Nat.reduceBEq, hd]); (refine hK _ _ ?_; clear hK K) | refine st rfl ?_ | refine sc rfl ?_ | refine nl ?_ | refine ret1 T (List.nil_sublist _) ?_; (try simp only [upd, Nat.reduceBEq, cond_true, cond_false, and_true, hf, idxI])
theorem count_ok (b : List En) (hb : b.length ≤ 1000000) (loc : Int) : Pure Tryz.prog 123 [buf b, iD loc] (iD (cntF loc b : Nat)) := by
 refine Fun.of T [.tmp 4] Tryz.func123 rfl Tryz.ntmps123 Tryz.results123 rfl (by kernel_rfl) ?_
 repeat' first | refine vs T rfl fun K hK => ?_; (try simp (disch := omega) only [go_sem, Nat.reduceBEq]); (refine hK _ _ ?_; clear hK K) | refine st rfl ?_ | refine nl ?_
 refine VC.loop {k : Nat // k ≤ b.length} (fun p => ⟨lookD [(1, iD loc), (5, iD (cntF loc (b.take p.1) : Nat)), (8, buf b), (9, iD (b.length : Nat)), (10, iD (p.1 : Nat))], []⟩) (fun p => b.length - p.1) ⟨0, by omega⟩ ?_ ?_
 ·refine Weak.sub ?_
  simp [sub, upd, eRs, cntF]
 ·rintro ⟨k, hk⟩
  dsimp only
  have hc : cntF loc (b.take k) ≤ b.length := Nat.le_trans List.countP_le_length (by rw [List.length_take]; omega)
  rcases Nat.lt_or_ge k b.length with hlt | hge
  ·have hd : decide ((k : Int) < (b.length : Int)) = true := by simp; omega
   have hw : IntKind.i64.wrap ((k : Int) + 1) = ((k + 1 : Nat) : Int) := by rw [w64 (by omega)]; omega
   have hw2 : IntKind.i64.wrap ((cntF loc (b.take k) : Nat) + 1 : Int) = ((cntF loc (b.take k) + 1 : Nat) : Int) := by rw [w64 (by omega)]; omega
   obtain ⟨x, hx⟩ : ∃ x, b[k]? = some x := ⟨_, List.getElem?_eq_getElem hlt⟩
   have hrow : (eRs b)[k]? = some [iD x.1, iD x.2] := by rw [eRs_at, hx]; rfl
   have ht : b.take (k + 1) = b.take k ++ [x] := by rw [List.take_add_one, hx]; rfl
   by_cases he : x.1 = loc
   ·have he' : (x.1 == loc) = true := by simpa using he
    have hn : cntF loc (b.take (k + 1)) = cntF loc (b.take k) + 1 := by rw [ht, cntF, List.countP_append]; simp [he, cntF]
    repeat' first | refine vs T rfl fun K hK => ?_; (try simp (disch := omega) only [go_sem, Nat.reduceBEq, Nat.reduceAdd, Nat.reduceLeDiff, hd, hw, hw2, hrow, he', eRs_len]); (first | refine hK _ _ ?_; clear hK K | intro bq hbq; (try simp only [HB] at hbq); refine hK _ _ ?_; clear hK K | refine ⟨?_, hK _ _ ?_⟩ <;> clear hK K; focus (try omega)) | refine st rfl ?_ | refine sc rfl ?_ | refine nl ?_
    refine ⟨⟨k + 1, by omega⟩, Weak_subH rfl ?_, by simp only []; omega⟩
    simp [sub, upd, hn]
   ·have he' : (x.1 == loc) = false := by simpa using he
    have hn : cntF loc (b.take (k + 1)) = cntF loc (b.take k) := by rw [ht, cntF, List.countP_append]; simp [he, cntF]
    repeat' first | refine vs T rfl fun K hK => ?_; (try simp (disch := omega) only [go_sem, Nat.reduceBEq, Nat.reduceAdd, Nat.reduceLeDiff, hd, hw, hrow, he', eRs_len]); (first | refine hK _ _ ?_; clear hK K | intro bq hbq; (try simp only [HB] at hbq); refine hK _ _ ?_; clear hK K | refine ⟨?_, hK _ _ ?_⟩ <;> clear hK K; focus (try omega)) | refine st rfl ?_ | refine sc rfl ?_ | refine nl ?_
    refine ⟨⟨k + 1, by omega⟩, Weak_subH rfl ?_, by simp only []; omega⟩
    simp [sub, upd, hn]
  ·have hd : decide ((k : Int) < (b.length : Int)) = false := by simp; omega
   have ht : b.take k = b := List.take_of_length_le hge
   repeat' first | refine vs T rfl fun K hK => ?_; (try simp (disch := omega) only [go_sem, Nat.reduceBEq, hd, ht]); (refine hK _ _ ?_; clear hK K) | refine st rfl ?_ | refine sc rfl ?_ | refine nl ?_ | exact ret1 T (List.nil_sublist _) ⟨rfl, rfl⟩
def roomF (m r loc : Int) (b : List En) : Bool := if m = 2 then decide ((b.length : Int) < r) else if m = 3 then decide (((cntF loc b : Nat) : Int) < r) else false
theorem room_ok (b : List En) (hb : b.length ≤ 1000000) (m r loc : Int) : Pure Tryz.prog 224 [buf b, iD m, iD r, iD loc] (bD (roomF m r loc b)) := by
 refine Fun.of T [.tmp 8] Tryz.func224 rfl Tryz.ntmps224 Tryz.results224 rfl (by kernel_rfl) ?_
 by_cases h2 : m = 2
 ·subst h2
  repeat' first | refine vs T rfl fun K hK => ?_; (try simp (disch := omega) only [go_sem, Nat.reduceBEq, Nat.reduceAdd, eRs_len]); (refine hK _ _ ?_; clear hK K) | refine st rfl ?_ | refine sc rfl ?_ | refine nl ?_ | exact ret1 T (List.nil_sublist _) ⟨rfl, rfl⟩
 ·have e2 : (m == 2) = false := by simpa using h2
  by_cases h3 : m = 3
  ·subst h3
   repeat' first | refine vs T rfl fun K hK => ?_; (try simp (disch := omega) only [go_sem, Nat.reduceBEq, Nat.reduceAdd]); (first | refine hK _ _ ?_; clear hK K | refine Op1.callp rfl rfl (count_ok b hb _) rfl ?_; refine hK _ _ ?_; clear hK K) | refine st rfl ?_ | refine sc rfl ?_ | refine nl ?_ | exact ret1 T (List.nil_sublist _) ⟨rfl, rfl⟩
  ·have e3 : (m == 3) = false := by simpa using h3
   repeat' first | refine vs T rfl fun K hK => ?_; (try simp (disch := omega) only [go_sem, Nat.reduceBEq, Nat.reduceAdd, e2, e3]); (refine hK _ _ ?_; clear hK K) | refine st rfl ?_ | refine sc rfl ?_ | refine nl ?_ | refine ret1 T (List.nil_sublist _) ?_; (try simp only [upd, Nat.reduceBEq, cond_true, cond_false, and_true])
   simp [roomF, h2, h3]
def zE (n : Nat) : List En := List.replicate n (0, 0)
theorem zE_len (n : Nat) : (zE n).length = n := List.length_replicate
theorem zeros2 (n : Nat) : zerosD n [.int .i64 0, .int .i64 0] = (eRs (zE n)).flatten := by
 unfold zerosD eRs zE
 rw [List.map_replicate]
 rfl
theorem eRs_append (a b : List En) : eRs (a ++ b) = eRs a ++ eRs b := List.map_append ..
theorem setL_nil (l : List D) (o : Nat) : setL l o [] = l := by rw [setL]
theorem setL_app : ∀ (p c q r : List D), q.length = c.length → setL (p ++ q ++ r) p.length c = p ++ c ++ r
 | p, [], q, r, h => by
  have : q = [] := List.eq_nil_of_length_eq_zero h
  subst this
  rw [setL_nil]
 | p, x :: c, [], r, h => by simp at h
 | p, x :: c, y :: q, r, h => by
  rw [setL]
  have e1 : (p ++ y :: q ++ r).set p.length x = (p ++ [x]) ++ q ++ r := by
   rw [List.append_assoc, List.set_append_right _ _ (Nat.le_refl _), Nat.sub_self, List.cons_append, List.set_cons_zero]
   simp
  rw [e1, show p.length + 1 = (p ++ [x]).length by simp, setL_app (p ++ [x]) c q r (by simpa using h)]
  simp
theorem setL_eRs (b c : List En) (k : Nat) (h : k + c.length ≤ b.length) : setL (eRs b).flatten (k * 2) (eRs c).flatten = (eRs (b.take k ++ c ++ b.drop (k + c.length))).flatten := by
 have e : b = b.take k ++ (b.drop k).take c.length ++ b.drop (k + c.length) := by
  rw [List.append_assoc, ← List.drop_drop, List.take_append_drop, List.take_append_drop]
 have hk : (eRs (b.take k)).flatten.length = k * 2 := by rw [eRs_flat, List.length_take]; rw [Nat.min_eq_left (by omega)]
 conv => lhs; rw [e]
 rw [eRs_append, eRs_append, List.flatten_append, List.flatten_append, ← hk, setL_app _ _ _ _ (by rw [eRs_flat, eRs_flat, List.length_take, List.length_drop]; rw [Nat.min_eq_left (by omega)])]
 rw [eRs_append, eRs_append, List.flatten_append, List.flatten_append]
theorem own_ok (b : List En) (hb : b.length ≤ 1000000) : Pure Tryz.prog 234 [buf b] (buf b) := by
 refine Fun.freeze (eRs_row b) ?_
 have h1 : (eRs b).flatten.take (b.length * 2) = (eRs b).flatten := List.take_of_length_le (by rw [eRs_flat]; exact Nat.le_refl _)
 refine Fun.of T [.tmp 2] Tryz.func234 rfl Tryz.ntmps234 Tryz.results234 rfl (by kernel_rfl) ?_
 repeat' first | refine vs T rfl fun K hK => ?_; (try simp (disch := omega) only [go_sem, Nat.reduceBEq, eRs_len, zeros2]); (first | refine hK _ _ ?_; clear hK K | refine ⟨?_, fun bq hbq => ?_⟩; rotate_left; (try simp only [HB] at hbq); refine hK _ _ ?_; all_goals clear hK K | refine r_copy T rfl ?_; (simp (disch := omega) only [go_sem, Nat.reduceBEq, eRs_len, Nat.min_self, h1]); (refine ⟨?_, hK _ _ ?_⟩ <;> clear hK K)) | refine st rfl ?_ | refine nl ?_
 ·rw [eRs_flat, zE_len]; exact Nat.le_refl _
 ·have h2 : setL (eRs (zE b.length)).flatten 0 (eRs b).flatten = (eRs b).flatten := by
   have := setL_eRs (zE b.length) b 0 (by rw [zE_len]; omega)
   simpa [zE] using this
  rw [h2]
  exact ret1 T (List.Sublist.refl _) ⟨some (bq, b.length), 127, by rw [eRs_len]; rfl, rfl⟩
 ·omega
theorem eRs_tk (b : List En) (k : Nat) : (eRs b).take k = eRs (b.take k) := by rw [eRs, eRs, List.map_take]
theorem eRs_dr (b : List En) (k : Nat) : (eRs b).drop k = eRs (b.drop k) := by rw [eRs, eRs, List.map_drop]
theorem eRs_all (b : List En) (n : Nat) (h : n = b.length) : (eRs b).flatten.take (n * 2) = (eRs b).flatten := List.take_of_length_le (by rw [eRs_flat, h]; exact Nat.le_refl _)
def putF (k : Nat) (e : En) (b : List En) : List En := b.take k ++ e :: b.drop k
theorem putF_len (k : Nat) (e : En) (b : List En) (hk : k ≤ b.length) : (putF k e b).length = b.length + 1 := by
 simp [putF]; omega
theorem put_ok (b : List En) (hb : b.length ≤ 1000000) (k : Nat) (hk : k ≤ b.length) (e1 e2 : Int) : Pure Tryz.prog 233 [buf b, iD (k : Nat), .agg [iD e1, iD e2]] (buf (putF k (e1, e2) b)) := by
 refine Fun.freeze (eRs_row _) ?_
 have hw : IntKind.i64.wrap ((b.length : Int) + 1) = ((b.length + 1 : Nat) : Int) := by rw [w64 (by omega)]; omega
 have hw2 : IntKind.i64.wrap ((k : Int) + 1) = ((k + 1 : Nat) : Int) := by rw [w64 (by omega)]; omega
 have hl : (b.take k).length = k := by rw [List.length_take]; omega
 have m1 : Nat.min (b.take k).length (b.length + 1) = k := by rw [hl]; exact Nat.min_eq_left (by omega)
 have t1 := eRs_all (b.take k) k hl.symm
 have hz : ∀ n m, (zE n).drop m = zE (n - m) := fun n m => List.drop_replicate ..
 have h1 : setL (eRs (zE (b.length + 1))).flatten 0 (eRs (b.take k)).flatten = (eRs (b.take k ++ zE (b.length + 1 - k))).flatten := by
  have := setL_eRs (zE (b.length + 1)) (b.take k) 0 (by rw [zE_len]; omega)
  rw [Nat.zero_mul, Nat.zero_add, List.take_zero, List.nil_append, hl, hz] at this
  exact this
 have h2 : ((eRs (b.take k ++ zE (b.length + 1 - k))).flatten.set (k * 2) (iD e1)).set (k * 2 + 1) (iD e2) = (eRs (b.take k ++ [(e1, e2)] ++ zE (b.length - k))).flatten := by
  have := setL_eRs (b.take k ++ zE (b.length + 1 - k)) [(e1, e2)] k (by rw [List.length_append, hl, zE_len]; simp; omega)
  have e1' : (b.take k ++ zE (b.length + 1 - k)).take k = b.take k := List.take_left' hl
  have e2' : (b.take k ++ zE (b.length + 1 - k)).drop (k + [((e1, e2) : En)].length) = zE (b.length - k) := by
   rw [← List.drop_drop, List.drop_left' hl, hz]; congr 1; simp; omega
  rw [e1', e2'] at this
  exact this
 have hl2 : (b.drop k).length = b.length - k := List.length_drop
 have m2 : Nat.min (b.drop k).length (b.length + 1 - (k + 1)) = b.length - k := by rw [hl2, show b.length + 1 - (k + 1) = b.length - k by omega]; exact Nat.min_self _
 have t2 := eRs_all (b.drop k) (b.length - k) hl2.symm
 have hl3 : (b.take k ++ [((e1, e2) : En)]).length = k + 1 := by rw [List.length_append, hl]; rfl
 have h3 : setL (eRs (b.take k ++ [(e1, e2)] ++ zE (b.length - k))).flatten ((k + 1) * 2) (eRs (b.drop k)).flatten = (eRs (putF k (e1, e2) b)).flatten := by
  have := setL_eRs (b.take k ++ [(e1, e2)] ++ zE (b.length - k)) (b.drop k) (k + 1) (by rw [List.length_append, hl3, zE_len, hl2]; omega)
  rw [List.take_left' hl3, hl2, ← List.drop_drop, List.drop_left' hl3, hz, Nat.sub_self] at this
  rw [this]
  congr 2
  simp [putF, zE]
 refine Fun.of T [.tmp 6] Tryz.func233 rfl Tryz.ntmps233 Tryz.results233 rfl (by kernel_rfl) ?_
 repeat' first | refine dr (id := 4) T 7 (by kernel_rfl) ?_ | refine gn ?_ | apply VCg.step T rfl rfl; focus ((try simp (disch := omega) only [go_sem, Nat.reduceBEq, eRs_len, hw2, eRs_dr]); (first | exact rfl | refine ⟨?_, rfl⟩; try omega)) | refine vs T rfl fun K hK => ?_; (try simp (disch := omega) only [go_sem, Nat.reduceBEq, Nat.reduceAdd, Nat.reduceLeDiff, eRs_len, hw, h2, zeros2, eRs_tk, eRs_dr]); (first | refine hK _ _ ?_; clear hK K | intro bq hbq; (try simp only [HB] at hbq); refine hK _ _ ?_; clear hK K | refine ⟨?_, hK _ _ ?_⟩ <;> clear hK K; focus (try omega) | refine ⟨?_, fun bq hbq => ?_⟩; rotate_left; (try simp only [HB] at hbq); refine hK _ _ ?_; all_goals clear hK K | refine r_copy T rfl ?_; (simp (disch := omega) only [go_sem, Nat.reduceBEq, eRs_len, m1, t1, h1, m2, t2, h3]); (refine ⟨?_, hK _ _ ?_⟩ <;> clear hK K)) | refine st rfl ?_ | refine nl ?_
 ·rw [eRs_flat, zE_len]; omega
 ·rw [eRs_flat, List.length_append, hl, zE_len]; omega
 ·rw [eRs_flat, List.length_append, hl3, zE_len]; omega
 ·refine ret1 T ((List.nil_sublist _).cons_cons _) ⟨some (bq, b.length + 1), 127, ?_, rfl⟩
  rw [eRs_len, putF_len k _ b hk]
  rfl
 ·omega
theorem insF_at (e : En) : ∀ (b : List En) (k : Nat) (x : En), b[k]? = some x → x.1 > e.1 → (∀ (i : Nat) (y : En), i < k → b[i]? = some y → ¬ y.1 > e.1) → insF e b = putF k e b
 | x0 :: r, 0, x, h, hx, _ => by
  obtain rfl : x0 = x := by simpa using h
  simp [insF, putF, hx]
 | x0 :: r, k + 1, x, h, hx, hno => by
  have h0 : ¬ x0.1 > e.1 := hno 0 x0 (by omega) rfl
  have := insF_at e r k x (by simpa using h) hx fun i y hi hy => hno (i + 1) y (by omega) (by simpa using hy)
  unfold insF
  simp only [h0, decide_false, this, putF]
  simp
theorem insF_end (e : En) : ∀ (b : List En), (∀ (i : Nat) (y : En), b[i]? = some y → ¬ y.1 > e.1) → insF e b = putF b.length e b
 | [], _ => rfl
 | x0 :: r, hno => by
  have h0 : ¬ x0.1 > e.1 := hno 0 x0 rfl
  have := insF_end e r fun i y hy => hno (i + 1) y (by simpa using hy)
  unfold insF
  simp only [h0, decide_false, this, putF]
  simp
theorem put_end (e : En) (b : List En) : putF b.length e b = b ++ [e] := by simp [putF]
theorem push_ok (b : List En) (hb : b.length ≤ 1000000) (m e1 e2 : Int) : Pure Tryz.prog 229 [buf b, iD m, .agg [iD e1, iD e2]] (buf (pushF m (e1, e2) b)) := by
 have cEnd := put_ok b hb b.length (Nat.le_refl _) e1 e2
 refine Fun.of T [.tmp 6] Tryz.func229 rfl Tryz.ntmps229 Tryz.results229 rfl (by kernel_rfl) ?_
 by_cases h2 : m = 2
 ·subst h2
  have hp : pushF 2 (e1, e2) b = putF b.length (e1, e2) b := by rw [put_end]; rfl
  rw [hp]
  repeat' first | refine vs T rfl fun K hK => ?_; (try simp (disch := omega) only [go_sem, Nat.reduceBEq, Nat.reduceAdd, Nat.reduceLeDiff, eRs_len, beq_self_eq_true]); (first | refine hK _ _ ?_; clear hK K | intro bq hbq; (try simp only [HB] at hbq); refine hK _ _ ?_; clear hK K | refine Op1.callp rfl rfl (cEnd) rfl ?_; refine hK _ _ ?_; clear hK K) | refine st rfl ?_ | refine sc rfl ?_ | refine nl ?_ | exact ret1 T (List.nil_sublist _) ⟨rfl, rfl⟩
 ·have e2' : (m == 2) = false := by simpa using h2
  by_cases h3 : m = 3
  ·subst h3
   have hp : pushF 3 (e1, e2) b = insF (e1, e2) b := rfl
   rw [hp]
   repeat' first | refine vs T rfl fun K hK => ?_; (try simp (disch := omega) only [go_sem, Nat.reduceBEq, Nat.reduceAdd, eRs_len, e2', beq_self_eq_true]); (first | refine hK _ _ ?_; clear hK K | intro bq hbq; (try simp only [HB] at hbq); refine hK _ _ ?_; clear hK K) | refine st rfl ?_ | refine sc rfl ?_ | refine nl ?_
   refine VC.loop {k : Nat // k ≤ b.length ∧ ∀ (i : Nat) (y : En), i < k → b[i]? = some y → ¬ y.1 > e1} (fun p => ⟨lookD [(0, buf b), (5, .is (.pointer (some ⟨bq, 0, none⟩))), (19, buf b), (20, iD (b.length : Nat)), (21, iD (p.1 : Nat))], [(bq, .cells 127 2 [iD e1, iD e2])]⟩) (fun p => b.length - p.1) ⟨0, by omega, fun i y hi => by omega⟩ ?_ ?_
   ·refine Weak.sub ?_
    simp [sub, upd]
   ·rintro ⟨k, hk, hno⟩
    dsimp only
    rcases Nat.lt_or_ge k b.length with hlt | hge
    ·have hd : decide ((k : Int) < (b.length : Int)) = true := by simp; omega
     have hw : IntKind.i64.wrap ((k : Int) + 1) = ((k + 1 : Nat) : Int) := by rw [w64 (by omega)]; omega
     obtain ⟨x, hx⟩ : ∃ x, b[k]? = some x := ⟨_, List.getElem?_eq_getElem hlt⟩
     have hrow : (eRs b)[k]? = some [iD x.1, iD x.2] := by rw [eRs_at, hx]; rfl
     by_cases he : x.1 > e1
     ·have he' : decide (x.1 > e1) = true := by simpa using he
      have hf := insF_at (e1, e2) b k x hx he hno
      have cAt := put_ok b hb k hk e1 e2
      rw [hf]
      repeat' first | refine vs T rfl fun K hK => ?_; (try simp (disch := omega) only [go_sem, Nat.reduceBEq, Nat.reduceAdd, Nat.reduceLeDiff, hd, hrow, he', eRs_len]); (first | refine hK _ _ ?_; clear hK K | intro bq hbq; (try simp only [HB] at hbq); refine hK _ _ ?_; clear hK K | refine ⟨?_, hK _ _ ?_⟩ <;> clear hK K; focus (try omega) | refine Op1.callp rfl rfl (cAt) rfl ?_; refine hK _ _ ?_; clear hK K) | refine st rfl ?_ | refine sc rfl ?_ | refine nl ?_ | exact ret1 T (List.nil_sublist _) ⟨rfl, rfl⟩
     ·have he' : decide (x.1 > e1) = false := by simpa using he
      repeat' first | refine vs T rfl fun K hK => ?_; (try simp (disch := omega) only [go_sem, Nat.reduceBEq, Nat.reduceAdd, Nat.reduceLeDiff, hd, hw, hrow, he', eRs_len]); (first | refine hK _ _ ?_; clear hK K | intro bq hbq; (try simp only [HB] at hbq); refine hK _ _ ?_; clear hK K | refine ⟨?_, hK _ _ ?_⟩ <;> clear hK K; focus (try omega)) | refine st rfl ?_ | refine sc rfl ?_ | refine nl ?_
      refine ⟨⟨k + 1, by omega, fun i y hi hy => ?_⟩, Weak_subH rfl ?_, by simp only []; omega⟩
      ·rcases Nat.lt_or_ge i k with h' | h'
       ·exact hno i y h' hy
       ·obtain rfl : i = k := by omega
        rw [hx] at hy; cases hy; exact he
      ·simp [sub, upd]
    ·have hd : decide ((k : Int) < (b.length : Int)) = false := by simp; omega
     have hf := insF_end (e1, e2) b fun i y hy => hno i y (by have := (List.getElem?_eq_some_iff.1 hy).1; omega) hy
     rw [hf]
     repeat' first | refine vs T rfl fun K hK => ?_; (try simp (disch := omega) only [go_sem, Nat.reduceBEq, Nat.reduceAdd, Nat.reduceLeDiff, hd, eRs_len]); (first | refine hK _ _ ?_; clear hK K | refine Op1.callp rfl rfl (cEnd) rfl ?_; refine hK _ _ ?_; clear hK K) | refine st rfl ?_ | refine sc rfl ?_ | refine nl ?_ | exact ret1 T (List.nil_sublist _) ⟨rfl, rfl⟩
  ·have e3 : (m == 3) = false := by simpa using h3
   have hp : pushF m (e1, e2) b = b := by simp [pushF, h2, h3]
   rw [hp]
   repeat' first | refine vs T rfl fun K hK => ?_; (try simp (disch := omega) only [go_sem, Nat.reduceBEq, Nat.reduceAdd, e2', e3]); (first | refine hK _ _ ?_; clear hK K | intro bq hbq; (try simp only [HB] at hbq); refine hK _ _ ?_; clear hK K | refine Op1.callp rfl rfl (own_ok b hb) rfl ?_; refine hK _ _ ?_; clear hK K) | refine st rfl ?_ | refine sc rfl ?_ | refine nl ?_ | exact ret1 T (List.nil_sublist _) ⟨rfl, rfl⟩
end Go.Proofs.YtomcmfbpmkklmaaGreat
