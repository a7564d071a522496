/- Units and configurations as data; contracts of the reference's store. No condition. -/
import Derived.Test.YtfifcjgcajpnoaaGreatWj
namespace Go.Proofs.YtfifcjgcajpnoaaGreat
set_option linter.unusedSimpArgs false
set_option linter.unusedVariables false
set_option maxRecDepth 20000
open Go Go.Proofs Go.Vc
attribute [local irreducible] retQ VCg VCw

theorem shp_sublist {g : Option (Nat × Nat)} {e : TypeId} {esz : Nat} {l : List D} {X : Heap} : (shp g e esz l []).Sublist (shp g e esz l X) := by
  cases g with
  | none => exact List.nil_sublist _
  | some p =>
    obtain ⟨k, cap⟩ := p
    exact (List.nil_sublist _).cons_cons _

def inB (n m : Int) : Bool := decide (n ≥ 0) && decide (n < m)
theorem in06_ok (n m : Int) : Pure Tryz.prog 74 [iD n, iD m] (bD (inB n m)) := by
  refine Fun.of T [.tmp 4] Tryz.func74 rfl Tryz.ntmps74 Tryz.results74 rfl (by kernel_rfl) ?_
  repeat' first | refine vs T rfl fun K hK => ?_; (try simp (disch := omega) only [go_sem, Nat.reduceBEq]); (refine hK _ _ ?_; clear hK K) | refine st rfl ?_ | refine nl ?_ | refine gs rfl rfl ?_ | refine ret1 T (List.nil_sublist _) ?_; (try simp only [upd, Nat.reduceBEq, cond_true, cond_false, and_true]) | with_reducible refine gsplit_intro (fun hc => ?_) (fun hc => ?_)
  all_goals first | (simp_all [inB]; done) | (simp_all [inB]; omega)

def allB (l : List Int) (m : Int) : Bool := l.all fun n => inB n m
theorem all06_ok (l : List Int) (hl : l.length ≤ 1000000) (m : Int) : Pure Tryz.prog 62 [ints l, iD m] (bD (allB l m)) := by
  refine Fun.of T [.tmp 4] Tryz.func62 rfl Tryz.ntmps62 Tryz.results62 rfl (by kernel_rfl) ?_
  repeat' first | refine vs T rfl fun K hK => ?_; (try simp (disch := omega) only [go_sem]); (refine hK _ _ ?_; clear hK K) | refine st rfl ?_ | refine nl ?_
  refine VC.loop {k : Nat // k ≤ l.length ∧ ∀ i n, i < k → l[i]? = some n → inB n m = true} (fun p => ⟨lookD [(0, ints l), (1, iD m), (5, iD (p.1 : Nat))], []⟩) (fun p => l.length - p.1) ⟨0, by omega, fun i n hi => by omega⟩ ?_ ?_
  · refine Weak.sub ?_
    simp [sub, upd]
  · rintro ⟨k, hk, hno⟩
    dsimp only
    rcases Nat.lt_or_ge k l.length with hlt | hge
    · have hd : decide ((k : Int) < (l.length : Int)) = true := by simp; omega
      have hw : IntKind.i64.wrap ((k : Int) + 1) = ((k + 1 : Nat) : Int) := by rw [w64 (by omega)]; omega
      obtain ⟨x, hx⟩ : ∃ x, l[k]? = some x := ⟨_, List.getElem?_eq_getElem hlt⟩
      have hrow : (iRs l)[k]? = some [iD x] := by rw [iRs_at, hx]; rfl
      cases he : inB x m with
      | true =>
        repeat' first | refine vs T rfl fun K hK => ?_; (try simp (disch := omega) only [go_sem, Nat.reduceBEq, hd, hw, hrow, he, iRs_len, Bool.not_true]); (first | refine hK _ _ ?_; clear hK K | refine ⟨?_, hK _ _ ?_⟩ <;> clear hK K; focus (try omega) | refine Op1.callp rfl rfl (in06_ok _ _) rfl ?_; refine hK _ _ ?_; clear hK K) | refine st rfl ?_ | refine sc rfl ?_ | refine nl ?_
        refine ⟨⟨k + 1, by omega, fun i n hi hn => ?_⟩, Weak.sub ?_, by simp only []; omega⟩
        · rcases Nat.lt_or_ge i k with h' | h'
          · exact hno i n h' hn
          · obtain rfl : i = k := by omega
            rw [hx] at hn; cases hn; exact he
        · simp [sub, upd]
      | false =>
        have hA : allB l m = false := by
          unfold allB
          rw [List.all_eq_false]
          exact ⟨x, List.mem_of_getElem? hx, by simp [he]⟩
        rw [hA]
        repeat' first | refine vs T rfl fun K hK => ?_; (try simp (disch := omega) only [go_sem, Nat.reduceBEq, hd, hrow, he, iRs_len, Bool.not_false]); (first | refine hK _ _ ?_; clear hK K | refine ⟨?_, hK _ _ ?_⟩ <;> clear hK K; focus (try omega) | refine Op1.callp rfl rfl (in06_ok _ _) rfl ?_; refine hK _ _ ?_; clear hK K) | refine st rfl ?_ | refine sc rfl ?_ | refine nl ?_ | exact ret1 T (List.nil_sublist _) ⟨rfl, rfl⟩
    · have hd : decide ((k : Int) < (l.length : Int)) = false := by simp; omega
      have hA : allB l m = true := by
        unfold allB
        rw [List.all_eq_true]
        intro n hn
        obtain ⟨i, hi⟩ := List.getElem?_of_mem hn
        exact hno i n (by have := (List.getElem?_eq_some_iff.1 hi).1; omega) hi
      rw [hA]
      repeat' first | refine vs T rfl fun K hK => ?_; (try simp (disch := omega) only [go_sem, Nat.reduceBEq, hd, iRs_len]); (refine hK _ _ ?_; clear hK K) | refine st rfl ?_ | refine sc rfl ?_ | refine nl ?_ | exact ret1 T (List.nil_sublist _) ⟨rfl, rfl⟩

theorem rcount_ok (b : List En) (hb : b.length ≤ 1000000) (loc : Int) : Pure Tryz.prog 79 [buf b, iD loc] (iD (cntF loc b : Nat)) := by
  refine Fun.of T [.tmp 4] Tryz.func79 rfl Tryz.ntmps79 Tryz.results79 rfl (by kernel_rfl) ?_
  repeat' first | refine vs T rfl fun K hK => ?_; (try simp (disch := omega) only [go_sem]); (refine hK _ _ ?_; clear hK K) | refine st rfl ?_ | refine nl ?_
  refine VC.loop {k : Nat // k ≤ b.length} (fun p => ⟨lookD [(0, buf b), (1, iD loc), (5, iD (cntF loc (b.take p.1) : Nat)), (6, iD (p.1 : Nat))], []⟩) (fun p => b.length - p.1) ⟨0, by omega⟩ ?_ ?_
  · refine Weak.sub ?_
    simp [sub, upd, cntF]
  · rintro ⟨k, hk⟩
    dsimp only
    have hc : cntF loc (b.take k) ≤ b.length := Nat.le_trans List.countP_le_length (by rw [List.length_take]; omega)
    rcases Nat.lt_or_ge k b.length with hlt | hge
    · have hd : decide ((k : Int) < (b.length : Int)) = true := by simp; omega
      have hw : IntKind.i64.wrap ((k : Int) + 1) = ((k + 1 : Nat) : Int) := by rw [w64 (by omega)]; omega
      have hw2 : IntKind.i64.wrap ((cntF loc (b.take k) : Nat) + 1 : Int) = ((cntF loc (b.take k) + 1 : Nat) : Int) := by rw [w64 (by omega)]; omega
      obtain ⟨x, hx⟩ : ∃ x, b[k]? = some x := ⟨_, List.getElem?_eq_getElem hlt⟩
      have hrow : (eRs b)[k]? = some [iD x.1, iD x.2] := by rw [eRs_at, hx]; rfl
      have ht : b.take (k + 1) = b.take k ++ [x] := by rw [List.take_add_one, hx]; rfl
      by_cases he : x.1 = loc
      · have he' : (x.1 == loc) = true := by simpa using he
        have hn : cntF loc (b.take (k + 1)) = cntF loc (b.take k) + 1 := by rw [ht, cntF, List.countP_append]; simp [he, cntF]
        repeat' first | refine vs T rfl fun K hK => ?_; (try simp (disch := omega) only [go_sem, Nat.reduceBEq, hd, hw, hw2, hrow, he', eRs_len]); (first | refine hK _ _ ?_; clear hK K | refine ⟨?_, hK _ _ ?_⟩ <;> clear hK K; focus (try omega)) | refine st rfl ?_ | refine sc rfl ?_ | refine nl ?_
        refine ⟨⟨k + 1, by omega⟩, Weak.sub ?_, by simp only []; omega⟩
        simp [sub, upd, hn]
      · have he' : (x.1 == loc) = false := by simpa using he
        have hn : cntF loc (b.take (k + 1)) = cntF loc (b.take k) := by rw [ht, cntF, List.countP_append]; simp [he, cntF]
        repeat' first | refine vs T rfl fun K hK => ?_; (try simp (disch := omega) only [go_sem, Nat.reduceBEq, hd, hw, hrow, he', eRs_len]); (first | refine hK _ _ ?_; clear hK K | refine ⟨?_, hK _ _ ?_⟩ <;> clear hK K; focus (try omega)) | refine st rfl ?_ | refine sc rfl ?_ | refine nl ?_
        refine ⟨⟨k + 1, by omega⟩, Weak.sub ?_, by simp only []; omega⟩
        simp [sub, upd, hn]
    · have hd : decide ((k : Int) < (b.length : Int)) = false := by simp; omega
      have ht : b.take k = b := List.take_of_length_le hge
      repeat' first | refine vs T rfl fun K hK => ?_; (try simp (disch := omega) only [go_sem, Nat.reduceBEq, hd, ht, eRs_len]); (refine hK _ _ ?_; clear hK K) | refine st rfl ?_ | refine sc rfl ?_ | refine nl ?_ | exact ret1 T (List.nil_sublist _) ⟨rfl, rfl⟩

theorem rroom_ok (b : List En) (hb : b.length ≤ 1000000) (m r loc : Int) : Pure Tryz.prog 65 [buf b, iD m, iD r, iD loc] (bD (roomF m r loc b)) := by
  refine Fun.of T [.tmp 8] Tryz.func65 rfl Tryz.ntmps65 Tryz.results65 rfl (by kernel_rfl) ?_
  by_cases h2 : m = 2
  · subst h2
    repeat' first | refine vs T rfl fun K hK => ?_; (try simp (disch := omega) only [go_sem, Nat.reduceBEq, Nat.reduceAdd, eRs_len]); (refine hK _ _ ?_; clear hK K) | refine st rfl ?_ | refine sc rfl ?_ | refine nl ?_ | exact ret1 T (List.nil_sublist _) ⟨rfl, rfl⟩
  · have e2 : (m == 2) = false := by simpa using h2
    by_cases h3 : m = 3
    · subst h3
      repeat' first | refine vs T rfl fun K hK => ?_; (try simp (disch := omega) only [go_sem, Nat.reduceBEq, Nat.reduceAdd]); (first | refine hK _ _ ?_; clear hK K | refine Op1.callp rfl rfl (rcount_ok b hb _) rfl ?_; refine hK _ _ ?_; clear hK K) | refine st rfl ?_ | refine sc rfl ?_ | refine nl ?_ | exact ret1 T (List.nil_sublist _) ⟨rfl, rfl⟩
    · have e3 : (m == 3) = false := by simpa using h3
      repeat' first | refine vs T rfl fun K hK => ?_; (try simp (disch := omega) only [go_sem, Nat.reduceBEq, Nat.reduceAdd, e2, e3]); (refine hK _ _ ?_; clear hK K) | refine st rfl ?_ | refine sc rfl ?_ | refine nl ?_ | refine ret1 T (List.nil_sublist _) ?_; (try simp only [upd, Nat.reduceBEq, cond_true, cond_false, and_true])
      simp [roomF, h2, h3]

theorem rlast_ok (b : List En) (hb : b.length ≤ 1000000) (loc : Int) : Pure Tryz.prog 80 [buf b, iD loc] (lastD (lastF loc b)) := by
  have hw0 : IntKind.i64.wrap ((b.length : Int) - 1) = (b.length : Int) - 1 := by rw [w64 (by omega)]
  refine Fun.of T [.tmp 4, .tmp 5] Tryz.func80 rfl Tryz.ntmps80 Tryz.results80 rfl (by kernel_rfl) ?_
  repeat' first | refine vs T rfl fun K hK => ?_; (try simp (disch := omega) only [go_sem, Nat.reduceBEq, eRs_len, hw0]); (refine hK _ _ ?_; clear hK K) | refine st rfl ?_ | refine nl ?_
  refine VC.loop {k : Nat // k ≤ b.length ∧ ∀ (i : Nat) (y : En), k ≤ i → b[i]? = some y → y.1 ≠ loc} (fun p => ⟨lookD [(0, buf b), (1, iD loc), (6, iD ((p.1 : Nat) - 1 : Int))], []⟩) (fun p => p.1) ⟨b.length, by omega, fun i y hi hy => by have := (List.getElem?_eq_some_iff.1 hy).1; omega⟩ ?_ ?_
  · refine Weak.sub ?_
    simp [sub, upd]
  · rintro ⟨k, hk, hno⟩
    dsimp only
    rcases k with _ | k
    · have hd : decide (((0 : Nat) : Int) - 1 ≥ 0) = false := by decide
      have hf : lastF loc b = none := lastF_at.lastF_no fun i y hy => hno i y (by omega) hy
      rw [hf]
      repeat' first | refine vs T rfl fun K hK => ?_; (try simp (disch := omega) only [go_sem, Nat.reduceBEq, hd]); (refine hK _ _ ?_; clear hK K) | refine st rfl ?_ | refine sc rfl ?_ | refine nl ?_ | exact ret2 T (List.nil_sublist _) ⟨rfl, rfl⟩
    · have hd : decide (((k + 1 : Nat) : Int) - 1 ≥ 0) = true := by rw [decide_eq_true_eq]; omega
      have hi : ((k + 1 : Nat) : Int) - 1 = (k : Int) := by omega
      have hw : IntKind.i64.wrap ((k : Int) - 1) = (k : Int) - 1 := by rw [w64 (by omega)]
      obtain ⟨x, hx⟩ : ∃ x, b[k]? = some x := ⟨_, List.getElem?_eq_getElem (by omega)⟩
      have hrow : (eRs b)[k]? = some [iD x.1, iD x.2] := by rw [eRs_at, hx]; rfl
      rw [hi] at hd ⊢
      by_cases he : x.1 = loc
      · have he' : (x.1 == loc) = true := by simpa using he
        have hf := lastF_at hx he fun i y h1 h2 => hno i y (by omega) h2
        rw [hf]
        repeat' first | refine vs T rfl fun K hK => ?_; (try simp (disch := omega) only [go_sem, Nat.reduceBEq, hd, hrow, he', eRs_len]); (first | refine hK _ _ ?_; clear hK K | refine ⟨?_, hK _ _ ?_⟩ <;> clear hK K; focus (try omega)) | refine st rfl ?_ | refine sc rfl ?_ | refine nl ?_ | exact ret2 T (List.nil_sublist _) ⟨rfl, rfl⟩
      · have he' : (x.1 == loc) = false := by simpa using he
        repeat' first | refine vs T rfl fun K hK => ?_; (try simp (disch := omega) only [go_sem, Nat.reduceBEq, hd, hw, hrow, he', eRs_len]); (first | refine hK _ _ ?_; clear hK K | refine ⟨?_, hK _ _ ?_⟩ <;> clear hK K; focus (try omega)) | refine st rfl ?_ | refine sc rfl ?_ | refine nl ?_
        refine ⟨⟨k, by omega, fun i y h1 h2 => ?_⟩, Weak.sub ?_, by simp only []; omega⟩
        · rcases Nat.eq_or_lt_of_le h1 with rfl | h'
          · rw [hx] at h2; cases h2; exact he
          · exact hno i y (by omega) h2
        · simp [sub, upd]
end Go.Proofs.YtfifcjgcajpnoaaGreat
