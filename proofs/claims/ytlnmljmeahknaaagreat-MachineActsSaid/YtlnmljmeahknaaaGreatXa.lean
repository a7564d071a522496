/- Units and configurations as data; contracts of the reference's store. No condition. -/
import Derived.Test.YtlnmljmeahknaaaGreatWj
namespace Go.Proofs.YtlnmljmeahknaaaGreat
set_option linter.unusedSimpArgs false
set_option linter.unusedVariables false
set_option maxRecDepth 20000
open Go Go.Proofs Go.Vc

/-- A parameter that is laid down, and only read from then on. -/
theorem r_boxR {P : Program} {o : Oper} {E : Operand → D} {H : Heap} {K : D → Heap → Prop} {t : TypeId} {x : Operand} {l : List D} (ho : o.op = .box t x) (hl : cellsD (E x) = some l) (hone : l.all oneD = true) (hk : K (.pt l) H) : Op1 P o E H K := by
  refine ⟨fun d' H' => d' = .pt l ∧ H' = H, ?_, fun d H' ⟨h1, h2⟩ => h1 ▸ h2 ▸ hk⟩
  intro w L0 ε hi hx
  have h1 := cellsD_spec hl (hx x (by simp [ho, Op.operands]))
  have h2 := RelL.length _ _ h1
  have hr : (execOp ε o).run P w = .ok (.value (.pointer (some ⟨w.heap.size, 0, none⟩))) (w.alloc (.cells (ε x).cells t)) := by
    simp only [execOp, ho, Instr.box]
    rfl
  rw [hr]
  have hnew : (w.alloc (.cells (ε x).cells t)).heap[w.heap.size]? = some (.cells (ε x).cells t) := heap_alloc_new w _
  have hevo := evo_alloc w H (.cells (ε x).cells t) (.cells t l.length l)
  have hinv : HInv (w.alloc (.cells (ε x).cells t)) L0 ((w.heap.size, .cells t l.length l) :: H) :=
    HInv.new hi (by simp) (fun k hk => alloc_old w _ k hk) (Nat.le_refl _) ⟨hone, (ε x).cells, hnew, by rw [← h2, Array.length_toList], by rw [← h2, List.take_length]; exact RelL.mono hevo.keeps _ _ h1⟩
  have hno : ¬ live H L0 w.heap.size := fun hl => by
    rcases hl with hl | hl
    · have := hi.old _ hl; omega
    · have := hi.lt hl; omega
  have hevo' : Evo w H (w.alloc (.cells (ε x).cells t)) H := SubH.evo (List.sublist_cons_self _ _) hevo
  refine ⟨.pt l, H, ⟨rfl, rfl⟩, ⟨w.heap.size, 0, rfl, CellsAt.of hno l (ε x).cells.toList 0 hone (RelL.mono hevo'.keeps _ _ h1) fun j v hj => ?_⟩, SubH.inv (List.sublist_cons_self _ _) hinv, hevo'⟩
  rw [Nat.zero_add]
  simp only [World.cell?, hnew]
  simpa using hj
theorem VCo.stepO {P : Program} {n : Nat} {ops : Array Oper} {o : Oper} {r : List Oper} {E : Nat → D} {H : Heap} {Q : Exit → St → Prop} (hg : o.guard = none) (hd : dstOk n o = true)
    (h : ∀ K : (Nat → D) → Heap → Prop, (∀ E H, VCo P n ops r ⟨E, H⟩ Q → K E H) → Op1 P o (evD E) H (fun d H' => K (updO E o.dst d) H')) : VCo P n ops (o :: r) ⟨E, H⟩ Q :=
  VCo.cons hg hd fun K hK => h (fun E H => K ⟨E, H⟩) (fun E H hv => hK _ hv)

theorem shp_sublist {g : Option (Nat × Nat)} {e : TypeId} {esz : Nat} {l : List D} {X : Heap} : (shp g e esz l []).Sublist (shp g e esz l X) := by
  cases g with
  | none => exact List.nil_sublist _
  | some p =>
    obtain ⟨k, cap⟩ := p
    exact (List.nil_sublist _).cons_cons _

def inB (n m : Int) : Bool := decide (n ≥ 0) && decide (n < m)
theorem in06_ok (n m : Int) : Pure Tryz.prog 53 [iD n, iD m] (bD (inB n m)) := by
  refine Fun.of T [.tmp 4] Tryz.func53 rfl Tryz.ntmps53 Tryz.results53 rfl (by kernel_rfl) ?_
  repeat' first | (first | refine VCo.step T rfl rfl (fun K hK => ?_) | refine VCr.step T rfl (fun K hK => ?_)); (try simp (disch := omega) only [WB, argE, Nat.reduceBEq, T3]); (refine hK _ _ ?_; clear hK K) | refine VCo.gstep rfl rfl rfl rfl rfl ?_; try simp only [GB] | refine VC.region ?_ | refine VC.seq' ?_ | (first | refine VCo.nil ?_ | refine VC.ret ?_); (try simp only [QB]) | refine ret1 T (List.nil_sublist _) ?_; (try simp only [upd, Nat.reduceBEq, cond_true, cond_false, and_true]) | refine gsplit_intro (fun hc => ?_) (fun hc => ?_) <;> (simp only [GB])
  all_goals first | (simp_all [inB]; done) | (simp_all [inB]; omega)

def allB (l : List Int) (m : Int) : Bool := l.all fun n => inB n m
theorem all06_ok (l : List Int) (hl : l.length ≤ 1000000) (m : Int) : Pure Tryz.prog 35 [ints l, iD m] (bD (allB l m)) := by
  refine Fun.of T [.tmp 4] Tryz.func35 rfl Tryz.ntmps35 Tryz.results35 rfl (by kernel_rfl) ?_
  repeat' first | refine VCo.step T rfl rfl (fun K hK => ?_); (try simp (disch := omega) only [WB, argE, T3, T5, T9, T22, T23, T26, T27, T51, T53, T62, T65, T66, T68, T72, T78, T145]); (refine hK _ _ ?_; clear hK K) | refine VC.region ?_ | refine VC.seq' ?_ | refine VC.block ?_ | (refine VCo.nil ?_); (try simp only [QB])
  refine VC.loop {k : Nat // k ≤ l.length ∧ ∀ i n, i < k → l[i]? = some n → inB n m = true} (fun p => ⟨lookD [(0, ints l), (1, iD m), (5, iD (p.1 : Nat))], []⟩) (fun p => l.length - p.1) ⟨0, by omega, fun i n hi => by omega⟩ ?_ ?_
  · refine Weak.sub ?_
    simp [sub, upd]
  · rintro ⟨k, hk, hno⟩
    dsimp only
    rcases Nat.lt_or_ge k l.length with hlt | hge
    · have hd : decide ((k : Int) < (l.length : Int)) = true := by simp; omega
      have hw : IntKind.i64.wrap ((k : Int) + 1) = ((k + 1 : Nat) : Int) := by rw [w64 (by omega)]; omega
      obtain ⟨x, hx⟩ : ∃ x, l[k]? = some x := ⟨_, List.getElem?_eq_getElem hlt⟩
      have hrow : (iRs l)[k]? = some [iD x] := by rw [iRs_at, hx]; rfl
      cases he : inB x m with
      | true =>
        repeat' first | refine VCo.step T rfl rfl (fun K hK => ?_); (try simp (disch := omega) only [WB, lookD, Nat.reduceBEq, T3, T5, T9, T22, T23, T26, T27, T51, T53, T62, T65, T66, T68, T72, T78, T145, hd, hw, hrow, he, iRs_len, Bool.not_true]); (first | refine hK _ _ ?_; clear hK K | refine ⟨?_, hK _ _ ?_⟩ <;> clear hK K; focus (try omega) | refine Op1.callp rfl rfl (in06_ok _ _) rfl ?_; refine hK _ _ ?_; clear hK K) | refine VC.region ?_ | refine VC.seq' ?_ | refine VC.block ?_ | (first | refine VCo.nil ?_ | refine VC.skip ?_); (try simp only [QB]) | refine VC.cond rfl ?_; (try simp only [gsplit_true, gsplit_false])
        refine ⟨⟨k + 1, by omega, fun i n hi hn => ?_⟩, Weak.sub ?_, by simp only []; omega⟩
        · rcases Nat.lt_or_ge i k with h' | h'
          · exact hno i n h' hn
          · obtain rfl : i = k := by omega
            rw [hx] at hn; cases hn; exact he
        · simp [sub, upd]
      | false =>
        have hA : allB l m = false := by
          unfold allB
          rw [List.all_eq_false]
          exact ⟨x, List.mem_of_getElem? hx, by simp [he]⟩
        rw [hA]
        repeat' first | refine VCo.step T rfl rfl (fun K hK => ?_); (try simp (disch := omega) only [WB, lookD, Nat.reduceBEq, T3, T5, T9, T22, T23, T26, T27, T51, T53, T62, T65, T66, T68, T72, T78, T145, hd, hrow, he, iRs_len, Bool.not_false]); (first | refine hK _ _ ?_; clear hK K | refine ⟨?_, hK _ _ ?_⟩ <;> clear hK K; focus (try omega) | refine Op1.callp rfl rfl (in06_ok _ _) rfl ?_; refine hK _ _ ?_; clear hK K) | refine VC.region ?_ | refine VC.seq' ?_ | refine VC.block ?_ | (first | refine VCo.nil ?_ | refine VC.skip ?_ | refine VC.ret ?_); (try simp only [QB]) | refine ret1 T (List.nil_sublist _) ?_; (try simp only [upd, Nat.reduceBEq, cond_true, cond_false, and_true]) | refine VC.cond rfl ?_; (try simp only [gsplit_true])
    · have hd : decide ((k : Int) < (l.length : Int)) = false := by simp; omega
      have hA : allB l m = true := by
        unfold allB
        rw [List.all_eq_true]
        intro n hn
        obtain ⟨i, hi⟩ := List.getElem?_of_mem hn
        exact hno i n (by have := (List.getElem?_eq_some_iff.1 hi).1; omega) hi
      rw [hA]
      repeat' first | refine VCo.step T rfl rfl (fun K hK => ?_); (try simp (disch := omega) only [WB, lookD, Nat.reduceBEq, T3, T5, T9, T22, T23, T26, T27, T51, T53, T62, T65, T66, T68, T72, T78, T145, hd, iRs_len]); (refine hK _ _ ?_; clear hK K) | refine VC.region ?_ | refine VC.seq' ?_ | (first | refine VCo.nil ?_ | refine VC.ret ?_ | refine VC.exit ?_); (try simp only [QB]) | refine ret1 T (List.nil_sublist _) ?_; (try simp only [upd, Nat.reduceBEq, cond_true, cond_false, and_true]) | refine VC.cond rfl ?_; (try simp only [gsplit_false])

theorem rcount_ok (b : List En) (hb : b.length ≤ 1000000) (loc : Int) : Pure Tryz.prog 54 [buf b, iD loc] (iD (cntF loc b : Nat)) := by
  refine Fun.of T [.tmp 4] Tryz.func54 rfl Tryz.ntmps54 Tryz.results54 rfl (by kernel_rfl) ?_
  repeat' first | refine VCo.step T rfl rfl (fun K hK => ?_); (try simp (disch := omega) only [WB, argE, T3, T5, T9, T22, T23, T26, T27, T51, T53, T62, T65, T66, T68, T72, T78, T145]); (refine hK _ _ ?_; clear hK K) | refine VC.region ?_ | refine VC.seq' ?_ | refine VC.block ?_ | (refine VCo.nil ?_); (try simp only [QB])
  refine VC.loop {k : Nat // k ≤ b.length} (fun p => ⟨lookD [(0, buf b), (1, iD loc), (5, iD (cntF loc (b.take p.1) : Nat)), (6, iD (p.1 : Nat))], []⟩) (fun p => b.length - p.1) ⟨0, by omega⟩ ?_ ?_
  · refine Weak.sub ?_
    simp [sub, upd, cntF]
  · rintro ⟨k, hk⟩
    dsimp only
    have hc : cntF loc (b.take k) ≤ b.length := Nat.le_trans List.countP_le_length (by rw [List.length_take]; omega)
    rcases Nat.lt_or_ge k b.length with hlt | hge
    · have hd : decide ((k : Int) < (b.length : Int)) = true := by simp; omega
      have hw : IntKind.i64.wrap ((k : Int) + 1) = ((k + 1 : Nat) : Int) := by rw [w64 (by omega)]; omega
      have hw2 : IntKind.i64.wrap ((cntF loc (b.take k) : Nat) + 1 : Int) = ((cntF loc (b.take k) + 1 : Nat) : Int) := by rw [w64 (by omega)]; omega
      obtain ⟨x, hx⟩ : ∃ x, b[k]? = some x := ⟨_, List.getElem?_eq_getElem hlt⟩
      have hrow : (eRs b)[k]? = some [iD x.1, iD x.2] := by rw [eRs_at, hx]; rfl
      have ht : b.take (k + 1) = b.take k ++ [x] := by rw [List.take_add_one, hx]; rfl
      by_cases he : x.1 = loc
      · have he' : (x.1 == loc) = true := by simpa using he
        have hn : cntF loc (b.take (k + 1)) = cntF loc (b.take k) + 1 := by rw [ht, cntF, List.countP_append]; simp [he, cntF]
        repeat' first | refine VCo.step T rfl rfl (fun K hK => ?_); (try simp (disch := omega) only [WB, lookD, Nat.reduceBEq, T3, T5, T9, T22, T23, T26, T27, T51, T53, T62, T65, T66, T68, T72, T78, T145, hd, hw, hw2, hrow, he', eRs_len]); (first | refine hK _ _ ?_; clear hK K | refine ⟨?_, hK _ _ ?_⟩ <;> clear hK K; focus (try omega)) | refine VC.region ?_ | refine VC.seq' ?_ | refine VC.block ?_ | (first | refine VCo.nil ?_ | refine VC.skip ?_); (try simp only [QB]) | refine VC.cond rfl ?_; (try simp only [gsplit_true])
        refine ⟨⟨k + 1, by omega⟩, Weak.sub ?_, by simp only []; omega⟩
        simp [sub, upd, hn]
      · have he' : (x.1 == loc) = false := by simpa using he
        have hn : cntF loc (b.take (k + 1)) = cntF loc (b.take k) := by rw [ht, cntF, List.countP_append]; simp [he, cntF]
        repeat' first | refine VCo.step T rfl rfl (fun K hK => ?_); (try simp (disch := omega) only [WB, lookD, Nat.reduceBEq, T3, T5, T9, T22, T23, T26, T27, T51, T53, T62, T65, T66, T68, T72, T78, T145, hd, hw, hrow, he', eRs_len]); (first | refine hK _ _ ?_; clear hK K | refine ⟨?_, hK _ _ ?_⟩ <;> clear hK K; focus (try omega)) | refine VC.region ?_ | refine VC.seq' ?_ | refine VC.block ?_ | (first | refine VCo.nil ?_ | refine VC.skip ?_); (try simp only [QB]) | refine VC.cond rfl ?_; (try simp only [gsplit_true, gsplit_false])
        refine ⟨⟨k + 1, by omega⟩, Weak.sub ?_, by simp only []; omega⟩
        simp [sub, upd, hn]
    · have hd : decide ((k : Int) < (b.length : Int)) = false := by simp; omega
      have ht : b.take k = b := List.take_of_length_le hge
      repeat' first | refine VCo.step T rfl rfl (fun K hK => ?_); (try simp (disch := omega) only [WB, lookD, Nat.reduceBEq, T3, T5, T9, T22, T23, T26, T27, T51, T53, T62, T65, T66, T68, T72, T78, T145, hd, ht, eRs_len]); (refine hK _ _ ?_; clear hK K) | refine VC.region ?_ | refine VC.seq' ?_ | (first | refine VCo.nil ?_ | refine VC.ret ?_ | refine VC.exit ?_); (try simp only [QB]) | refine ret1 T (List.nil_sublist _) ?_; (try simp only [upd, Nat.reduceBEq, cond_true, cond_false, and_true]) | refine VC.cond rfl ?_; (try simp only [gsplit_false])

theorem rroom_ok (b : List En) (hb : b.length ≤ 1000000) (m r loc : Int) : Pure Tryz.prog 56 [buf b, iD m, iD r, iD loc] (bD (roomF m r loc b)) := by
  refine Fun.of T [.tmp 8] Tryz.func56 rfl Tryz.ntmps56 Tryz.results56 rfl (by kernel_rfl) ?_
  by_cases h2 : m = 2
  · subst h2
    repeat' first | refine VCo.step T rfl rfl (fun K hK => ?_); (try simp (disch := omega) only [WB, argE, Nat.reduceBEq, Nat.reduceAdd, T3, T5, T9, T22, T23, T26, T27, T51, T53, T62, T65, T66, T68, T72, T78, T145, eRs_len]); (refine hK _ _ ?_; clear hK K) | refine VC.region ?_ | refine VC.seq' ?_ | refine VC.block ?_ | (first | refine VCo.nil ?_ | refine VC.ret ?_); (try simp only [QB]) | refine ret1 T (List.nil_sublist _) ?_; (try simp only [upd, Nat.reduceBEq, cond_true, cond_false, and_true]) | refine VC.cond rfl ?_; (try simp only [gsplit_true])
    simp [roomF]
  · have e2 : (m == 2) = false := by simpa using h2
    by_cases h3 : m = 3
    · subst h3
      repeat' first | refine VCo.step T rfl rfl (fun K hK => ?_); (try simp (disch := omega) only [WB, argE, Nat.reduceBEq, Nat.reduceAdd, T3, T5, T9, T22, T23, T26, T27, T51, T53, T62, T65, T66, T68, T72, T78, T145]); (first | refine hK _ _ ?_; clear hK K | refine Op1.callp rfl rfl (rcount_ok b hb _) rfl ?_; refine hK _ _ ?_; clear hK K) | refine VC.region ?_ | refine VC.seq' ?_ | refine VC.block ?_ | (first | refine VCo.nil ?_ | refine VC.ret ?_); (try simp only [QB]) | refine ret1 T (List.nil_sublist _) ?_; (try simp only [upd, Nat.reduceBEq, cond_true, cond_false, and_true]) | refine VC.cond rfl ?_; (try simp only [gsplit_true])
      simp [roomF]
    · have e3 : (m == 3) = false := by simpa using h3
      repeat' first | refine VCo.step T rfl rfl (fun K hK => ?_); (try simp (disch := omega) only [WB, argE, Nat.reduceBEq, Nat.reduceAdd, T3, T5, T9, T22, T23, T26, T27, T51, T53, T62, T65, T66, T68, T72, T78, T145, e2, e3]); (refine hK _ _ ?_; clear hK K) | refine VC.region ?_ | refine VC.seq' ?_ | refine VC.block ?_ | (first | refine VCo.nil ?_ | refine VC.skip ?_ | refine VC.ret ?_); (try simp only [QB]) | refine ret1 T (List.nil_sublist _) ?_; (try simp only [upd, Nat.reduceBEq, cond_true, cond_false, and_true]) | refine VC.cond rfl ?_; (try simp only [gsplit_false])
      simp [roomF, h2, h3]

theorem rlast_ok (b : List En) (hb : b.length ≤ 1000000) (loc : Int) : Pure Tryz.prog 58 [buf b, iD loc] (lastD (lastF loc b)) := by
  have hw0 : IntKind.i64.wrap ((b.length : Int) - 1) = (b.length : Int) - 1 := by rw [w64 (by omega)]
  refine Fun.of T [.tmp 4, .tmp 5] Tryz.func58 rfl Tryz.ntmps58 Tryz.results58 rfl (by kernel_rfl) ?_
  repeat' first | refine VCo.step T rfl rfl (fun K hK => ?_); (try simp (disch := omega) only [WB, argE, Nat.reduceBEq, T3, T5, T9, T22, T23, T26, T27, T51, T53, T62, T65, T66, T68, T72, T78, T145, eRs_len, hw0]); (refine hK _ _ ?_; clear hK K) | refine VC.region ?_ | refine VC.seq' ?_ | refine VC.block ?_ | (refine VCo.nil ?_); (try simp only [QB])
  refine VC.loop {k : Nat // k ≤ b.length ∧ ∀ (i : Nat) (y : En), k ≤ i → b[i]? = some y → y.1 ≠ loc} (fun p => ⟨lookD [(0, buf b), (1, iD loc), (6, iD ((p.1 : Nat) - 1 : Int))], []⟩) (fun p => p.1) ⟨b.length, by omega, fun i y hi hy => by have := (List.getElem?_eq_some_iff.1 hy).1; omega⟩ ?_ ?_
  · refine Weak.sub ?_
    simp [sub, upd]
  · rintro ⟨k, hk, hno⟩
    dsimp only
    rcases k with _ | k
    · have hd : decide (((0 : Nat) : Int) - 1 ≥ 0) = false := by decide
      have hf : lastF loc b = none := lastF_at.lastF_no fun i y hy => hno i y (by omega) hy
      rw [hf]
      repeat' first | refine VCo.step T rfl rfl (fun K hK => ?_); (try simp (disch := omega) only [WB, lookD, Nat.reduceBEq, T3, T5, T9, T22, T23, T26, T27, T51, T53, T62, T65, T66, T68, T72, T78, T145, hd]); (refine hK _ _ ?_; clear hK K) | refine VC.region ?_ | refine VC.seq' ?_ | (first | refine VCo.nil ?_ | refine VC.ret ?_ | refine VC.exit ?_); (try simp only [QB]) | refine ret2 T (List.nil_sublist _) ?_; (try simp only [upd, Nat.reduceBEq, cond_true, cond_false, and_true]) | refine VC.cond rfl ?_; (try simp only [gsplit_false])
      rfl
    · have hd : decide (((k + 1 : Nat) : Int) - 1 ≥ 0) = true := by rw [decide_eq_true_eq]; omega
      have hi : ((k + 1 : Nat) : Int) - 1 = (k : Int) := by omega
      have hw : IntKind.i64.wrap ((k : Int) - 1) = (k : Int) - 1 := by rw [w64 (by omega)]
      obtain ⟨x, hx⟩ : ∃ x, b[k]? = some x := ⟨_, List.getElem?_eq_getElem (by omega)⟩
      have hrow : (eRs b)[k]? = some [iD x.1, iD x.2] := by rw [eRs_at, hx]; rfl
      rw [hi] at hd ⊢
      by_cases he : x.1 = loc
      · have he' : (x.1 == loc) = true := by simpa using he
        have hf := lastF_at hx he fun i y h1 h2 => hno i y (by omega) h2
        rw [hf]
        repeat' first | refine VCo.step T rfl rfl (fun K hK => ?_); (try simp (disch := omega) only [WB, lookD, Nat.reduceBEq, T3, T5, T9, T22, T23, T26, T27, T51, T53, T62, T65, T66, T68, T72, T78, T145, hd, hrow, he', eRs_len]); (first | refine hK _ _ ?_; clear hK K | refine ⟨?_, hK _ _ ?_⟩ <;> clear hK K; focus (try omega)) | refine VC.region ?_ | refine VC.seq' ?_ | refine VC.block ?_ | (first | refine VCo.nil ?_ | refine VC.skip ?_ | refine VC.ret ?_); (try simp only [QB]) | refine ret2 T (List.nil_sublist _) ?_; (try simp only [upd, Nat.reduceBEq, cond_true, cond_false, and_true]) | refine VC.cond rfl ?_; (try simp only [gsplit_true])
        rfl
      · have he' : (x.1 == loc) = false := by simpa using he
        repeat' first | refine VCo.step T rfl rfl (fun K hK => ?_); (try simp (disch := omega) only [WB, lookD, Nat.reduceBEq, T3, T5, T9, T22, T23, T26, T27, T51, T53, T62, T65, T66, T68, T72, T78, T145, hd, hw, hrow, he', eRs_len]); (first | refine hK _ _ ?_; clear hK K | refine ⟨?_, hK _ _ ?_⟩ <;> clear hK K; focus (try omega)) | refine VC.region ?_ | refine VC.seq' ?_ | refine VC.block ?_ | (first | refine VCo.nil ?_ | refine VC.skip ?_); (try simp only [QB]) | refine VC.cond rfl ?_; (try simp only [gsplit_true, gsplit_false])
        refine ⟨⟨k, by omega, fun i y h1 h2 => ?_⟩, Weak.sub ?_, by simp only []; omega⟩
        · rcases Nat.eq_or_lt_of_le h1 with rfl | h'
          · rw [hx] at h2; cases h2; exact he
          · exact hno i y (by omega) h2
        · simp [sub, upd]
end Go.Proofs.YtlnmljmeahknaaaGreat
