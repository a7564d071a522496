/- What a thread does. No condition. -/
import Derived.Test.YtfifcjgcajpnoaaYj
import Derived.Test.YtfifcjgcajpnoaaK2
namespace Go.Proofs.Ytfifcjgcajpnoaa
set_option linter.unusedSimpArgs false
set_option linter.unusedVariables false
set_option maxRecDepth 20000
open Go Go.Proofs Go.Vc
attribute [local irreducible] retQ VCg VCw

theorem VCd.weak {P : Program} {n j : Nat} {ops : Array Oper} {s s' : St} {Q : Exit → St → Prop} (h : Weak s s') (hv : VCd P n ops j s' Q) : VCd P n ops j s Q := fun x a w listed hn hs => hv x a w listed hn (h x a w hs)
theorem VCd.nodup {P : Program} {n j : Nat} {ops : Array Oper} {s : St} {Q : Exit → St → Prop} (h : s.heap.blocks.Nodup → VCd P n ops j s Q) : VCd P n ops j s Q := fun x a w listed hn hs => h hs.inv.nodup x a w listed hn hs
theorem VCo.nodup {P : Program} {n : Nat} {ops : Array Oper} {l : List Oper} {s : St} {Q : Exit → St → Prop} (h : s.heap.blocks.Nodup → VCo P n ops l s Q) : VCo P n ops l s Q := fun x a w hn hs => h hs.inv.nodup x a w hn hs

set_option maxHeartbeats 8000000 in
/-- A thread at its instruction, in a configuration of one's own. -/
theorem at_own (u : Un) (q : OC) (c : Cf) (hq : q.ok c) (m r : Int) (i : Nat) (x : Ins) (hx : AtX u c i x) : Fun Try.prog 83 [.agg (unC u), .agg (q.cs c), iD m, iD r, iD (i : Nat)] (q.h c []) false
    (fun d H' => ∃ bd : Nat, True ∧ d = .tup [pD bd, bD true] ∧ H' = dW bd u q c m r (i : Nat) x) := by
  obtain ⟨rw, p, h1, h2, h3, h4⟩ := hx.pc
  obtain ⟨k, rfl⟩ : ∃ k : Nat, p = (k : Int) := ⟨p.toNat, by omega⟩
  rw [Int.toNat_natCast] at h4
  have l1 := (List.getElem?_eq_some_iff.1 h1).1
  have l2 := (List.getElem?_eq_some_iff.1 h2).1
  have l4 := (List.getElem?_eq_some_iff.1 h4).1
  have r2 : (codeRs u.code)[i]? = some [.sl false 7 (insRs rw)] := by rw [codeRs_at, h2]; rfl
  have r4 : (insRs rw)[k]? = some [iD x.op, iD x.reg, iD x.loc, opsD x.e, opsD x.f, bD x.ne, iD x.to] := by rw [insRs_at, h4]; rfl
  have e1 : decide ((i : Int) < 0) = false := by simp
  have e2 : decide ((i : Int) ≥ (c.pc.length : Int)) = false := by simp; omega
  obtain ⟨gp, gr, gm, gb, rs⟩ := q
  rcases gp with _ | ⟨b, cap⟩
  · have h0 : c.pc.length = 0 := hq.pc
    omega
  refine Fun.of T [.tmp 10, .tmp 11] Try.func83 rfl Try.ntmps83 Try.results83 rfl (by kernel_rfl) ?_
  show VC _ _ _ ⟨argE [.agg (unC u), .agg [.gs (some (b, cap)) c.pc.length, .gs gr c.regs.length, .gs gm c.mem.length, .gs gb c.bufs.length], iD m, iD r, iD (i : Nat)] 0, (b, .cells 3 (cap * 1) (c.pc.map iD)) :: shp gr 22 1 (rgC rs) (shp gm 3 1 (c.mem.map iD) (shp gb 82 1 (c.bufs.map buf) (rgH rs [])))⟩ _
  repeat' first | refine vb (t := 25) rfl rfl rfl rfl ?_ | refine vb (t := 41) rfl rfl rfl rfl ?_ | refine dr (id := 3) T 17 (by kernel_rfl) ?_ | refine gn ?_ | (apply VCg.step T rfl rfl); focus ((try simp (disch := omega) only [go_sem, Nat.reduceBEq, Nat.reduceAdd, Nat.reduceLeDiff, Nat.mul_one, h1, r2, r4, codeRs_len, insRs_len]); (first | exact rfl | refine ⟨?_, rfl⟩; try omega)) | refine vs T rfl fun K hK => ?_; (try simp (disch := omega) only [go_sem, Nat.reduceBEq, Nat.reduceAdd, e1, e2, Nat.mul_one]); (first | refine hK _ _ ?_; clear hK K | intro bq hbq; (try simp only [HB] at hbq); refine hK _ _ ?_; clear hK K) | refine st rfl ?_ | refine sc rfl ?_ | refine nl ?_ | refine gs rfl rfl ?_
  first | exact ret2 T (List.Sublist.refl _) ⟨bq, trivial, rfl, by simp [dW, OC.h, shp_some]⟩ | exact ret2 T (List.Sublist.refl _) ⟨bq, rfl, by simp [dW, OC.h, shp_some]⟩

/-- The functions of the instructions that change something. -/
def fnX (op : Int) : Option Nat := if op = 2 then some 85 else if op = 3 then some 86 else if op = 4 then some 87 else if op = 20 then some 88
  else if op = 21 then some 89 else if op = 5 then some 90 else if op = 6 then some 91 else if op = 7 then some 92 else none
abbrev fV (f : Nat) : Value := .func (.func f) #[] #[]
def tabX : List (Int × Value) := [(2, fV 85), (3, fV 86), (4, fV 87), (20, fV 88), (21, fV 89), (5, fV 90), (6, fV 91), (7, fV 92)]
theorem tabX_find (op : Int) : findI op tabX = (fnX op).map fV := by
  unfold tabX fnX
  by_cases h2 : op = 2
  · subst h2; rfl
  by_cases h3 : op = 3
  · subst h3; rfl
  by_cases h4 : op = 4
  · subst h4; rfl
  by_cases h20 : op = 20
  · subst h20; rfl
  by_cases h21 : op = 21
  · subst h21; rfl
  by_cases h5 : op = 5
  · subst h5; rfl
  by_cases h6 : op = 6
  · subst h6; rfl
  by_cases h7 : op = 7
  · subst h7; rfl
  simp only [findI, h2, h3, h4, h20, h21, h5, h6, h7, if_false, beq_eq_false_iff_ne.2 h2, beq_eq_false_iff_ne.2 h3, beq_eq_false_iff_ne.2 h4, beq_eq_false_iff_ne.2 h20, beq_eq_false_iff_ne.2 h21, beq_eq_false_iff_ne.2 h5, beq_eq_false_iff_ne.2 h6, beq_eq_false_iff_ne.2 h7, cond_false]
  rfl
theorem does_ok {f : Nat} {bd : Nat} {u : Un} {q : OC} {c : Cf} (hq : q.ok c) {m r : Int} {i : Nat} {x : Ins} {row : List Int} {b : List En} (h : Fit u c i x row b) (hf : fnX x.op = some f) : DoesTo f bd u q c m r i x (afterX u c m i x row b) := by
  unfold fnX at hf
  unfold afterX
  by_cases h2 : x.op = 2
  · rw [if_pos h2] at hf; cases hf
    simp only [h2, show ¬ ((2 : Int) = 20) by decide, show ¬ ((2 : Int) = 21) by decide, if_false, if_true]
    exact compute_ok bd u q c hq m r i x row b h h2
  rw [if_neg h2] at hf
  by_cases h3 : x.op = 3
  · rw [if_pos h3] at hf; cases hf
    simp only [h3, show ¬ ((3 : Int) = 20) by decide, show ¬ ((3 : Int) = 21) by decide, show ¬ ((3 : Int) = 2) by decide, if_false, if_true]
    exact load_ok bd u q c hq m r i x row b h h3
  rw [if_neg h3] at hf
  by_cases h4 : x.op = 4
  · rw [if_pos h4] at hf; cases hf
    simp only [h4, show ¬ ((4 : Int) = 20) by decide, show ¬ ((4 : Int) = 21) by decide, show ¬ ((4 : Int) = 2) by decide, show ¬ ((4 : Int) = 3) by decide, if_false, if_true]
    by_cases hm : m = 1
    · rw [if_pos hm]
      exact write_sc bd u q c hq m r i x row b h h4 (by simpa using hm)
    · rw [if_neg hm]
      exact wait_ok bd u q c h.okc hq m r (by simpa using hm) i x h.e row h.reg b h.buf
  rw [if_neg h4] at hf
  by_cases h20 : x.op = 20
  · rw [if_pos h20] at hf; cases hf
    rw [if_pos h20]
    exact jump_ok bd u q c hq m r i x row b h
  rw [if_neg h20] at hf
  by_cases h21 : x.op = 21
  · rw [if_pos h21] at hf; cases hf
    rw [if_neg h20, if_pos h21]
    exact branch_ok bd u q c hq m r i x row b h
  rw [if_neg h21] at hf
  by_cases h5 : x.op = 5
  · rw [if_pos h5] at hf; cases hf
    simp only [h5, show ¬ ((5 : Int) = 20) by decide, show ¬ ((5 : Int) = 21) by decide, show ¬ ((5 : Int) = 2) by decide, show ¬ ((5 : Int) = 3) by decide, show ¬ ((5 : Int) = 4) by decide, if_false, if_true]
    exact swap_ok bd u q c hq m r i x row b h h5
  rw [if_neg h5] at hf
  by_cases h6 : x.op = 6
  · rw [if_pos h6] at hf; cases hf
    simp only [h6, show ¬ ((6 : Int) = 20) by decide, show ¬ ((6 : Int) = 21) by decide, show ¬ ((6 : Int) = 2) by decide, show ¬ ((6 : Int) = 3) by decide, show ¬ ((6 : Int) = 4) by decide, show ¬ ((6 : Int) = 5) by decide, if_false, if_true]
    exact add_ok bd u q c hq m r i x row b h h6
  rw [if_neg h6] at hf
  by_cases h7 : x.op = 7
  · rw [if_pos h7] at hf; cases hf
    simp only [h7, show ¬ ((7 : Int) = 20) by decide, show ¬ ((7 : Int) = 21) by decide, show ¬ ((7 : Int) = 2) by decide, show ¬ ((7 : Int) = 3) by decide, show ¬ ((7 : Int) = 4) by decide, show ¬ ((7 : Int) = 5) by decide, show ¬ ((7 : Int) = 6) by decide, if_false, if_true]
    exact exchange_ok bd u q c hq m r i x row b h h7
  rw [if_neg h7] at hf
  cases hf
theorem after_no {u : Un} {c : Cf} {m : Int} {i : Nat} {x : Ins} {row : List Int} {b : List En} (hf : fnX x.op = none) : afterX u c m i x row b = c := by
  unfold fnX at hf
  unfold afterX
  repeat' split at hf
  all_goals first | cases hf | skip
  simp_all

theorem umX : Try.prog.underlying 141 = some (.map 3 140) := by kernel_rfl
theorem zX : (Try.prog.info? 140).bind (·.zero) = some .nilFunc := by kernel_rfl

set_option maxHeartbeats 16000000 in
theorem act_ok (u : Un) (c : Cf) (hc : OkC c) (m r : Int) (i : Nat) (x : Ins) (row : List Int) (b0 : List En) (h : Thr u c i x row b0) (p : Nat) (hp : c.pc[i]? = some (p : Int)) (hpl : p ≤ 100000) (hF : Fit u (setP c i ((p + 1 : Nat) : Int)) i x row b0) :
    Fun Try.prog 81 [.agg (unC u), .agg (cfC c), iD m, iD r, iD (i : Nat)] [] false
    (fun d H' => ∃ q : OC, q.ok (match enT u c m r (i : Nat) with | true => afterX u (setP c i ((p + 1 : Nat) : Int)) m i x row b0 | false => c) ∧
      d = .tup [.agg (q.cs (match enT u c m r (i : Nat) with | true => afterX u (setP c i ((p + 1 : Nat) : Int)) m i x row b0 | false => c)), bD (enT u c m r (i : Nat))] ∧
      H' = q.h (match enT u c m r (i : Nat) with | true => afterX u (setP c i ((p + 1 : Nat) : Int)) m i x row b0 | false => c) []) := by
  have hil := (List.getElem?_eq_some_iff.1 hp).1
  have cc := copy_ok c hc
  have hw : IntKind.i64.wrap ((p : Int) + 1) = ((p + 1 : Nat) : Int) := by rw [w64 (by omega)]; omega
  have ce := enabled_ok u c hc m r i x h.e row h.reg b0 h.buf
  rw [← enT_at h] at ce
  refine Fun.of T [.cell 10 41, .tmp 11] Try.func81 rfl Try.ntmps81 Try.results81 rfl (by kernel_rfl) ?_
  repeat' first | refine vb (t := 25) rfl rfl rfl rfl ?_ | refine vb (t := 41) rfl rfl rfl rfl ?_ | refine VC.drawS (id := 1) (by kernel_rfl) ?_ | refine VCd.group T (s := 0) 6 11 rfl rfl (by kernel_rfl) (by kernel_rfl) (by kernel_rfl) ?_; (try simp only [List.drop_zero, Nat.reduceSub]) | refine VCg.nil T ?_; simp only [allK, WB] | apply VCg.step T rfl rfl; focus ((try simp (disch := omega) only [go_sem, Nat.reduceBEq, Nat.reduceAdd, Nat.reduceLeDiff]); (exact rfl)) | refine VCg.ownx T rfl rfl rfl rfl (cc) rfl ?_ | refine vs T rfl fun K hK => ?_; (try simp (disch := omega) only [go_sem, Nat.reduceAdd]); (first | refine hK _ _ ?_; clear hK K | intro bq hbq; (try simp only [HB] at hbq); refine hK _ _ ?_; clear hK K) | refine st rfl ?_ | refine nl ?_
  rintro _ _ ⟨q, hq, rfl, rfl⟩ hap
  obtain ⟨gp, gr, gm, gb, rs⟩ := q
  rcases gp with _ | ⟨b, cap⟩
  · have h0 : c.pc.length = 0 := hq.pc
    omega
  refine VCd.one rfl (by decide) (by kernel_rfl) rfl rfl (fun K hK => ?_)
  refine Op1.cally (Hr := [(bq, .cells 41 4 [.gs none 0, .gs none 0, .gs none 0, .gs none 0])]) rfl rfl (at_own u _ c hq m r i x h.at_) rfl (List.Perm.refl _) (fun bd _ => ?_)
  refine hK _ _ ?_
  clear hK K
  show VCd _ _ _ _ ⟨upd _ 24 (.tup [pD bd, bD true]), _⟩ _
  refine VCd.weak (Weak.perm (H' := (bq, .cells 41 4 [.gs none 0, .gs none 0, .gs none 0, .gs none 0]) :: dW bd u ⟨some (b, cap), gr, gm, gb, rs⟩ c m r (i : Nat) x) (perm_of fun a => by simp only [cnt_cons, cnt_app, cnt_nil]; omega)) ?_
  refine VCd.nodup fun hn => ?_
  have n1 : ¬ bq = bd := fun h => by subst h; simp [Heap.blocks, dW] at hn
  have n2 : ¬ bq = b := fun h => by subst h; simp [Heap.blocks, dW, OC.h, shp_some] at hn
  have n3 : ¬ bd = b := fun h => by subst h; simp [Heap.blocks, dW, OC.h, shp_some] at hn
  have hfz := FzL.sub (H' := (bq, .cells 41 4 [.gs none 0, .gs none 0, .gs none 0, .gs none 0]) :: dW bd u ⟨some (b, cap), gr, gm, gb, rs⟩ c m r (i : Nat) x) (fun y hy => List.mem_cons_of_mem _ hy) (dW_fz1 (bd := bd) (u := u) (m := m) (r := r) (t := (i : Nat)) (x := x) hq)
  cases hen : enT u c m r (i : Nat) with
  | false =>
    rw [hen] at ce
    repeat' first | refine VCd.tail (f := 11) (by kernel_rfl) ?_; (try simp only [List.drop_succ_cons, List.drop_zero]) | refine VCd.group T (s := 7) 11 11 rfl rfl (by kernel_rfl) (by kernel_rfl) (by kernel_rfl) ?_; (try simp only [List.drop_succ_cons, List.drop_zero, Nat.reduceSub]) | refine gn ?_ | apply VCg.step T rfl rfl; focus ((try simp (disch := omega) only [go_sem, Nat.reduceBEq, dW]); (exact rfl)) | refine vs T rfl fun K hK => ?_; (try simp (disch := omega) only [go_sem, Nat.reduceBEq, Nat.reduceAdd, Nat.reduceLeDiff, dW, Bool.not_true, Bool.not_false]); (first | refine hK _ _ ?_; clear hK K | refine Op1.lend rfl rfl (ce) (hfz) (.inr rfl) ?_; refine hK _ _ ?_; clear hK K) | refine st rfl ?_ | refine sc rfl ?_ | refine nl ?_ | refine ov ?_
    exact retc1 T rfl (by (try simp (disch := omega) only [hget_ne, hget_eq]); rfl) rfl rfl rfl ((List.sublist_cons_self _ _).trans (List.sublist_cons_self _ _)) ⟨⟨some (b, cap), gr, gm, gb, rs⟩, hq, rfl, rfl⟩
  | true =>
    rw [hen] at ce
    show VCd _ _ _ _ ⟨_, (bq, _) :: (bd, .cells _ 18 (doO u ⟨some (b, cap), gr, gm, gb, rs⟩ c m r (i : Nat) x)) :: (b, .cells 3 (cap * 1) (c.pc.map iD)) :: shp gr 22 1 (rgC rs) (shp gm 3 1 (c.mem.map iD) (shp gb 82 1 (c.bufs.map buf) (rgH rs [])))⟩ _
    have hp1 : c.pc[i * 1]? = some (p : Int) := by rw [Nat.mul_one]; exact hp
    repeat' first | refine vt rfl fun K hK => ?_; refine r_makeMap rfl umX (fun x hx => (by cases hx)) (fun bq hbq => ?_); (try simp only [HB] at hbq); refine hK _ _ ?_; clear hK K; (try simp only [updO]) | refine vt rfl fun K hK => ?_; refine r_mapSet (.inr rfl) umX Try.underlying3 rfl rfl rfl (by (try simp (disch := omega) only [hget_eq]); rfl) (by rfl) ?_; refine hK _ _ ?_; clear hK K; (try simp (disch := omega) only [updO, hset_eq, List.nil_append, List.cons_append]) | refine VCd.tail (f := 11) (by kernel_rfl) ?_; (try simp only [List.drop_succ_cons, List.drop_zero]) | refine VCd.group T (s := 7) 11 11 rfl rfl (by kernel_rfl) (by kernel_rfl) (by kernel_rfl) ?_; (try simp only [List.drop_succ_cons, List.drop_zero, Nat.reduceSub]) | refine gn ?_ | apply VCg.step T rfl rfl; focus ((try simp (disch := omega) only [go_sem, Nat.reduceBEq]); (exact rfl)) | refine vs T rfl fun K hK => ?_; (try simp (disch := omega) only [go_sem, Nat.reduceBEq, hp1, hw, Bool.not_true]); (first | refine hK _ _ ?_; clear hK K | refine ⟨?_, hK _ _ ?_⟩ <;> clear hK K; focus (try omega) | refine Op1.lend rfl rfl (ce) (hfz) (.inr rfl) ?_; refine hK _ _ ?_; clear hK K | skip) | refine st rfl ?_ | refine sc rfl ?_ | refine nl ?_ | refine ov ?_
    rename_i bc hbc hx0
    refine Op1.cally (Hr := [(bq, .obj (mapI tabX)), (bc, .cells 41 4 [.gs none 0, .gs none 0, .gs none 0, .gs none 0])]) rfl rfl (goes_ok bd u _ c hq m r i hil x ((p + 1 : Nat) : Int)) rfl (perm_of fun a => by simp only [tabX, fV, dW, doO, OC.h, shp_some, cnt_shp, cnt_rgH, cnt_cons, cnt_app, cnt_nil]; omega) (fun q1 hq1 => ?_)
    refine hK _ _ ?_
    clear hK K
    try simp only [updO]
    refine vo ?_
    refine VCo.weak (Weak.perm (H' := (bq, .obj (mapI tabX)) :: (bc, .cells 41 4 [.gs none 0, .gs none 0, .gs none 0, .gs none 0]) :: dW bd u q1 (setP c i ((p + 1 : Nat) : Int)) m r (i : Nat) x) (perm_of fun a => by simp only [tabX, fV, dW, doO, OC.h, shp_some, cnt_shp, cnt_rgH, cnt_cons, cnt_app, cnt_nil]; omega)) ?_
    refine VCo.nodup fun hn2 => ?_
    have n4 : ¬ bq = bd := fun h => by subst h; simp [Heap.blocks, dW] at hn2
    have n5 : ¬ bc = bd := fun h => by subst h; simp [Heap.blocks, dW] at hn2
    have n6 : ¬ bq = bc := fun h => by subst h; simp [Heap.blocks, dW] at hn2
    repeat' first | refine vs T rfl fun K hK => ?_; (try simp (disch := omega) only [go_sem, Nat.reduceBEq, dW]); (first | refine hK _ _ ?_; clear hK K | skip) | refine st rfl ?_ | refine nl ?_ | refine ov ?_
    cases hf : fnX x.op with
    | none =>
      refine r_lookI rfl umX Try.underlying3 zX rfl rfl hget_eq (r := (.nilFunc, false)) (by rw [tabX_find, hf]; rfl) (fun cs h => by cases h) ?_
      refine hK _ _ ?_
      clear hK K
      try simp only [updO]
      rw [after_no hf]
      repeat' first | refine vs T rfl fun K hK => ?_; (try simp (disch := omega) only [go_sem, Nat.reduceBEq, Nat.reduceAdd, Nat.reduceLeDiff, valD]); (refine hK _ _ ?_; clear hK K) | refine st rfl ?_ | refine sc rfl ?_ | refine nl ?_
      exact retc1 T rfl (by (try simp (disch := omega) only [hget_ne, hget_eq]); rfl) rfl rfl rfl ((List.sublist_cons_self _ _).trans ((List.sublist_cons_self _ _).trans (List.sublist_cons_self _ _))) ⟨q1, hq1, rfl, rfl⟩
    | some f =>
      refine r_lookI rfl umX Try.underlying3 zX rfl rfl hget_eq (r := (fV f, true)) (by rw [tabX_find, hf]; rfl) (fun cs h => by cases h) ?_
      refine hK _ _ ?_
      clear hK K
      try simp only [updO]
      repeat' first | refine vs T rfl fun K hK => ?_; (try simp (disch := omega) only [go_sem, Nat.reduceBEq, valD]); (first | refine hK _ _ ?_; clear hK K | skip) | refine st rfl ?_ | refine sc rfl ?_ | refine nl ?_
      refine Op1.cally (Hr := [(bq, .obj (mapI tabX)), (bc, .cells 41 4 [.gs none 0, .gs none 0, .gs none 0, .gs none 0])]) rfl rfl (does_ok (m := m) (r := r) hq1 hF hf) rfl (perm_of fun a => by simp only [tabX, fV, dW, doO, OC.h, shp_some, cnt_shp, cnt_rgH, cnt_cons, cnt_app, cnt_nil]; omega) (fun q2 hq2 => ?_)
      refine hK _ _ ?_
      clear hK K
      try simp only [updO]
      refine vo ?_
      refine VCo.weak (Weak.perm (H' := (bq, .obj (mapI tabX)) :: (bc, .cells 41 4 [.gs none 0, .gs none 0, .gs none 0, .gs none 0]) :: dW bd u q2 (afterX u (setP c i ((p + 1 : Nat) : Int)) m i x row b0) m r (i : Nat) x) (perm_of fun a => by simp only [tabX, fV, dW, doO, OC.h, shp_some, cnt_shp, cnt_rgH, cnt_cons, cnt_app, cnt_nil]; omega)) ?_
      repeat' first | refine vs T rfl fun K hK => ?_; (try simp (disch := omega) only [go_sem, Nat.reduceBEq, Nat.reduceAdd, Nat.reduceLeDiff, dW]); (refine hK _ _ ?_; clear hK K) | refine st rfl ?_ | refine nl ?_ | refine ov ?_
      exact retc1 T rfl (by (try simp (disch := omega) only [hget_ne, hget_eq]); rfl) rfl rfl rfl ((List.sublist_cons_self _ _).trans ((List.sublist_cons_self _ _).trans (List.sublist_cons_self _ _))) ⟨q2, hq2, rfl, rfl⟩
end Go.Proofs.Ytfifcjgcajpnoaa
