/- Plain law: one step changes little. No condition. -/
import Derived.Test.YtomcmfbpmkklmaaGreatFa
import Derived.Test.YtomcmfbpmkklmaaGreatRt
import Derived.Test.YtomcmfbpmkklmaaGreatFl
import Derived.Test.YtomcmfbpmkklmaaGreatFn
import Derived.Test.YtomcmfbpmkklmaaGreatSa
import Derived.Test.YtomcmfbpmkklmaaGreatXk
namespace Go.Proofs.YtomcmfbpmkklmaaGreat
set_option maxHeartbeats 16000000
set_option linter.unusedSimpArgs false
set_option linter.unusedVariables false
set_option maxRecDepth 20000
open Go Go.Proofs Go.Vc
section
variable {α : Type} [DecidableEq α]
theorem difK_set (l : List α) (i : Nat) (x : α) : ∀ k, (k ≤ i → difK l (l.set i x) k = 0) ∧ difK l (l.set i x) k ≤ 1
 | 0 => ⟨fun _ => rfl, Nat.zero_le _⟩
 | k + 1 => by
  obtain ⟨h1, h2⟩ := difK_set l i x k
  rw [difK]
  by_cases hk : i = k
  ·subst hk
   have := h1 (Nat.le_refl _)
   refine ⟨fun h => by omega, ?_⟩
   split <;> omega
  ·rw [List.getElem?_set_ne hk, if_pos rfl]
   exact ⟨fun h => h1 (by omega), h2⟩
theorem difN_set (l : List α) (i : Nat) (x : α) : difN l (l.set i x) ≤ 1 := (difK_set l i x _).2
theorem difN_self (l : List α) : difN l l = 0 := (difN_zero l l).2 rfl
theorem rowD_set (l : List (List α)) (i : Nat) (x : List α) : ∀ k, (k ≤ i → rowD l (l.set i x) k = 0) ∧ rowD l (l.set i x) k ≤ difN (l.getD i []) ((l.set i x).getD i [])
 | 0 => ⟨fun _ => rfl, Nat.zero_le _⟩
 | k + 1 => by
  obtain ⟨h1, h2⟩ := rowD_set l i x k
  rw [rowD]
  by_cases hk : i = k
  ·subst hk
   have := h1 (Nat.le_refl _)
   exact ⟨fun h => by omega, by omega⟩
  ·have e : (l.set i x).getD k [] = l.getD k [] := by simp [List.getD_eq_getElem?_getD, List.getElem?_set_ne hk]
   rw [e, difN_self]
   exact ⟨fun h => h1 (by omega), h2⟩
theorem rowN_set (l : List (List α)) (i : Nat) (x : List α) : rowN l (l.set i x) ≤ difN (l.getD i []) ((l.set i x).getD i []) := (rowD_set l i x _).2
theorem rowN_self (l : List (List α)) : rowN l l = 0 := by
 have h : ∀ k, rowD l l k = 0 := fun k => by
  induction k with
  | zero => rfl
  | succ k ih => rw [rowD, ih, difN_self]
 exact h _
end
structure Nr (i : Nat) (c d : Cf) : Prop where
 pc : d.pc = c.pc ∨ ∃ n, d.pc = c.pc.set i n
 regs : d.regs = c.regs ∨ ∃ k v, d.regs = c.regs.set i ((c.regs.getD i []).set k v)
 mem : d.mem = c.mem ∨ ∃ k v, d.mem = c.mem.set k v
 bufs : d.bufs = c.bufs ∨ ∃ b, d.bufs = c.bufs.set i b
theorem Nr.refl (i : Nat) (c : Cf) : Nr i c c := ⟨.inl rfl, .inl rfl, .inl rfl, .inl rfl⟩
theorem near_after (u : Un) (c : Cf) (m : Int) (i : Nat) (n : Int) (x : Ins) (b : List En) : Nr i c (afterX u (setP c i n) m i x (c.regs.getD i []) b) := by
 have h1 : ∃ k, (setP c i n).pc = c.pc.set i k := ⟨n, rfl⟩
 have h2 : ∀ v, ∃ k, ((setP c i n).pc).set i v = c.pc.set i k := fun v => ⟨v, by show (c.pc.set i n).set i v = _; rw [List.set_set]⟩
 unfold afterX setRX
 split
 ·exact ⟨.inr (h2 _), .inl rfl, .inl rfl, .inl rfl⟩
 split
 ·split
  ·exact ⟨.inr (h2 _), .inl rfl, .inl rfl, .inl rfl⟩
  ·exact ⟨.inr h1, .inl rfl, .inl rfl, .inl rfl⟩
 split
 ·exact ⟨.inr h1, .inr ⟨_, _, rfl⟩, .inl rfl, .inl rfl⟩
 split
 ·exact ⟨.inr h1, .inr ⟨_, _, rfl⟩, .inl rfl, .inl rfl⟩
 split
 ·split
  ·exact ⟨.inr h1, .inl rfl, .inr ⟨_, _, rfl⟩, .inl rfl⟩
  ·exact ⟨.inr h1, .inl rfl, .inl rfl, .inr ⟨_, rfl⟩⟩
 split
 ·split
  ·exact ⟨.inr h1, .inr ⟨_, _, rfl⟩, .inr ⟨_, _, rfl⟩, .inl rfl⟩
  ·exact ⟨.inr h1, .inr ⟨_, _, rfl⟩, .inl rfl, .inl rfl⟩
 split
 ·exact ⟨.inr h1, .inr ⟨_, _, rfl⟩, .inr ⟨_, _, rfl⟩, .inl rfl⟩
 split
 ·exact ⟨.inr h1, .inr ⟨_, _, rfl⟩, .inr ⟨_, _, rfl⟩, .inl rfl⟩
 ·exact ⟨.inr h1, .inl rfl, .inl rfl, .inl rfl⟩
theorem near_actM (u : Un) (c : Cf) (m r a : Int) : ∃ i, Nr i c (actM u c m r a) := by
 unfold actM
 split
 ·rename_i ag _
  cases ag with
  | th t =>
   refine ⟨t, ?_⟩
   show Nr t c (actT u c m r (t : Nat))
   unfold actT
   split
   ·split
    ·simp only [Int.toNat_natCast]
     exact near_after u c m t _ _ _
    ·exact Nr.refl _ _
   ·exact Nr.refl _ _
  | fl t l =>
   refine ⟨t, ?_⟩
   show Nr t c (flushC c m (t : Nat) l)
   unfold flushC
   split
   ·simp only [Int.toNat_natCast]
    exact ⟨.inl rfl, .inl rfl, .inr ⟨_, _, rfl⟩, .inr ⟨_, rfl⟩⟩
   ·exact Nr.refl _ _
 ·exact ⟨0, Nr.refl _ _⟩
theorem len24 {u : Un} {c : Cf} {m r : Int} (h : Rt u c m r) (i : Nat) : (c.bufs.getD i []).length ≤ 24 ∧ (m = 1 → c.bufs.getD i [] = []) := by
 obtain ⟨hU, ⟨_, _, hl, _⟩, _, ht, hg⟩ := rightC_iff.1 h.rt
 rcases Nat.lt_or_ge i c.bufs.length with hi | hi
 ·have h1 := (thrB_iff.1 (ht i (by omega))).2.2
  obtain ⟨g1, g2⟩ := rightR_iff.1 h1
  have hU' := hU
  simp only [unitB, headB, Bool.and_eq_true, decide_eq_true_eq] at hU'
  simp only [gateR, Bool.and_eq_true, decide_eq_true_eq] at g1
  refine ⟨?_, g2.p1⟩
  have : m = 1 ∨ m = 2 ∨ m = 3 := by omega
  rcases this with hm | hm | hm
  ·rw [g2.p1 hm]; simp
  ·have := g2.p2 hm; omega
  ·have h3 := (g2.p3 hm).2
   have := len_cnt 4 6 _ (fun e he => by have := g2.el e he; omega) (fun l => by have := h3 l; omega)
   omega
 ·have e : c.bufs.getD i [] = [] := by rw [List.getD_eq_getElem?_getD, List.getElem?_eq_none hi]; rfl
  rw [e]
  exact ⟨Nat.zero_le _, fun _ => rfl⟩
theorem chg_act {u : Un} {c : Cf} {m r : Int} (h : Rt u c m r) (a : Int) : chgF c (actM u c m r a) ≤ 27 ∧ (m = 1 → chgF c (actM u c m r a) ≤ 3) := by
 obtain ⟨i, hn⟩ := near_actM u c m r a
 have hd := h.actM a
 generalize actM u c m r a = d at *
 have e1 : difN c.pc d.pc ≤ 1 := by
  rcases hn.pc with e | ⟨n, e⟩ <;> rw [e]
  ·rw [difN_self]; omega
  ·exact difN_set _ _ _
 have e2 : difN c.mem d.mem ≤ 1 := by
  rcases hn.mem with e | ⟨k, n, e⟩ <;> rw [e]
  ·rw [difN_self]; omega
  ·exact difN_set _ _ _
 have e3 : rowN c.regs d.regs ≤ 1 := by
  rcases hn.regs with e | ⟨k, n, e⟩ <;> rw [e]
  ·rw [rowN_self]; omega
  ·refine Nat.le_trans (rowN_set _ _ _) ?_
   rcases Nat.lt_or_ge i c.regs.length with hi | hi
   ·rw [show (c.regs.set i ((c.regs.getD i []).set k n)).getD i [] = (c.regs.getD i []).set k n by simp [List.getD_eq_getElem?_getD, hi]]
    exact difN_set _ _ _
   ·rw [List.set_eq_of_length_le hi, difN_self]; omega
 have c1 := len24 h i
 have d1 := len24 hd i
 have e4 : rowN c.bufs d.bufs ≤ 24 ∧ (m = 1 → rowN c.bufs d.bufs = 0) := by
  rcases hn.bufs with e | ⟨b, e⟩
  ·rw [e, rowN_self]; omega
  ·have h2 := rowN_set c.bufs i b
   rw [← e] at h2
   refine ⟨?_, fun hm => ?_⟩
   ·have := difN_le (c.bufs.getD i []) (d.bufs.getD i [])
    omega
   ·rw [c1.2 hm, d1.2 hm, difN_self] at h2
    omega
 unfold chgF
 exact ⟨by omega, fun hm => by have := e4.2 hm; omega⟩
attribute [local irreducible] retQ VCg VCw VCx
abbrev c29C (u : Un) (m r b : Int) : List D := unC u ++ [iD m, iD r, iD b]
theorem lawTells29 (u : Un) (m r b : Int) (p : List Int) : Pure Tryz.prog 12 [.agg (c29C u m r b), ints p] (bD true) := by
 have cl := ulight_ok u
 have ck := known29_ok
 refine Fun.of T [.tmp 4] Tryz.func12 rfl Tryz.ntmps12 Tryz.results12 rfl (by kernel_rfl) ?_
 cases hL : lightU u with
 | false =>
  rw [hL] at cl
  repeat' first | refine vb (t := 27) rfl rfl rfl rfl ?_ | refine vs T rfl fun K hK => ?_; (try simp (disch := omega) only [go_sem, Nat.reduceBEq, Nat.reduceAdd, Nat.reduceLeDiff, Bool.not_false]); (first | refine hK _ _ ?_; clear hK K | refine Op1.callp rfl rfl (cl) rfl ?_; refine hK _ _ ?_; clear hK K | refine Op1.callp rfl rfl (ck) rfl ?_; refine hK _ _ ?_; clear hK K) | refine st rfl ?_ | refine sc rfl ?_ | refine nl ?_ | refine gs rfl rfl ?_ | exact ret1 T (List.nil_sublist _) ⟨rfl, rfl⟩
 | true =>
 rw [hL] at cl
 have hu := okU_light hL
 by_cases hp : p.length ≤ 60
 case neg =>
  repeat' first | refine vb (t := 27) rfl rfl rfl rfl ?_ | refine vs T rfl fun K hK => ?_; (try simp (disch := omega) only [go_sem, Nat.reduceBEq, Nat.reduceAdd, Nat.reduceLeDiff, Bool.not_true, iRs_len]); (first | refine hK _ _ ?_; clear hK K | refine Op1.callp rfl rfl (cl) rfl ?_; refine hK _ _ ?_; clear hK K | refine Op1.callp rfl rfl (ck) rfl ?_; refine hK _ _ ?_; clear hK K) | refine st rfl ?_ | refine sc rfl ?_ | refine nl ?_ | refine gs rfl rfl ?_ | exact ret1 T (List.nil_sublist _) ⟨rfl, rfl⟩ | with_reducible refine gsplit_intro (fun hc => ?_) (fun hc => ?_) <;> (try simp only [decide_eq_true_eq, decide_eq_false_iff_not, gt_iff_lt, Int.not_lt] at hc) <;> (try (exfalso; omega))
 have c1 := tell29_ok u hu m r p (by omega)
 have c2 := rtell29_ok u hu m r p (by omega)
 generalize tellF u m r p = x at *
 obtain ⟨t, e⟩ := x
 repeat' first | refine vb (t := 27) rfl rfl rfl rfl ?_ | refine vs T rfl fun K hK => ?_; (try simp (disch := omega) only [go_sem, Nat.reduceBEq, Nat.reduceAdd, Nat.reduceLeDiff, Bool.not_true, iRs_len, beq_self_eq_true, decide_true]); (first | refine hK _ _ ?_; clear hK K | refine Op1.callp rfl rfl (cl) rfl ?_; refine hK _ _ ?_; clear hK K | refine Op1.callp rfl rfl (ck) rfl ?_; refine hK _ _ ?_; clear hK K | refine Op1.callp rfl rfl (c1) rfl ?_; refine hK _ _ ?_; clear hK K | refine Op1.callp rfl rfl (c2) rfl ?_; refine hK _ _ ?_; clear hK K) | refine st rfl ?_ | refine sc rfl ?_ | refine nl ?_ | refine gs rfl rfl ?_ | exact ret1 T (List.nil_sublist _) ⟨rfl, rfl⟩ | with_reducible refine gsplit_intro (fun hc => ?_) (fun hc => ?_) <;> (try simp only [decide_eq_true_eq, decide_eq_false_iff_not, gt_iff_lt, Int.not_lt] at hc) <;> (try (exfalso; omega))
theorem goF_app29 {u : Un} {m r : Int} : ∀ (p q : List Int) (c : Cf) (k : Nat), (goF u m r c p k).2.2 = 0 → goF u m r c (p ++ q) k = goF u m r (goF u m r c p k).1 q (k + p.length)
 | [], q, c, k, h => rfl
 | a :: p, q, c, k, h => by
  have e : ∀ q, goF u m r c (a :: q) k = match enM u c m r a with | true => goF u m r (actM u c m r a) q (k + 1) | false => (c, k, 16) := fun _ => rfl
  rw [e] at h
  rw [List.cons_append, e, e, show k + (a :: p).length = k + 1 + p.length by rw [List.length_cons]; omega]
  cases he : enM u c m r a with
  | true => rw [he] at h; exact goF_app29 p q _ _ h
  | false => rw [he] at h; cases h
theorem rep_step {u : Un} (hu : OkU u) {m r : Int} {p : List Int} {k : Nat} (hk : k < p.length) (h1 : (repF u m r (p.take k)).2.2 = 0) (h2 : (repF u m r (p.take (k + 1))).2.2 = 0) :
  Rt u (repF u m r (p.take k)).1 m r ∧ (repF u m r (p.take (k + 1))).1 = actM u (repF u m r (p.take k)).1 m r (p.getD k 0) := by
 have hR := repF_rt hu (m := m) (r := r) (p := p.take k) (by rw [h1]; rfl)
 refine ⟨hR, ?_⟩
 cases hU : unitB u with
 | false => simp [repF, hU] at h1
 | true =>
  cases hM : okMR m r with
  | false => simp [repF, hU, hM] at h1
  | true =>
   have e : ∀ q, repF u m r q = goF u m r (startC u) q 0 := fun q => by simp [repF, hU, hM]
   rw [e] at h1 h2 ⊢
   rw [e]
   rw [take_getD 0 hk] at h2 ⊢
   rw [goF_app29 _ _ _ _ h1] at h2 ⊢
   simp only [goF] at h2 ⊢
   cases hE : enM u (goF u m r (startC u) (p.take k) 0).1 m r (p.getD k 0) with
   | true => rfl
   | false => rw [hE] at h2; cases h2
theorem lawSteps29 (u : Un) (m r b : Int) (p : List Int) : Pure Tryz.prog 13 [.agg (c29C u m r b), ints p] (bD true) := by
 have cl := ulight_ok u
 have ck := known29_ok
 refine Fun.of T [.tmp 4] Tryz.func13 rfl Tryz.ntmps13 Tryz.results13 rfl (by kernel_rfl) ?_
 cases hL : lightU u with
 | false =>
  rw [hL] at cl
  repeat' first | refine vb (t := 27) rfl rfl rfl rfl ?_ | refine vs T rfl fun K hK => ?_; (try simp (disch := omega) only [go_sem, Nat.reduceBEq, Nat.reduceAdd, Nat.reduceLeDiff, Bool.not_false]); (first | refine hK _ _ ?_; clear hK K | refine Op1.callp rfl rfl (cl) rfl ?_; refine hK _ _ ?_; clear hK K | refine Op1.callp rfl rfl (ck) rfl ?_; refine hK _ _ ?_; clear hK K) | refine st rfl ?_ | refine sc rfl ?_ | refine nl ?_ | refine gs rfl rfl ?_ | exact ret1 T (List.nil_sublist _) ⟨rfl, rfl⟩
 | true =>
 rw [hL] at cl
 have hu := okU_light hL
 by_cases hp : p.length ≤ 40
 case neg =>
  repeat' first | refine vb (t := 27) rfl rfl rfl rfl ?_ | refine vs T rfl fun K hK => ?_; (try simp (disch := omega) only [go_sem, Nat.reduceBEq, Nat.reduceAdd, Nat.reduceLeDiff, Bool.not_true, iRs_len]); (first | refine hK _ _ ?_; clear hK K | refine Op1.callp rfl rfl (cl) rfl ?_; refine hK _ _ ?_; clear hK K | refine Op1.callp rfl rfl (ck) rfl ?_; refine hK _ _ ?_; clear hK K) | refine st rfl ?_ | refine sc rfl ?_ | refine nl ?_ | refine gs rfl rfl ?_ | exact ret1 T (List.nil_sublist _) ⟨rfl, rfl⟩ | with_reducible refine gsplit_intro (fun hc => ?_) (fun hc => ?_) <;> (try simp only [decide_eq_true_eq, decide_eq_false_iff_not, gt_iff_lt, Int.not_lt] at hc) <;> (try (exfalso; omega))
 repeat' first | refine vb (t := 27) rfl rfl rfl rfl ?_ | refine vs T rfl fun K hK => ?_; (try simp (disch := omega) only [go_sem, Nat.reduceBEq, Nat.reduceAdd, Nat.reduceLeDiff, Bool.not_true, iRs_len]); (first | refine hK _ _ ?_; clear hK K | refine Op1.callp rfl rfl (cl) rfl ?_; refine hK _ _ ?_; clear hK K) | refine st rfl ?_ | refine sc rfl ?_ | refine nl ?_ | refine gs rfl rfl ?_ | with_reducible refine gsplit_intro (fun hc => ?_) (fun hc => ?_) <;> (try simp only [decide_eq_true_eq, decide_eq_false_iff_not, gt_iff_lt, Int.not_lt] at hc) <;> (try (exfalso; omega))
 refine VC.loop {k : Nat // k ≤ p.length} (fun x => ⟨lookD [(1, ints p), (2, .pt (c29C u m r b)), (5, iD (x.1 : Nat))], []⟩) (fun x => p.length - x.1) ⟨0, Nat.zero_le _⟩ ?_ ?_
 ·refine Weak_subEq rfl ?_
  simp [sub, upd]
 rintro ⟨k, hk⟩
 dsimp only at hk ⊢
 rcases Nat.lt_or_ge k p.length with hlt | hge
 ·have c1 := rreplay_ok u hu m r (p.take k) (by rw [List.length_take]; omega)
  have c2 := rreplay_ok u hu m r (p.take (k + 1)) (by rw [List.length_take]; omega)
  have hst := rep_step hu (m := m) (r := r) hlt
  have hs1 : (iRs p).take k = iRs (p.take k) := by simp [iRs, List.map_take]
  have hs2 : (iRs p).take (k + 1) = iRs (p.take (k + 1)) := by simp [iRs, List.map_take]
  have w1 : IntKind.i64.wrap ((k : Int) + 1) = ((k + 1 : Nat) : Int) := by rw [w64 (by omega)]; omega
  generalize repF u m r (p.take k) = x at *
  generalize repF u m r (p.take (k + 1)) = y at *
  obtain ⟨a, ka, e⟩ := x
  obtain ⟨d, kd, f⟩ := y
  dsimp only at hst c1 c2
  by_cases he : e = 0 ∧ f = 0
  case neg =>
   repeat' first | apply VC.drawM (id := 6) T 17 14 15 (s := 6) (ty := 43) rfl rfl rfl (by kernel_rfl) (by kernel_rfl) (by kernel_rfl) (by kernel_rfl) | apply VC.drawM (id := 7) T 18 15 16 (s := 9) (ty := 43) rfl rfl rfl (by kernel_rfl) (by kernel_rfl) (by kernel_rfl) (by kernel_rfl) | refine VCm.nil T ?_; simp only [allK, WB, Nat.reduceAdd]; try (refine fun (bq : Nat) hbq => ?_; (try simp only [HB] at hbq)) | apply VCm.step T (by rfl) (by rfl) rfl rfl; focus ((try simp (disch := omega) only [go_sem, Nat.reduceBEq, Nat.reduceAdd, Nat.reduceLeDiff, iRs_len, Int.toNat_natCast, hs1, hs2, w1]); (first | exact rfl | refine ⟨?_, rfl⟩; try omega | refine Op1.callp rfl rfl (c1) rfl ?_; exact ⟨rfl, rfl⟩ | refine Op1.callp rfl rfl (c2) rfl ?_; exact ⟨rfl, rfl⟩)) | apply VCm.alloc T; (case h1 => rfl); (case hg => rfl); (case hop => rfl); (case hd => rfl); (case hk => rfl); (case hz => rfl) | apply VCm.store T; (case h1 => rfl); (case h2 => rfl); (case hg => rfl); (case hd => rfl); (case hc => (intro b hb; (try simp (disch := omega) only [go_sem, Nat.reduceBEq, Nat.reduceAdd, Nat.reduceLeDiff]); exact rfl)); (case hz => (rfl)) | refine vs T rfl fun K hK => ?_; (try simp (disch := omega) only [go_sem, Nat.reduceBEq, iRs_len]); (first | refine hK _ _ ?_; clear hK K | refine Op1.callp rfl rfl (ck) rfl ?_; refine hK _ _ ?_; clear hK K) | refine st rfl ?_ | refine sc rfl ?_ | refine nl ?_ | refine gs rfl rfl ?_ | refine ov ?_ | exact ret1 T (List.nil_sublist _) ⟨rfl, rfl⟩ | with_reducible refine gsplit_intro (fun hc => ?_) (fun hc => ?_) <;> (try simp only [decide_eq_true_eq, decide_eq_false_iff_not, bne_iff_ne, bne_eq_false_iff_eq, ne_eq, Int.not_lt] at hc) <;> (try (exfalso; omega))
  obtain ⟨rfl, rfl⟩ := he
  obtain ⟨hR, rfl⟩ := hst rfl rfl
  have c3 := changes_ok a _ hR.okC (hR.actM (p.getD k 0)).okC
  have hn := chg_act hR (p.getD k 0)
  generalize chgF a (actM u a m r (p.getD k 0)) = n at *
  repeat' first | apply VC.drawM (id := 6) T 17 14 15 (s := 6) (ty := 43) rfl rfl rfl (by kernel_rfl) (by kernel_rfl) (by kernel_rfl) (by kernel_rfl) | apply VC.drawM (id := 7) T 18 15 16 (s := 9) (ty := 43) rfl rfl rfl (by kernel_rfl) (by kernel_rfl) (by kernel_rfl) (by kernel_rfl) | refine VCm.nil T ?_; simp only [allK, WB, Nat.reduceAdd]; try (refine fun (bq : Nat) hbq => ?_; (try simp only [HB] at hbq)) | apply VCm.step T (by rfl) (by rfl) rfl rfl; focus ((try simp (disch := omega) only [go_sem, Nat.reduceBEq, Nat.reduceAdd, Nat.reduceLeDiff, iRs_len, Int.toNat_natCast, hs1, hs2, w1]); (first | exact rfl | refine ⟨?_, rfl⟩; try omega | refine Op1.callp rfl rfl (c1) rfl ?_; exact ⟨rfl, rfl⟩ | refine Op1.callp rfl rfl (c2) rfl ?_; exact ⟨rfl, rfl⟩)) | apply VCm.alloc T; (case h1 => rfl); (case hg => rfl); (case hop => rfl); (case hd => rfl); (case hk => rfl); (case hz => rfl) | apply VCm.store T; (case h1 => rfl); (case h2 => rfl); (case hg => rfl); (case hd => rfl); (case hc => (intro b hb; (try simp (disch := omega) only [go_sem, Nat.reduceBEq, Nat.reduceAdd, Nat.reduceLeDiff]); exact rfl)); (case hz => (rfl)) | refine vs T rfl fun K hK => ?_; (try simp (disch := omega) only [go_sem, Nat.reduceBEq, Nat.reduceAdd, Nat.reduceLeDiff, iRs_len, w1, bne_self_eq_false]); (first | refine hK _ _ ?_; clear hK K | refine Op1.callp rfl rfl (c3) rfl ?_; refine hK _ _ ?_; clear hK K) | refine st rfl ?_ | refine sc rfl ?_ | refine nl ?_ | refine gs rfl rfl ?_ | refine ov ?_ | with_reducible refine gsplit_intro (fun hc => ?_) (fun hc => ?_) <;> (try simp only [decide_eq_true_eq, decide_eq_false_iff_not, beq_iff_eq, beq_eq_false_iff_ne, ne_eq, gt_iff_lt, Int.not_lt] at hc) <;> (try (exfalso; omega))
  all_goals
   refine ⟨⟨k + 1, hlt⟩, Weak.subH (List.nil_sublist _) ?_, by dsimp only; omega⟩
   simp [sub, upd]
 ·repeat' first | refine vs T rfl fun K hK => ?_; (try simp (disch := omega) only [go_sem, Nat.reduceBEq, iRs_len]); (first | refine hK _ _ ?_; clear hK K | refine Op1.callp rfl rfl (ck) rfl ?_; refine hK _ _ ?_; clear hK K) | refine st rfl ?_ | refine sc rfl ?_ | refine nl ?_ | exact ret1 T (List.nil_sublist _) ⟨rfl, rfl⟩ | with_reducible refine gsplit_intro (fun hc => ?_) (fun hc => ?_) <;> (try simp only [decide_eq_true_eq, decide_eq_false_iff_not, Int.not_lt] at hc) <;> (try (exfalso; omega))
end Go.Proofs.YtomcmfbpmkklmaaGreat
