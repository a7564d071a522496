/- Contracts: a run as text. No condition. -/
import Derived.Test.YtomcmfbpmkklmaaGreatFj
import Derived.Test.YtomcmfbpmkklmaaGreatSa
namespace Go.Proofs.YtomcmfbpmkklmaaGreat
set_option maxHeartbeats 16000000
set_option linter.unusedSimpArgs false
set_option linter.unusedVariables false
set_option maxRecDepth 20000
open Go Go.Proofs Go.Vc
attribute [local irreducible] retQ VCg VCw VCx
def lnF (u : Un) (m a : Int) (d : Cf) : ByteArray := nameM u m a ++ ⟨#[32, 45, 62, 32]⟩ ++ tx (showF d) ++ ⟨#[10]⟩
def goT (u : Un) (m r : Int) : Cf → List Int → ByteArray → ByteArray × Int
 | c, [], s => (s, 0)
 | c, a :: p, s => match enM u c m r a with
  | true => goT u m r (actM u c m r a) p (s ++ lnF u m a (actM u c m r a))
  | false => (s, 16)
def tellF (u : Un) (m r : Int) (p : List Int) : ByteArray × Int := match unitB u, okMR m r with
 | false, _ => (⟨#[]⟩, 8)
 | true, false => (⟨#[]⟩, 1)
 | true, true => goT u m r (startC u) p (tx (showF (startC u)) ++ ⟨#[10]⟩)
theorem showF_size (c : Cf) (h : OkC c) : (tx (showF c)).size ≤ 300000 := by
 rw [tx_size]
 unfold showF
 split
 ·rename_i hr
  have h1 := (rightS_ok hr).2
  have h2 := thrsT_len c h c.pc.length
  have h3 := rowT_le c.mem
  have h4 := h.mem
  simp only [showT, List.length_append, List.length_cons]
  omega
 ·exact Nat.zero_le _
theorem nameM_size (u : Un) (m a : Int) : (nameM u m a).size ≤ 20 := by
 unfold nameM
 split
 ·rename_i g _
  cases g with
  | th t =>
   have h1 := dec6_size (t : Nat)
   simp only [nameA, ByteArray.size_append]
   have : bT.size = 1 := rfl
   omega
  | fl t l =>
   have h1 := dec6_size (t : Nat)
   have h2 := dec6_size l
   have q1 : bF.size = 1 := rfl
   have q2 : bP.size = 1 := rfl
   simp only [nameA]
   split <;> (simp only [ByteArray.size_append]; omega)
 ·exact Nat.zero_le _
theorem goT_yes {u : Un} {m r : Int} {c : Cf} {p : List Int} {k : Nat} {s : ByteArray} (h : k < p.length) (he : enM u c m r (p.getD k 0) = true) : goT u m r c (p.drop k) s = goT u m r (actM u c m r (p.getD k 0)) (p.drop (k + 1)) (s ++ lnF u m (p.getD k 0) (actM u c m r (p.getD k 0))) := by
 rw [drop_getD 0 h]
 simp only [goT, he]
theorem goT_no {u : Un} {m r : Int} {c : Cf} {p : List Int} {k : Nat} {s : ByteArray} (h : k < p.length) (he : enM u c m r (p.getD k 0) = false) : goT u m r c (p.drop k) s = (s, 16) := by
 rw [drop_getD 0 h]
 simp only [goT, he]
theorem tell29_ok (u : Un) (hu : OkU u) (m r : Int) (p : List Int) (hp : p.length ≤ 1000) : Pure Tryz.prog 55 [.agg (unC u), iD m, iD r, ints p] (.tup [sD (tellF u m r p).1, iD (tellF u m r p).2]) := by
 have cs := cstart_ok u hu
 refine Fun.of T [.tmp 8, .tmp 9] Tryz.func55 rfl Tryz.ntmps55 Tryz.results55 rfl (by kernel_rfl) ?_
 have z0 : (⟨#[10]⟩ : ByteArray).size = 1 := rfl
 have z2 : (#[10] : Array UInt8).size = 1 := rfl
 have z3 : (#[32, 45, 62, 32] : Array UInt8).size = 4 := rfl
 have z6 : (⟨#[32, 45, 62, 32]⟩ : ByteArray).size = 4 := rfl
 cases hU : unitB u with
 | false =>
  have cs : Pure Tryz.prog 63 [.agg (unC u)] (.tup [.agg (cfC cf0), iD 8]) := by rwa [show begC u = cf0 by simp [begC, hU], show begE u = 8 by simp [begE, hU]] at cs
  rw [show tellF u m r p = (⟨#[]⟩, 8) by simp [tellF, hU]]
  repeat' first | refine vb (t := 25) rfl rfl rfl rfl ?_ | refine vs T rfl fun K hK => ?_; (try simp (disch := omega) only [go_sem, Nat.reduceBEq, Nat.reduceAdd, Nat.reduceLeDiff]); (first | refine hK _ _ ?_; clear hK K | intro bq hbq; (try simp only [HB] at hbq); refine hK _ _ ?_; clear hK K | refine Op1.callp rfl rfl (cs) rfl ?_; refine hK _ _ ?_; clear hK K) | refine st rfl ?_ | refine sc rfl ?_ | refine nl ?_ | exact ret2 T (List.nil_sublist _) ⟨rfl, rfl⟩
 | true =>
 have cs : Pure Tryz.prog 63 [.agg (unC u)] (.tup [.agg (cfC (startC u)), iD 0]) := by rwa [show begC u = startC u by simp [begC, hU], show begE u = 0 by simp [begE, hU]] at cs
 by_cases hb : m < 1 ∨ m > 3 ∨ r < 1 ∨ r > 4
 ·rw [show tellF u m r p = (⟨#[]⟩, 1) by simp [tellF, hU, okMR_no hb]]
  repeat' first | refine vb (t := 25) rfl rfl rfl rfl ?_ | refine vs T rfl fun K hK => ?_; (try simp (disch := omega) only [go_sem, Nat.reduceBEq, Nat.reduceAdd, Nat.reduceLeDiff]); (first | refine hK _ _ ?_; clear hK K | intro bq hbq; (try simp only [HB] at hbq); refine hK _ _ ?_; clear hK K | refine Op1.callp rfl rfl (cs) rfl ?_; refine hK _ _ ?_; clear hK K) | refine st rfl ?_ | refine sc rfl ?_ | refine nl ?_ | refine gs rfl rfl ?_ | exact ret2 T (List.nil_sublist _) ⟨rfl, rfl⟩ | with_reducible refine gsplit_intro (fun hc => ?_) (fun hc => ?_) <;> (try simp only [decide_eq_true_eq, decide_eq_false_iff_not, gt_iff_lt, Int.not_lt] at hc) <;> (try (exfalso; omega))
 have hok : okMR m r = true := by simp only [okMR, Bool.and_eq_true, decide_eq_true_eq]; omega
 have h0 := start_right hu hU (m := m) (r := r) (by omega) (by omega)
 rw [show tellF u m r p = goT u m r (startC u) p (tx (showF (startC u)) ++ ⟨#[10]⟩) by simp [tellF, hU, hok]]
 generalize startC u = s0 at *
 have z1 := showF_size s0 h0.okC
 have c1 := show29_ok s0 h0.okC
 repeat' first | refine vb (t := 25) rfl rfl rfl rfl ?_ | refine vs T rfl fun K hK => ?_; (try simp (disch := omega) only [go_sem, Nat.reduceBEq, Nat.reduceAdd, Nat.reduceLeDiff, iRs_len]); (first | refine hK _ _ ?_; clear hK K | intro bq hbq; (try simp only [HB] at hbq); refine hK _ _ ?_; clear hK K | refine ⟨?_, hK _ _ ?_⟩ <;> clear hK K; focus (try omega) | refine Op1.callp rfl rfl (cs) rfl ?_; refine hK _ _ ?_; clear hK K | refine Op1.callp rfl rfl (c1) rfl ?_; refine hK _ _ ?_; clear hK K) | refine st rfl ?_ | refine sc rfl ?_ | refine nl ?_ | refine gs rfl rfl ?_ | with_reducible refine gsplit_intro (fun hc => ?_) (fun hc => ?_) <;> (try simp only [decide_eq_true_eq, decide_eq_false_iff_not, gt_iff_lt, Int.not_lt] at hc) <;> (try (exfalso; omega))
 refine VC.loop {x : Nat × Cf × ByteArray // x.1 ≤ p.length ∧ goT u m r s0 (p.drop 0) (tx (showF s0) ++ ⟨#[10]⟩) = goT u m r x.2.1 (p.drop x.1) x.2.2 ∧ Rt u x.2.1 m r ∧ x.2.2.size ≤ 400000 * (x.1 + 1)} (fun x => ⟨lookD [(1, iD m), (2, iD r), (3, ints p), (4, .pt (unC u)), (10, pD bq), (12, sD x.1.2.2), (43, ints p), (44, iD (p.length : Nat)), (45, iD (x.1.1 : Nat))], [(bq, .cells 43 4 (cfC x.1.2.1))]⟩) (fun x => p.length - x.1.1) ⟨(0, s0, tx (showF s0) ++ ⟨#[10]⟩), by dsimp only; omega, rfl, h0, by dsimp only; rw [ByteArray.size_append]; omega⟩ ?_ ?_
 ·refine Weak.sub ?_
  simp [sub, upd]
 rintro ⟨⟨k, c, s⟩, hk, hg, h, hsz⟩
 dsimp only at hk hg h hsz ⊢
 rcases Nat.lt_or_ge k p.length with hlt | hge
 case inr =>
  have hkp : k = p.length := by omega
  rw [hkp, List.drop_length] at hg
  rw [show goT u m r s0 p (tx (showF s0) ++ ⟨#[10]⟩) = _ from hg, hkp]
  repeat' first | refine vs T rfl fun K hK => ?_; (try simp (disch := omega) only [go_sem, Nat.reduceBEq]); (refine hK _ _ ?_; clear hK K) | refine st rfl ?_ | refine sc rfl ?_ | refine nl ?_ | exact ret2 T (List.nil_sublist _) ⟨rfl, rfl⟩ | with_reducible refine gsplit_intro (fun hc => ?_) (fun hc => ?_) <;> (try simp only [decide_eq_true_eq, decide_eq_false_iff_not, Int.not_lt] at hc) <;> (try (exfalso; omega))
 have ca := actM_ok h (p.getD k 0)
 have cn := nameM_ok u hu m (p.getD k 0)
 have hA := h.actM (p.getD k 0)
 have z4 := nameM_size u m (p.getD k 0)
 cases hE : enM u c m r (p.getD k 0) with
 | false =>
  rw [hE] at ca
  rw [show goT u m r s0 p (tx (showF s0) ++ ⟨#[10]⟩) = _ from hg.trans (goT_no hlt hE)]
  repeat' first | refine vs T rfl fun K hK => ?_; (try simp (disch := omega) only [go_sem, Nat.reduceBEq, Nat.reduceAdd, Nat.reduceLeDiff, ix_ints, Int.toNat_natCast, Bool.not_false]); (first | refine hK _ _ ?_; clear hK K | intro bq hbq; (try simp only [HB] at hbq); refine hK _ _ ?_; clear hK K | refine ⟨?_, hK _ _ ?_⟩ <;> clear hK K; focus (try omega) | refine Op1.callp rfl rfl (ca) rfl ?_; refine hK _ _ ?_; clear hK K) | refine st rfl ?_ | refine sc rfl ?_ | refine nl ?_ | exact ret2 T (List.nil_sublist _) ⟨rfl, rfl⟩ | with_reducible refine gsplit_intro (fun hc => ?_) (fun hc => ?_) <;> (try simp only [decide_eq_true_eq, decide_eq_false_iff_not, Int.not_lt] at hc) <;> (try (exfalso; omega))
 | true =>
  rw [hE] at ca
  have hg2 := hg.trans (goT_yes hlt hE)
  clear hg
  have hln : (lnF u m (p.getD k 0) (actM u c m r (p.getD k 0))) = nameM u m (p.getD k 0) ++ ⟨#[32, 45, 62, 32]⟩ ++ tx (showF (actM u c m r (p.getD k 0))) ++ ⟨#[10]⟩ := rfl
  generalize actM u c m r (p.getD k 0) = d at *
  have z5 := showF_size d hA.okC
  have c2 := show29_ok d hA.okC
  repeat' first | refine dr (id := 13) T 10 (by kernel_rfl) ?_ | refine gn ?_ | (first | apply VCg.step T rfl rfl | apply exF); focus ((try simp (disch := omega) only [go_sem, Nat.reduceBEq, Nat.reduceAdd, Nat.reduceLeDiff]); (first | exact rfl | refine ⟨?_, rfl⟩; try omega | refine Op1.callp rfl rfl (cn) rfl ?_; exact ⟨rfl, rfl⟩ | refine Op1.callp rfl rfl (c2) rfl ?_; exact ⟨rfl, rfl⟩)) | refine vs T rfl fun K hK => ?_; (try simp (disch := omega) only [go_sem, Nat.reduceBEq, Nat.reduceAdd, Nat.reduceLeDiff, ix_ints, Int.toNat_natCast, w64, Bool.not_true]); (first | refine hK _ _ ?_; clear hK K | intro bq hbq; (try simp only [HB] at hbq); refine hK _ _ ?_; clear hK K | refine ⟨?_, hK _ _ ?_⟩ <;> clear hK K; focus (try omega) | refine Op1.callp rfl rfl (ca) rfl ?_; refine hK _ _ ?_; clear hK K) | refine st rfl ?_ | refine sc rfl ?_ | refine nl ?_ | with_reducible refine gsplit_intro (fun hc => ?_) (fun hc => ?_) <;> (try simp only [decide_eq_true_eq, decide_eq_false_iff_not, Int.not_lt] at hc) <;> (try (exfalso; omega))
  all_goals try (simp only [ByteArray.size_append] at *; omega)
  refine ⟨⟨(k + 1, d, s ++ lnF u m (p.getD k 0) d), by dsimp only; omega, hg2, hA, ?_⟩, Weak.subH (List.sublist_cons_self _ _) ?_, by dsimp only; omega⟩
  ·dsimp only [lnF]
   simp only [ByteArray.size_append]
   omega
  ·simp [sub, upd, lnF, ByteArray.append_assoc, -List.getD_eq_getElem?_getD]
theorem rtell29_ok (u : Un) (hu : OkU u) (m r : Int) (p : List Int) (hp : p.length ≤ 1000) : Pure Tryz.prog 56 [.agg (unC u), iD m, iD r, ints p] (.tup [sD (tellF u m r p).1, iD (tellF u m r p).2]) := by
 have cs := rstart_ok u hu
 refine Fun.of T [.tmp 8, .tmp 9] Tryz.func56 rfl Tryz.ntmps56 Tryz.results56 rfl (by kernel_rfl) ?_
 have z0 : (⟨#[10]⟩ : ByteArray).size = 1 := rfl
 have z2 : (#[10] : Array UInt8).size = 1 := rfl
 have z3 : (#[32, 45, 62, 32] : Array UInt8).size = 4 := rfl
 have z6 : (⟨#[32, 45, 62, 32]⟩ : ByteArray).size = 4 := rfl
 cases hU : unitB u with
 | false =>
  have cs : Pure Tryz.prog 61 [.agg (unC u)] (.tup [.agg (cfC cf0), iD 8]) := by rwa [show begC u = cf0 by simp [begC, hU], show begE u = 8 by simp [begE, hU]] at cs
  rw [show tellF u m r p = (⟨#[]⟩, 8) by simp [tellF, hU]]
  repeat' first | refine vb (t := 25) rfl rfl rfl rfl ?_ | refine vs T rfl fun K hK => ?_; (try simp (disch := omega) only [go_sem, Nat.reduceBEq, Nat.reduceAdd, Nat.reduceLeDiff]); (first | refine hK _ _ ?_; clear hK K | intro bq hbq; (try simp only [HB] at hbq); refine hK _ _ ?_; clear hK K | refine Op1.callp rfl rfl (cs) rfl ?_; refine hK _ _ ?_; clear hK K) | refine st rfl ?_ | refine sc rfl ?_ | refine nl ?_ | exact ret2 T (List.nil_sublist _) ⟨rfl, rfl⟩
 | true =>
 have cs : Pure Tryz.prog 61 [.agg (unC u)] (.tup [.agg (cfC (startC u)), iD 0]) := by rwa [show begC u = startC u by simp [begC, hU], show begE u = 0 by simp [begE, hU]] at cs
 by_cases hb : m < 1 ∨ m > 3 ∨ r < 1 ∨ r > 4
 ·rw [show tellF u m r p = (⟨#[]⟩, 1) by simp [tellF, hU, okMR_no hb]]
  repeat' first | refine vb (t := 25) rfl rfl rfl rfl ?_ | refine vs T rfl fun K hK => ?_; (try simp (disch := omega) only [go_sem, Nat.reduceBEq, Nat.reduceAdd, Nat.reduceLeDiff]); (first | refine hK _ _ ?_; clear hK K | intro bq hbq; (try simp only [HB] at hbq); refine hK _ _ ?_; clear hK K | refine Op1.callp rfl rfl (cs) rfl ?_; refine hK _ _ ?_; clear hK K) | refine st rfl ?_ | refine sc rfl ?_ | refine nl ?_ | refine gs rfl rfl ?_ | exact ret2 T (List.nil_sublist _) ⟨rfl, rfl⟩ | with_reducible refine gsplit_intro (fun hc => ?_) (fun hc => ?_) <;> (try simp only [decide_eq_true_eq, decide_eq_false_iff_not, gt_iff_lt, Int.not_lt] at hc) <;> (try (exfalso; omega))
 have hok : okMR m r = true := by simp only [okMR, Bool.and_eq_true, decide_eq_true_eq]; omega
 have h0 := start_right hu hU (m := m) (r := r) (by omega) (by omega)
 rw [show tellF u m r p = goT u m r (startC u) p (tx (showF (startC u)) ++ ⟨#[10]⟩) by simp [tellF, hU, hok]]
 generalize startC u = s0 at *
 have z1 := showF_size s0 h0.okC
 have c1 := rshow29_ok s0 h0.okC
 repeat' first | refine vb (t := 25) rfl rfl rfl rfl ?_ | refine vs T rfl fun K hK => ?_; (try simp (disch := omega) only [go_sem, Nat.reduceBEq, Nat.reduceAdd, Nat.reduceLeDiff]); (first | refine hK _ _ ?_; clear hK K | intro bq hbq; (try simp only [HB] at hbq); refine hK _ _ ?_; clear hK K | refine ⟨?_, hK _ _ ?_⟩ <;> clear hK K; focus (try omega) | refine Op1.callp rfl rfl (cs) rfl ?_; refine hK _ _ ?_; clear hK K | refine Op1.callp rfl rfl (c1) rfl ?_; refine hK _ _ ?_; clear hK K) | refine st rfl ?_ | refine sc rfl ?_ | refine nl ?_ | refine gs rfl rfl ?_ | with_reducible refine gsplit_intro (fun hc => ?_) (fun hc => ?_) <;> (try simp only [decide_eq_true_eq, decide_eq_false_iff_not, gt_iff_lt, Int.not_lt] at hc) <;> (try (exfalso; omega))
 refine VC.loop {x : Nat × Cf × ByteArray // x.1 ≤ p.length ∧ goT u m r s0 (p.drop 0) (tx (showF s0) ++ ⟨#[10]⟩) = goT u m r x.2.1 (p.drop x.1) x.2.2 ∧ Rt u x.2.1 m r ∧ x.2.2.size ≤ 400000 * (x.1 + 1)} (fun x => ⟨lookD [(1, iD m), (2, iD r), (3, ints p), (4, .pt (unC u)), (10, pD bq), (12, sD x.1.2.2), (13, iD (x.1.1 : Nat))], [(bq, .cells 43 4 (cfC x.1.2.1))]⟩) (fun x => p.length - x.1.1) ⟨(0, s0, tx (showF s0) ++ ⟨#[10]⟩), by dsimp only; omega, rfl, h0, by dsimp only; rw [ByteArray.size_append]; omega⟩ ?_ ?_
 ·refine Weak.sub ?_
  simp [sub, upd]
 rintro ⟨⟨k, c, s⟩, hk, hg, h, hsz⟩
 dsimp only at hk hg h hsz ⊢
 rcases Nat.lt_or_ge k p.length with hlt | hge
 case inr =>
  have hkp : k = p.length := by omega
  rw [hkp, List.drop_length] at hg
  rw [show goT u m r s0 p (tx (showF s0) ++ ⟨#[10]⟩) = _ from hg, hkp]
  repeat' first | refine vs T rfl fun K hK => ?_; (try simp (disch := omega) only [go_sem, Nat.reduceBEq, iRs_len]); (refine hK _ _ ?_; clear hK K) | refine st rfl ?_ | refine sc rfl ?_ | refine nl ?_ | exact ret2 T (List.nil_sublist _) ⟨rfl, rfl⟩ | with_reducible refine gsplit_intro (fun hc => ?_) (fun hc => ?_) <;> (try simp only [decide_eq_true_eq, decide_eq_false_iff_not, Int.not_lt] at hc) <;> (try (exfalso; omega))
 have ca := ractM_ok h (p.getD k 0)
 have cn := rname_ok u hu m (p.getD k 0)
 have hA := h.actM (p.getD k 0)
 have z4 := nameM_size u m (p.getD k 0)
 cases hE : enM u c m r (p.getD k 0) with
 | false =>
  rw [hE] at ca
  rw [show goT u m r s0 p (tx (showF s0) ++ ⟨#[10]⟩) = _ from hg.trans (goT_no hlt hE)]
  repeat' first | apply VC.drawM (id := 10) T 14 12 13 (s := 14) (ty := 43) rfl rfl rfl (by kernel_rfl) (by kernel_rfl) (by kernel_rfl) (by kernel_rfl) | refine VCm.nil T ?_; simp only [allK, WB, Nat.reduceAdd]; try (refine fun (bq : Nat) hbq => ?_; (try simp only [HB] at hbq)) | apply VCm.step T (by rfl) (by rfl) rfl rfl; focus ((try simp (disch := omega) only [go_sem, Nat.reduceBEq, Nat.reduceAdd, Nat.reduceLeDiff, ix_ints, Int.toNat_natCast]); (first | exact rfl | refine ⟨?_, rfl⟩; try omega | refine Op1.callp rfl rfl (ca) rfl ?_; exact ⟨rfl, rfl⟩)) | apply VCm.alloc T; (case h1 => rfl); (case hg => rfl); (case hop => rfl); (case hd => rfl); (case hk => rfl); (case hz => rfl) | apply VCm.store T; (case h1 => rfl); (case h2 => rfl); (case hg => rfl); (case hd => rfl); (case hc => (intro b hb; (try simp (disch := omega) only [go_sem, Nat.reduceBEq, Nat.reduceAdd, Nat.reduceLeDiff]); exact rfl)); (case hz => (rfl)) | refine vs T rfl fun K hK => ?_; (try simp (disch := omega) only [go_sem, Nat.reduceBEq, iRs_len, Bool.not_false]); (refine hK _ _ ?_; clear hK K) | refine st rfl ?_ | refine sc rfl ?_ | refine nl ?_ | refine ov ?_ | exact ret2 T (List.nil_sublist _) ⟨rfl, rfl⟩ | with_reducible refine gsplit_intro (fun hc => ?_) (fun hc => ?_) <;> (try simp only [decide_eq_true_eq, decide_eq_false_iff_not, Int.not_lt] at hc) <;> (try (exfalso; omega))
 | true =>
  rw [hE] at ca
  have hg2 := hg.trans (goT_yes hlt hE)
  clear hg
  have hln : (lnF u m (p.getD k 0) (actM u c m r (p.getD k 0))) = nameM u m (p.getD k 0) ++ ⟨#[32, 45, 62, 32]⟩ ++ tx (showF (actM u c m r (p.getD k 0))) ++ ⟨#[10]⟩ := rfl
  generalize actM u c m r (p.getD k 0) = d at *
  have z5 := showF_size d hA.okC
  have c2 := rshow29_ok d hA.okC
  repeat' first | refine dr (id := 13) T 12 (by kernel_rfl) ?_ | apply VC.drawM (id := 10) T 14 12 13 (s := 14) (ty := 43) rfl rfl rfl (by kernel_rfl) (by kernel_rfl) (by kernel_rfl) (by kernel_rfl) | refine VCm.nil T ?_; simp only [allK, WB, Nat.reduceAdd]; try (refine fun (bq : Nat) hbq => ?_; (try simp only [HB] at hbq)) | apply VCm.step T (by rfl) (by rfl) rfl rfl; focus ((try simp (disch := omega) only [go_sem, Nat.reduceBEq, Nat.reduceAdd, Nat.reduceLeDiff, ix_ints, Int.toNat_natCast]); (first | exact rfl | refine ⟨?_, rfl⟩; try omega | refine Op1.callp rfl rfl (ca) rfl ?_; exact ⟨rfl, rfl⟩)) | apply VCm.alloc T; (case h1 => rfl); (case hg => rfl); (case hop => rfl); (case hd => rfl); (case hk => rfl); (case hz => rfl) | apply VCm.store T; (case h1 => rfl); (case h2 => rfl); (case hg => rfl); (case hd => rfl); (case hc => (intro b hb; (try simp (disch := omega) only [go_sem, Nat.reduceBEq, Nat.reduceAdd, Nat.reduceLeDiff]); exact rfl)); (case hz => (rfl)) | refine gn ?_ | (first | apply VCg.step T rfl rfl | apply exF); focus ((try simp (disch := omega) only [go_sem, Nat.reduceBEq, Nat.reduceAdd, Nat.reduceLeDiff, ix_ints, Int.toNat_natCast]); (first | exact rfl | refine ⟨?_, rfl⟩; try omega | refine Op1.callp rfl rfl (cn) rfl ?_; exact ⟨rfl, rfl⟩ | refine Op1.callp rfl rfl (c2) rfl ?_; exact ⟨rfl, rfl⟩)) | refine vs T rfl fun K hK => ?_; (try simp (disch := omega) only [go_sem, Nat.reduceBEq, Nat.reduceAdd, Nat.reduceLeDiff, iRs_len, w64, Bool.not_true]); (first | refine hK _ _ ?_; clear hK K | refine ⟨?_, hK _ _ ?_⟩ <;> clear hK K; focus (try omega)) | refine st rfl ?_ | refine sc rfl ?_ | refine nl ?_ | refine ov ?_ | with_reducible refine gsplit_intro (fun hc => ?_) (fun hc => ?_) <;> (try simp only [decide_eq_true_eq, decide_eq_false_iff_not, Int.not_lt] at hc) <;> (try (exfalso; omega))
  all_goals try (simp only [ByteArray.size_append] at *; omega)
  refine ⟨⟨(k + 1, d, s ++ lnF u m (p.getD k 0) d), by dsimp only; omega, hg2, hA, ?_⟩, Weak.subH (List.sublist_cons_self _ _) ?_, by dsimp only; omega⟩
  ·dsimp only [lnF]
   simp only [ByteArray.size_append]
   omega
  ·simp [sub, upd, lnF, ByteArray.append_assoc, -List.getD_eq_getElem?_getD]
end Go.Proofs.YtomcmfbpmkklmaaGreat
