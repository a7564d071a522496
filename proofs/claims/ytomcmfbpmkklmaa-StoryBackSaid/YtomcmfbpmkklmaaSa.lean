/- Calls of functions that take blocks of one's own, wherever they stand. No condition. -/
import Derived.Test.YtomcmfbpmkklmaaWa
import Derived.Test.YtomcmfbpmkklmaaRt
import Derived.Test.YtomcmfbpmkklmaaXg
import Derived.Test.YtomcmfbpmkklmaaRj
namespace Go.Vc
set_option maxHeartbeats 16000000
set_option linter.unusedSimpArgs false
set_option linter.unusedVariables false
open Go
inductive Pick : Heap → Heap → Heap → Prop where
 | nil {H : Heap} : Pick [] H H
 | take {x : Nat × HC} {Hp H Hr : Heap} : Pick Hp H Hr → Pick (x :: Hp) (x :: H) Hr
 | skip {x : Nat × HC} {Hp H Hr : Heap} : Pick Hp H Hr → Pick Hp (x :: H) (x :: Hr)
theorem Pick.perm {Hp H Hr : Heap} (h : Pick Hp H Hr) : H.Perm (Hp ++ Hr) := by
 induction h with
 | nil => exact List.Perm.refl _
 | take _ ih => exact List.Perm.cons _ ih
 | skip _ ih => exact (List.Perm.cons _ ih).trans List.perm_middle.symm
theorem VCo.nodup {P : Program} {n : Nat} {ops : Array Oper} {l : List Oper} {s : St} {Q : Exit → St → Prop} (h : s.heap.blocks.Nodup → VCo P n ops l s Q) : VCo P n ops l s Q := fun x a w hn hs => h hs.inv.nodup x a w hn hs
def VCp (F : Nat → (Nat → D) → Oper → FRes → Prop) (K : (Nat → D) → List (Tmp × NewI) → Prop) : Nat → Nat → List Oper → (Nat → D) → List (Tmp × NewI) → Prop
 | 0, _, _, E, news => K E news
 | _ + 1, _, [], _, _ => False
 | m + 1, i, o :: l, E, news => ∃ r, F i E o r ∧ VCp F K m (i + 1) l (updO E o.dst r.d) (news ++ newsOf r o.dst)
theorem VCp.extract {F : Nat → (Nat → D) → Oper → FRes → Prop} {K : (Nat → D) → List (Tmp × NewI) → Prop} {ops : Array Oper} : ∀ (m i : Nat) (l : List Oper) (E : Nat → D) (news : List (Tmp × NewI)), l = ops.toList.drop i → VCp F K m i l E news →
  ∃ res : Nat → FRes, (∀ j, j < m → ∃ o, ops[i + j]? = some o ∧ F (i + j) (envG ops i E res j) o (res (i + j))) ∧ K (envG ops i E res m) (news ++ newsG ops res i m)
 | 0, i, l, E, news, _, h => ⟨fun _ => .skip, fun j hj => by omega, by rw [newsG, List.append_nil]; exact h⟩
 | m + 1, i, [], E, news, _, h => h.elim
 | m + 1, i, o :: l, E, news, hl, h => by
  obtain ⟨r, hok, h2⟩ := h
  have ho : ops[i]? = some o := by
   have : (ops.toList.drop i)[0]? = some o := by rw [← hl]; rfl
   rw [List.getElem?_drop] at this
   simpa using this
  have hl2 : l = ops.toList.drop (i + 1) := by
   have : ops.toList.drop (i + 1) = (ops.toList.drop i).drop 1 := by rw [List.drop_drop]
   rw [this, ← hl]; rfl
  obtain ⟨res', h3, h4⟩ := VCp.extract m (i + 1) l _ _ hl2 h2
  let res : Nat → FRes := fun k => if k = i then r else res' k
  have hri : res i = r := by simp [res]
  have hr : ∀ k, i + 1 ≤ k → res' k = res k := fun k hk => by simp only [res]; rw [if_neg (by omega)]
  have hd : dstAt ops i = o.dst := by simp [dstAt, ho]
  have hen : ∀ j, envG ops i E res (j + 1) = envG ops (i + 1) (updO E o.dst r.d) res' j := fun j => by
   rw [envG_shift, hri, hd, envG_congr (fun k hk => (hr k hk).symm)]
  refine ⟨res, fun j hj => ?_, ?_⟩
  ·cases j with
   | zero => exact ⟨o, ho, by rw [Nat.add_zero, hri]; exact hok⟩
   | succ j =>
    obtain ⟨o', h5, h6⟩ := h3 j (by omega)
    rw [show i + (j + 1) = i + 1 + j by omega]
    refine ⟨o', h5, ?_⟩
    rw [hen, ← hr _ (by omega)]
    exact h6
  ·rw [hen, newsG, newsG_congr m (i + 1) (fun k hk => (hr k hk).symm)]
   rw [newsAt, hri, hd, ← List.append_assoc]
   exact h4
section
variable {P : Program} {x : Ctx} {ops : Array Oper} {f : Nat} {H : Heap} {E : Nat → D} {a0 : Act} {ws : World}
end
def MF (P : Program) (T : Tab P) (ops : Array Oper) (H : Heap) (kk st : Nat) (s : Tmp) (ty : TypeId) (z' : List D) (i : Nat) (E : Nat → D) (o : Oper) (r : FRes) : Prop :=
 match Nat.beq i kk, Nat.beq i st with
 | true, _ => r = .new (.cells ty z') ∧ o.guard = none ∧ o.op = .alloc ty ∧ o.dst = some s ∧ (T.get ty).known = true ∧ ((T.get ty).zero.map constD).all oneD = true
 | false, true => r = .det (.is undef) ∧ o.guard = none ∧ o.dst = none ∧ z'.length = ((T.get ty).zero.map constD).length ∧
   ∀ b, b ∉ H.blocks → OpS P o (evD (upd E s (.is (.pointer (some ⟨b, 0, none⟩))))) ((b, .cells ty ((T.get ty).zero.map constD).length ((T.get ty).zero.map constD)) :: H) (fun d' H' => d' = .is undef ∧ H' = (b, .cells ty ((T.get ty).zero.map constD).length z') :: H)
 | false, false => FOk P ops E H o r
section
variable {P : Program} (T : Tab P) {ops : Array Oper} {H : Heap} {K : (Nat → D) → List (Tmp × NewI) → Prop} {m i kk st : Nat} {s : Tmp} {ty : TypeId} {z' : List D} {E : Nat → D} {news : List (Tmp × NewI)} {o : Oper} {l : List Oper}
theorem VCm.nil (h : K E news) : VCp (MF P T ops H kk st s ty z') K 0 i l E news := h
theorem VCm.step {d : D} {t : Tmp} (h1 : Nat.beq i kk = false) (h2 : Nat.beq i st = false) (hg : o.guard = none) (ht : o.dst = some t) (hc : opC T o (evD E) H (fun d' H' => d' = d ∧ H' = H)) (hn : VCp (MF P T ops H kk st s ty z') K m (i + 1) l (upd E t d) news) :
  VCp (MF P T ops H kk st s ty z') K (m + 1) i (o :: l) E news :=
 ⟨.det d, by unfold MF; rw [h1, h2]; exact ⟨.inl hg, opS_of T hc⟩, by rw [newsOf_det, List.append_nil, ht]; exact hn⟩
theorem VCm.alloc (h1 : Nat.beq i kk = true) (hg : o.guard = none) (hop : o.op = .alloc ty) (hd : o.dst = some s) (hk : (T.get ty).known = true) (hz : ((T.get ty).zero.map constD).all oneD = true) (hn : VCp (MF P T ops H kk st s ty z') K m (i + 1) l (upd E s .any) (news ++ [(s, .cells ty z')])) :
  VCp (MF P T ops H kk st s ty z') K (m + 1) i (o :: l) E news :=
 ⟨.new (.cells ty z'), by unfold MF; rw [h1]; exact ⟨rfl, hg, hop, hd, hk, hz⟩, by rw [hd]; exact hn⟩
theorem VCm.store (h1 : Nat.beq i kk = false) (h2 : Nat.beq i st = true) (hg : o.guard = none) (hd : o.dst = none)
  (hc : ∀ b, b ∉ H.blocks → opC T o (evD (upd E s (.is (.pointer (some ⟨b, 0, none⟩))))) ((b, .cells ty ((T.get ty).zero.map constD).length ((T.get ty).zero.map constD)) :: H) (fun d' H' => d' = .is undef ∧ H' = (b, .cells ty ((T.get ty).zero.map constD).length z') :: H))
  (hz : z'.length = ((T.get ty).zero.map constD).length) (hn : VCp (MF P T ops H kk st s ty z') K m (i + 1) l E news) :
  VCp (MF P T ops H kk st s ty z') K (m + 1) i (o :: l) E news :=
 ⟨.det (.is undef), by unfold MF; rw [h1, h2]; exact ⟨rfl, hg, hd, hz, fun b hb => let ⟨_, q1, q2⟩ := opC_sound T (hc b hb); q1.mono q2⟩, by rw [newsOf_det, List.append_nil, hd]; exact hn⟩
end
end Go.Vc
/- Contracts: where a program begins, and where a path leads. No condition. -/
namespace Go.Proofs.Ytomcmfbpmkklmaa
set_option maxHeartbeats 16000000
set_option linter.unusedSimpArgs false
set_option linter.unusedVariables false
set_option maxRecDepth 20000
open Go Go.Proofs Go.Vc
attribute [local irreducible] retQ VCg VCw VCx
theorem zerosE_eq (n : Nat) : zerosD n [.slice none 0 0] = List.replicate n (D.gs none 0) := by
 show (List.replicate n [D.gs none 0]).flatten = _
 induction n with
 | zero => rfl
 | succ n ih => rw [List.replicate_succ, List.flatten_cons, ih, List.replicate_succ]; rfl
theorem op_makeE {o : Oper} {E : Operand → D} {H : Heap} {l c : Operand} {n : Nat} (ho : o.op = .makeSlice 24 l c) (hl : E l = iD (n : Nat)) (hc : E c = iD (n : Nat)) (hn : n ≤ 1000000) :
  OpS Try.prog o E H (fun d' H' => d' = .sl false 1 (bufsR (List.replicate n [])) ∧ H' = H) := by
 have hcm : cMake (kdT (T.get 24)) (E l) (E c) H (fun d H' => ∃ k, d = .gs (some (k, n)) n ∧ H' = (k, .cells 36 (n * 1) (List.replicate n (D.gs none 0))) :: H) := by
  rw [hl, hc]
  show cMake (.slice 36 1 24 false [.slice none 0 0]) _ _ _ _
  refine ⟨⟨by omega, rfl, by rw [Int.toNat_natCast]; omega, by omega, rfl⟩, fun k hk => ⟨k, by rw [Int.toNat_natCast], ?_⟩⟩
  rw [Int.toNat_natCast, zerosE_eq]
 obtain ⟨Φ, h1, h2⟩ := r_make T (E := E) (H := H) (K := fun d H' => ∃ k, d = .gs (some (k, n)) n ∧ H' = (k, .cells 36 (n * 1) (List.replicate n (D.gs none 0))) :: H) ho hcm
 refine OpS.freeze (OpS.mono h1 h2) fun d H' ⟨k, q1, q2⟩ => ⟨[(k, .cells 36 (n * 1) (List.replicate n (D.gs none 0)))], q2, ?_⟩
 rw [q1]
 have := Fz_gs (g := some (k, n)) (n := n) (e := 36) (l := List.replicate n (D.gs none 0)) (H := [(k, .cells 36 (n * 1) (List.replicate n (D.gs none 0)))]) (by rw [bufsR_len]; simp) (by exact Nat.le_refl n) (fun b cap hb => by cases hb; exact List.mem_cons_self ..) (FzR_nil n)
 exact this
def cf0 : Cf := ⟨[], [], [], []⟩
def begC (u : Un) : Cf := match unitB u with | true => startC u | false => cf0
def begE (u : Un) : Int := match unitB u with | true => 0 | false => 8
theorem fz_cf0 {H : Heap} {d' d : D} (h : Fz H d' d) : Fz H (.tup [.agg (cfC cf0), d']) (.tup [.agg [.gs none 0, .gs none 0, .gs none 0, .gs none 0], d]) :=
 ⟨_, rfl, fz_cons ⟨_, rfl, fz_cons fz_nil (fz_cons fz_nil (fz_cons fz_nil (fz_cons fz_nil fz_end)))⟩ (fz_cons h fz_end)⟩
theorem cstart_ok (u : Un) (hu : OkU u) : Pure Try.prog 34 [.agg (unC u)] (.tup [.agg (cfC (begC u)), iD (begE u)]) := by
 have k1 := hu.ini
 have k2 := hu.reg
 have cu := rightL_ok u hu
 refine Fun.fz ?_
 refine Fun.of T [.cell 2 26, .tmp 3] Try.func34 rfl Try.ntmps34 Try.results34 rfl (by kernel_rfl) ?_
 cases hU : unitB u with
 | false =>
  rw [hU] at cu
  rw [show begC u = cf0 by simp [begC, hU], show begE u = 8 by simp [begE, hU]]
  repeat' first | refine vb (t := 44) rfl rfl rfl rfl ?_ | refine vs T rfl fun K hK => ?_; (try simp (disch := omega) only [go_sem, Nat.reduceBEq, Nat.reduceAdd, Nat.reduceLeDiff, Bool.not_false]); (first | refine hK _ _ ?_; clear hK K | intro bq hbq; (try simp only [HB] at hbq); refine hK _ _ ?_; clear hK K | refine Op1.callp rfl rfl (cu) rfl ?_; refine hK _ _ ?_; clear hK K) | refine st rfl ?_ | refine sc rfl ?_ | refine nl ?_
  exact retc1 T rfl hget_eq rfl rfl rfl (List.nil_sublist _) (fz_cf0 (Fz.refl _ _))
 | true =>
 rw [hU] at cu
 rw [show begC u = startC u by simp [begC, hU], show begE u = 0 by simp [begE, hU]]
 have co := ownIf_ok u.init (by omega)
 repeat' first | refine vb (t := 44) rfl rfl rfl rfl ?_ | refine VCg.stepS T rfl rfl (op_makeE rfl rfl rfl (by omega)) ?_ | refine VCg.stepS T rfl rfl (op_makeR rfl rfl rfl (by omega)) ?_ | refine dr (id := 4) T 9 (by kernel_rfl) ?_ | refine VCg.nil T ?_; simp only [allK, WB, Nat.reduceAdd, T26]; try (refine fun (bq : Nat) hbq => ?_; (try simp only [HB] at hbq)) | apply VCg.step T rfl rfl; focus ((try simp (disch := omega) only [go_sem, Nat.reduceBEq, Nat.reduceAdd]); (first | exact rfl | refine Op1.callp rfl rfl (co) rfl ?_; exact ⟨rfl, rfl⟩)) | refine VCg.alloc T rfl rfl rfl rfl rfl ?_ | refine vs T rfl fun K hK => ?_; (try simp (disch := omega) only [go_sem, Nat.reduceBEq, Nat.reduceAdd, Nat.reduceLeDiff, iRs_len, Bool.not_true]); (first | refine hK _ _ ?_; clear hK K | intro bq hbq; (try simp only [HB] at hbq); refine hK _ _ ?_; clear hK K | refine Op1.callp rfl rfl (cu) rfl ?_; refine hK _ _ ?_; clear hK K) | refine st rfl ?_ | refine sc rfl ?_ | refine nl ?_
 rename_i b2 hb2
 have n1 : ¬ bq = b2 := hbq
 refine VC.loop {p : Nat × G // p.1 ≤ u.regs.length ∧ gOk p.2 p.1} (fun p => ⟨lookD [(1, .pt (unC u)), (2, pD b2), (5, pD bq), (24, ints u.regs), (25, iD (u.regs.length : Nat)), (26, iD (p.1.1 : Nat))], (bq, .cells 26 4 [ints (List.replicate u.regs.length 0), .gs p.1.2 p.1.1, ints u.init, .sl false 1 (bufsR (List.replicate u.regs.length []))]) :: (b2, .cells 26 4 [.gs none 0, .gs none 0, .gs none 0, .gs none 0]) :: shp p.1.2 22 1 ((u.regs.take p.1.1).map zrow) []⟩) (fun p => u.regs.length - p.1.1) ⟨(0, none), by dsimp only; omega, rfl⟩ ?_ ?_
 ·refine Weak.sub ?_
  simp [sub, upd]
 rintro ⟨⟨t, g⟩, ht, hg⟩
 dsimp only at ht hg ⊢
 rcases Nat.lt_or_ge t u.regs.length with hlt | hge
 ·have hd : decide ((t : Int) < (u.regs.length : Int)) = true := by simp; omega
  have hw : IntKind.i64.wrap ((t : Int) + 1) = ((t + 1 : Nat) : Int) := by rw [w64 (by omega)]; omega
  obtain ⟨n, hn⟩ : ∃ n, u.regs[t]? = some n := ⟨_, List.getElem?_eq_getElem hlt⟩
  have hn6 := unitB_regs hU hn
  obtain ⟨k, rfl⟩ : ∃ k : Nat, n = (k : Int) := ⟨n.toNat, by omega⟩
  have rn : (iRs u.regs)[t]? = some [iD (k : Nat)] := by rw [iRs_at, hn]; rfl
  have hc2 : ((u.regs.take t).map zrow).length = t * 1 := by rw [List.length_map, List.length_take]; omega
  have z2 : (u.regs.take (t + 1)).map zrow = (u.regs.take t).map zrow ++ [ints (List.replicate k 0)] := by
   rw [List.take_add_one, hn]
   simp [zrow]
  repeat' first | refine VCg.stepS T rfl rfl (op_makeR rfl rfl rfl (by omega)) ?_ | refine dr (id := 8) T 5 (by kernel_rfl) ?_ | refine gn ?_ | apply VCg.step T rfl rfl; focus ((try simp (disch := omega) only [go_sem, Nat.reduceBEq, Nat.reduceMul, Nat.reduceLeDiff]); (exact rfl)) | refine vs T rfl fun K hK => ?_; (try simp (disch := omega) only [go_sem, Nat.reduceBEq, Nat.reduceAdd, Nat.reduceLeDiff, hd, hw, rn, iRs_len]); (first | refine hK _ _ ?_; clear hK K | refine ⟨_, _, _, _, (by repeat (first | exact Sp.here | apply Sp.cons)), ?_, (by exact ⟨rfl, rfl⟩), ⟨by decide, ?_⟩, fun g' hg' => hK _ _ ?_⟩ <;> clear hK K | refine ⟨?_, hK _ _ ?_⟩ <;> clear hK K; focus (try omega)) | refine st rfl ?_ | refine sc rfl ?_ | refine nl ?_
  all_goals first | exact hc2 | omega | skip
  refine ⟨⟨(t + 1, g'), by dsimp only; omega, hg'⟩, Weak_subEq ?_ ?_, by dsimp only; omega⟩
  ·dsimp only
   rw [z2]
  ·simp [sub, upd]
 ·have hd : decide ((t : Int) < (u.regs.length : Int)) = false := by simp; omega
  obtain rfl : t = u.regs.length := by omega
  rw [List.take_length]
  repeat' first | refine vs T rfl fun K hK => ?_; (try simp (disch := omega) only [go_sem, Nat.reduceBEq, Nat.reduceAdd, Nat.reduceLeDiff, hd]); (refine hK _ _ ?_; clear hK K) | refine st rfl ?_ | refine sc rfl ?_ | refine nl ?_
  refine retc1 T rfl (by (try simp (disch := omega) only [hget_ne, hget_eq]); rfl) rfl rfl rfl (List.Sublist.refl _) ?_
  refine ⟨_, rfl, fz_cons ⟨_, rfl, ?_⟩ (FzL.refl _ _)⟩
  refine fz_cons (Fz.refl _ _) (fz_cons ?_ (FzL.refl _ _))
  exact Fz_gs (e := 22) (l := u.regs.map zrow) (by rw [rowsI_len]; simp [startC]) hg (fun b cap hb => List.mem_cons_of_mem _ (List.mem_cons_of_mem _ (by rw [hb]; exact mem_shp0))) (FzR_zrow u.regs)
def okMR (m r : Int) : Bool := decide (1 ≤ m) && decide (m ≤ 3) && (decide (1 ≤ r) && decide (r ≤ 4))
theorem okMR_no {m r : Int} (h : m < 1 ∨ m > 3 ∨ r < 1 ∨ r > 4) : okMR m r = false := by
 cases hk : okMR m r with
 | false => rfl
 | true => simp only [okMR, Bool.and_eq_true, decide_eq_true_eq] at hk; omega
section
variable {u : Un} {c : Cf} {m r : Int} (b : Nat)
end
end Go.Proofs.Ytomcmfbpmkklmaa
/- Calls through method values. No condition. -/
namespace Go.Vc
set_option maxHeartbeats 16000000
set_option linter.unusedSimpArgs false
set_option linter.unusedVariables false
open Go
end Go.Vc
/- Contracts: what is seen on a circle. No condition. -/
namespace Go.Proofs.Ytomcmfbpmkklmaa
set_option maxHeartbeats 16000000
set_option linter.unusedSimpArgs false
set_option linter.unusedVariables false
set_option maxRecDepth 20000
open Go Go.Proofs Go.Vc
attribute [local irreducible] retQ VCg VCw VCx
section
variable {u : Un} {c : Cf} {m r : Int}
end
end Go.Proofs.Ytomcmfbpmkklmaa
