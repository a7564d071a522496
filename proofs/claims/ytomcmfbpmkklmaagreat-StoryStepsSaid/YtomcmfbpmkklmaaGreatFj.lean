/- Contracts: the strict reader. No condition. -/
import Derived.Test.YtomcmfbpmkklmaaGreatFh
import Derived.Test.YtomcmfbpmkklmaaGreatSa
namespace Go.Proofs.YtomcmfbpmkklmaaGreat
set_option maxHeartbeats 16000000
set_option linter.unusedSimpArgs false
set_option linter.unusedVariables false
set_option maxRecDepth 20000
open Go Go.Proofs Go.Vc
attribute [local irreducible] retQ VCg VCw VCx
theorem thrL_le : ∀ (f : Nat) (x : Th), (thrL f x).r.s.length ≤ x.r.s.length
 | 0, _ => Nat.le_refl _
 | f + 1, x => by
  rw [thrL_step]
  split
  ·exact Nat.le_refl _
  split
  ·rename_i hi
   have h1 := thrL_le f (thrS x)
   have h2 := (thrS_lt hi).1
   omega
  ·exact Nat.le_refl _
theorem parS_lt {x : Ps} (h : x.r.is [116] = true) : (parS x).r.s.length < x.r.s.length := by
 have h1 := Rd.skip_lt h
 have h2 := Rd.must_le (thrA (x.r.skip [116]) x.c.pc.length).r [59, 32]
 have h3 := thrL_le ((thr0 (x.r.skip [116]) x.c.pc.length).num.s.length + 1) ⟨(thr0 (x.r.skip [116]) x.c.pc.length).num, [], []⟩
 have h4 := (thr0 (x.r.skip [116]) x.c.pc.length).num_le
 have h5 := Rd.must_le ⟨(x.r.skip [116]).num.s, (x.r.skip [116]).num.bad || !decide ((x.r.skip [116]).val = x.c.pc.length)⟩ [58]
 have h6 := (x.r.skip [116]).num_le
 have e1 : (parS x).r = (thrA (x.r.skip [116]) x.c.pc.length).r.must [59, 32] := rfl
 have e2 : (thrA (x.r.skip [116]) x.c.pc.length) = thrL ((thr0 (x.r.skip [116]) x.c.pc.length).num.s.length + 1) ⟨(thr0 (x.r.skip [116]) x.c.pc.length).num, [], []⟩ := rfl
 have e3 : thr0 (x.r.skip [116]) x.c.pc.length = Rd.must ⟨(x.r.skip [116]).num.s, (x.r.skip [116]).num.bad || !decide ((x.r.skip [116]).val = x.c.pc.length)⟩ [58] := rfl
 rw [e1]
 rw [e2] at h2 ⊢
 rw [← e3] at h5
 dsimp only at h3 h5
 omega
theorem parL_step (f : Nat) (x : Ps) : parL (f + 1) x = if x.r.bad then x else if x.r.is [116] then parL f (parS x) else x := rfl
theorem parL_fuel : ∀ (f g : Nat) (x : Ps), x.r.s.length < f → x.r.s.length < g → parL f x = parL g x
 | 0, _, _, h, _ => absurd h (Nat.not_lt_zero _)
 | _, 0, _, _, h => absurd h (Nat.not_lt_zero _)
 | f + 1, g + 1, x, h1, h2 => by
  rw [parL_step, parL_step]
  split
  ·rfl
  split
  ·rename_i hi
   have := parS_lt hi
   exact parL_fuel f g _ (by omega) (by omega)
  ·rfl
def parW (x : Ps) : Ps := parL (x.r.s.length + 1) x
theorem parW_bad {x : Ps} (h : x.r.bad = true) : parW x = x := by rw [parW, parL_step, if_pos h]
theorem parW_no {x : Ps} (h : x.r.is [116] = false) : parW x = x := by rw [parW, parL_step, h]; simp
theorem parW_more {x : Ps} (h : x.r.bad = false) (hi : x.r.is [116] = true) : parW x = parW (parS x) := by
 rw [parW, parL_step, h, hi]
 simp only [Bool.false_eq_true, if_false, if_true]
 exact parL_fuel _ _ _ (by have := parS_lt hi; omega) (by omega)
def memS (x : Ps) : Ps := ⟨(x.r.skip [32]).num, ⟨x.c.pc, x.c.regs, x.c.mem ++ [((x.r.skip [32]).val : Int)], x.c.bufs⟩⟩
theorem memS_lt {x : Ps} (h : x.r.is [32] = true) : (memS x).r.s.length < x.r.s.length := by
 have h1 := Rd.skip_lt h
 have h2 := (x.r.skip [32]).num_le
 have e : (memS x).r = (x.r.skip [32]).num := rfl
 rw [e]; omega
theorem memL_step (f : Nat) (x : Ps) : memL (f + 1) x = if x.r.bad then x else if x.r.is [32] then memL f (memS x) else x := rfl
theorem memL_fuel : ∀ (f g : Nat) (x : Ps), x.r.s.length < f → x.r.s.length < g → memL f x = memL g x
 | 0, _, _, h, _ => absurd h (Nat.not_lt_zero _)
 | _, 0, _, _, h => absurd h (Nat.not_lt_zero _)
 | f + 1, g + 1, x, h1, h2 => by
  rw [memL_step, memL_step]
  split
  ·rfl
  split
  ·rename_i hi
   have := memS_lt hi
   exact memL_fuel f g _ (by omega) (by omega)
  ·rfl
def memW (x : Ps) : Ps := memL (x.r.s.length + 1) x
theorem memW_bad {x : Ps} (h : x.r.bad = true) : memW x = x := by rw [memW, memL_step, if_pos h]
theorem memW_no {x : Ps} (h : x.r.is [32] = false) : memW x = x := by rw [memW, memL_step, h]; simp
theorem memW_more {x : Ps} (h : x.r.bad = false) (hi : x.r.is [32] = true) : memW x = memW (memS x) := by
 rw [memW, memL_step, h, hi]
 simp only [Bool.false_eq_true, if_false, if_true]
 exact memL_fuel _ _ _ (by have := memS_lt hi; omega) (by omega)
def parC (s : By) : Cf := (parT s).getD cf0
def parB (s : By) : Bool := (parT s).isSome
theorem FzR_rowsI {H : Heap} : ∀ (l : List (List Int)), FzR H 1 (rowsI l) (l.map ints)
 | [] => trivial
 | b :: l => ⟨rfl, ⟨_, _, rfl, Fz.refl _ _, trivial⟩, FzR_rowsI l⟩
theorem fz_grC {H : Heap} {gp gr gm gb : G2} {c : Cf} (h1 : gOk gp c.pc.length) (h2 : gOk gr c.regs.length) (h3 : gOk gm c.mem.length) (h4 : gOk gb c.bufs.length) (hm : ∀ x, x ∈ grT gp gr gm gb c → x ∈ H) : FzL H (cfC c) (grC gp gr gm gb c) := by
 have m1 : ∀ x, x ∈ shp gr 22 1 (c.regs.map ints) (shp gm 3 1 (c.mem.map iD) (shp gb 98 1 (c.bufs.map buf) [])) → x ∈ H := fun x hx => hm x (mem_shp hx)
 have m2 : ∀ x, x ∈ shp gm 3 1 (c.mem.map iD) (shp gb 98 1 (c.bufs.map buf) []) → x ∈ H := fun x hx => m1 x (mem_shp hx)
 have m3 : ∀ x, x ∈ shp gb 98 1 (c.bufs.map buf) [] → x ∈ H := fun x hx => m2 x (mem_shp hx)
 refine fz_cons (Fz_ints (e := 3) h1 fun b cap hb => hm _ (by rw [hb]; exact mem_shp0)) (fz_cons ?_ (fz_cons (Fz_ints (e := 3) h3 fun b cap hb => m2 _ (by rw [hb]; exact mem_shp0)) (fz_cons ?_ fz_end)))
 ·exact Fz_gs (e := 22) (l := c.regs.map ints) (rowsI_len _).symm h2 (fun b cap hb => m1 _ (by rw [hb]; exact mem_shp0)) (FzR_rowsI c.regs)
 ·exact Fz_gs (e := 98) (l := c.bufs.map buf) (bufsR_len _).symm h4 (fun b cap hb => m3 _ (by rw [hb]; exact mem_shp0)) (FzR_bufs c.bufs)
theorem par_bad {s : By} (h : ((parE s).r.bad || (!decide ((parE s).r.s = []) || decide (10 < (parE s).c.pc.length))) = true) : parC s = cf0 ∧ parB s = false := by
 have e : parT s = none := by unfold parT; dsimp only; rw [h]; rfl
 constructor
 ·rw [parC, e]; rfl
 ·rw [parB, e]; rfl
theorem par_ok {s : By} (h : ((parE s).r.bad || (!decide ((parE s).r.s = []) || decide (10 < (parE s).c.pc.length))) = false) : parC s = (parE s).c ∧ parB s = true := by
 have e : parT s = some (parE s).c := by unfold parT; dsimp only; rw [h]; rfl
 constructor
 ·rw [parC, e]; rfl
 ·rw [parB, e]; rfl
abbrev blC : List D := [.gs none 0, .gs none 0, .gs none 0, .gs none 0]
abbrev prH (b2 br bc : Nat) (r : Rd) (gp gr gm gb : G2) (c : Cf) : Heap := rdB br r :: (bc, .cells 43 4 (grC gp gr gm gb c)) :: (b2, .cells 43 4 blC) :: grT gp gr gm gb c
theorem prH_perm (b2 br bc : Nat) (r : Rd) (gp gr gm gb : G2) (c : Cf) : (prH b2 br bc r gp gr gm gb c).Perm (thH br bc r gp gr gm gb c ++ [(b2, .cells 43 4 blC)]) :=
 List.Perm.cons _ (List.Perm.cons _ (List.perm_append_singleton _ _).symm)
theorem parse29_ok (s : By) (hs : s.length ≤ 1000000) : Pure Tryz.prog 104 [sD (tx s)] (.tup [.agg (cfC (parC s)), bD (parB s)]) := by
 refine Fun.fz ?_
 refine Fun.of T [.cell 2 43, .tmp 3] Tryz.func104 rfl Tryz.ntmps104 Tryz.results104 rfl (by kernel_rfl) ?_
 repeat' first | refine vs T rfl fun K hK => ?_; (try simp (disch := omega) only [go_sem, Nat.reduceBEq, Nat.reduceAdd]); (first | refine hK _ _ ?_; clear hK K | intro bq hbq; (try simp only [HB] at hbq); refine hK _ _ ?_; clear hK K) | refine st rfl ?_ | refine nl ?_
 rename_i b2 h2 br h3
 refine VC.loop {p : Ps × G2 × G2 × G2 // (gOk p.2.1 p.1.c.pc.length ∧ gOk p.2.2.1 p.1.c.regs.length ∧ gOk p.2.2.2 p.1.c.bufs.length) ∧ p.1.c.regs.length = p.1.c.pc.length ∧ p.1.c.bufs.length = p.1.c.pc.length ∧ p.1.c.mem = [] ∧ p.1.r.s.length + p.1.c.pc.length ≤ 1000000 ∧ parW p.1 = parW ⟨⟨s, false⟩, cf0⟩}
  (fun p => ⟨lookD [(2, pD b2), (3, bD false), (4, pD br), (5, pD bq)], prH b2 br bq p.1.1.r p.1.2.1 p.1.2.2.1 none p.1.2.2.2 p.1.1.c⟩)
  (fun p => p.1.1.r.s.length) ⟨(⟨⟨s, false⟩, cf0⟩, none, none, none), ⟨rfl, rfl, rfl⟩, rfl, rfl, rfl, by dsimp only [cf0]; simp only [List.length_nil]; omega, rfl⟩ ?_ ?_
 ·refine Weak.trans (Weak.perm (H' := prH b2 br bq ⟨s, false⟩ none none none none cf0) (List.Perm.swap _ _ _)) (Weak_subEq rfl ?_)
  simp [sub, upd]
 rintro ⟨⟨x, gp, gr, gb⟩, hg, hrl, hbl, hm, hle, hx⟩
 dsimp only at hg hrl hbl hm hle hx ⊢
 have k1 := is29_ok br x.r (by omega) [116] (by simp)
 cases hb : x.r.bad
 case' true =>
  have hX := parW_bad hb
  have k5 := must29_ok br x.r (by omega) [109, 58] (by simp)
  repeat' first | refine vt rfl fun K hK => ?_; refine Op1.call1 rfl rfl k5 rfl ?_; refine hK _ _ ?_; clear hK K; (try simp only [updO]) | refine vs T rfl fun K hK => ?_; (try simp (disch := omega) only [go_sem, Nat.reduceBEq, hb, Bool.not_true]); (refine hK _ _ ?_; clear hK K) | refine st rfl ?_ | refine sc rfl ?_ | refine nl ?_ | refine gs rfl rfl ?_
 case' false =>
  cases hi : x.r.is [116]
  case' false =>
   have hX := parW_no hi
   rw [hi] at k1
   have hs : x.r.skip [116] = x.r := by simp [Rd.skip, hi]
   rw [hs] at k1
   have k5 := must29_ok br x.r (by omega) [109, 58] (by simp)
   have k6 : Fun Tryz.prog 144 [pD br, sD (tx [109, 58])] [(br, .cells 175 2 [sD (tx x.r.s), bD false])] false (fun d H' => d = .tup [] ∧ H' = [rdB br (x.r.must [109, 58])]) := by have h := k5; simp only [rdH, hb] at h; exact h
   repeat' first | refine vt rfl fun K hK => ?_; refine Op1.call1 rfl rfl k1 rfl ?_; refine hK _ _ ?_; clear hK K; (try simp only [updO]) | refine vt rfl fun K hK => ?_; refine Op1.call1 rfl rfl k6 rfl ?_; refine hK _ _ ?_; clear hK K; (try simp only [updO]) | refine vs T rfl fun K hK => ?_; (try simp (disch := omega) only [go_sem, Nat.reduceBEq, hb, Bool.not_false]); (refine hK _ _ ?_; clear hK K) | refine st rfl ?_ | refine sc rfl ?_ | refine nl ?_ | refine gs rfl rfl ?_
  case' true =>
   have hX := parW_more hb hi
   rw [hX] at hx
   have hlt := parS_lt hi
   have hsk := Rd.skip_lt hi
   rw [hi] at k1
   have k2 := thread29_ok br bq (x.r.skip [116]) (by omega) gp gr none gb x.c hg (by omega)
   repeat' first | refine vt rfl fun K hK => ?_; refine Op1.call1 rfl rfl k1 rfl ?_; refine hK _ _ ?_; clear hK K; (try simp only [updO]) | refine vs T rfl fun K hK => ?_; (try simp (disch := omega) only [go_sem, Nat.reduceBEq, hb, Bool.not_false]); (first | refine hK _ _ ?_; clear hK K | skip) | refine st rfl ?_ | refine sc rfl ?_ | refine nl ?_ | refine gs rfl rfl ?_
   refine Op1.callG (Hp := thH br bq (x.r.skip [116]) gp gr none gb x.c) (Hr := [(b2, .cells 43 4 blC)]) rfl rfl rfl k2 (by exact prH_perm ..) (fun d H' h => ?_)
   obtain ⟨q, hq, rfl, rfl⟩ := h
   refine hK _ _ ?_
   clear hK K
   repeat' refine nl ?_
   have e1 : (parS x).c.pc.length = x.c.pc.length + 1 := by simp [parS]
   have e2 : (parS x).c.regs.length = x.c.pc.length + 1 := by simp [parS, hrl]
   have e3 : (parS x).c.bufs.length = x.c.pc.length + 1 := by simp [parS, hbl]
   refine ⟨⟨(parS x, q), ⟨by rw [e1]; exact hq.1, by rw [e2, ← hrl]; exact hq.2.1, by rw [e3, ← hbl]; exact hq.2.2⟩, by rw [e2, e1], by rw [e3, e1], by simp [parS, hm], by dsimp only; omega, hx⟩, Weak.trans (Weak.perm (prH_perm b2 br bq (parS x).r q.1 q.2.1 none q.2.2 (parS x).c).symm) (Weak_subEq rfl ?_), by dsimp only; omega⟩
   simp [sub, upd]
 all_goals
  rw [hX] at hx
  have hM : parM s = ⟨x.r.must [109, 58], x.c⟩ := by
   have q : parW ⟨⟨s, false⟩, cf0⟩ = parL (s.length + 1) ⟨⟨s, false⟩, ⟨[], [], [], []⟩⟩ := rfl
   rw [← hx] at q
   rw [parM, ← q]
  have hml := Rd.must_le x.r [109, 58]
  have hxc : x.c = ⟨x.c.pc, x.c.regs, [], x.c.bufs⟩ := by rw [← hm]
  refine VC.loop {p : Rd × List Int × G2 // gOk p.2.2 p.2.1.length ∧ p.1.s.length + p.2.1.length ≤ 1000000 ∧ memW ⟨p.1, ⟨x.c.pc, x.c.regs, p.2.1, x.c.bufs⟩⟩ = parE s}
   (fun p => ⟨lookD [(2, pD b2), (3, bD false), (4, pD br), (5, pD bq)], prH b2 br bq p.1.1 gp gr p.1.2.2 gb ⟨x.c.pc, x.c.regs, p.1.2.1, x.c.bufs⟩⟩)
   (fun p => p.1.1.s.length) ⟨(x.r.must [109, 58], [], none), rfl, by dsimp only; simp only [List.length_nil]; omega, by dsimp only; rw [← hxc, ← hM]; rfl⟩ ?_ ?_
  ·refine Weak_subEq ?_ ?_
   ·dsimp only
    rw [← hxc]
   ·simp [sub, upd]
  rintro ⟨⟨r, m, gm⟩, hgm, hlm, hmx⟩
  dsimp only at hgm hlm hmx ⊢
  have k7 := is29_ok br r (by omega) [32] (by simp)
  cases hb2 : r.bad
  case' true =>
   have hY := memW_bad (x := ⟨r, ⟨x.c.pc, x.c.regs, m, x.c.bufs⟩⟩) hb2
   repeat' first | refine vs T rfl fun K hK => ?_; (try simp (disch := omega) only [go_sem, Nat.reduceBEq, Nat.reduceAdd, Nat.reduceLeDiff, hb2, Bool.not_true]); (refine hK _ _ ?_; clear hK K) | refine st rfl ?_ | refine sc rfl ?_ | refine nl ?_ | refine gs rfl rfl ?_
  case' false =>
   cases hi2 : r.is [32]
   case' false =>
    have hY := memW_no (x := ⟨r, ⟨x.c.pc, x.c.regs, m, x.c.bufs⟩⟩) hi2
    rw [hi2] at k7
    have hs2 : r.skip [32] = r := by simp [Rd.skip, hi2]
    rw [hs2] at k7
    repeat' first | refine vt rfl fun K hK => ?_; refine Op1.call1 rfl rfl k7 rfl ?_; refine hK _ _ ?_; clear hK K; (try simp only [updO]) | refine vs T rfl fun K hK => ?_; (try simp (disch := omega) only [go_sem, Nat.reduceBEq, Nat.reduceAdd, Nat.reduceLeDiff, hb2, Bool.not_false]); (refine hK _ _ ?_; clear hK K) | refine st rfl ?_ | refine sc rfl ?_ | refine nl ?_ | refine gs rfl rfl ?_ | with_reducible refine gsplit_intro (fun hc => ?_) (fun hc => ?_) <;> (try simp only [decide_eq_true_eq, decide_eq_false_iff_not, Bool.not_eq_true', Bool.not_eq_false', gt_iff_lt, Int.not_lt] at hc)
   case' true =>
    have hY := memW_more (x := ⟨r, ⟨x.c.pc, x.c.regs, m, x.c.bufs⟩⟩) hb2 hi2
    rw [hY] at hmx
    have hlt := memS_lt (x := ⟨r, ⟨x.c.pc, x.c.regs, m, x.c.bufs⟩⟩) hi2
    have hsk := Rd.skip_lt hi2
    rw [hi2] at k7
    have k8 := number29_ok br (r.skip [32]) (by omega)
    repeat' first | refine vt rfl fun K hK => ?_; refine Op1.call1 rfl rfl k7 rfl ?_; refine hK _ _ ?_; clear hK K; (try simp only [updO]) | refine VC.drawS (id := 7) (by kernel_rfl) ?_ | refine vs T rfl fun K hK => ?_; (try simp (disch := omega) only [go_sem, Nat.reduceBEq, hb2, Bool.not_false]); (refine hK _ _ ?_; clear hK K) | refine st rfl ?_ | refine sc rfl ?_ | refine nl ?_ | refine gs rfl rfl ?_
    refine VCd.groupW T (rdB br (r.skip [32]).num :: (bq, .cells 43 4 (grC gp gr gm gb ⟨x.c.pc, x.c.regs, m, x.c.bufs⟩)) :: (b2, .cells 43 4 blC) :: grT gp gr gm gb ⟨x.c.pc, x.c.regs, m, x.c.bufs⟩) 3 5 6 rfl rfl rfl (by kernel_rfl) (by kernel_rfl) (by kernel_rfl) ?_
    repeat' apply VCw.step T rfl rfl (by rfl); (focus ((try simp (disch := omega) only [go_sem, Nat.reduceBEq]); (exact rfl))); (focus (try simp (disch := omega) only [go_sem, Nat.reduceBEq]))
    refine VCw.writeD T rfl rfl (by rfl) (Op1.call1 rfl rfl k8 rfl ⟨rfl, rfl⟩) ?_
    repeat' first | apply VCw.step T rfl rfl (by rfl); (focus ((try simp (disch := omega) only [go_sem, Nat.reduceBEq, Nat.reduceMul, Nat.reduceLeDiff]); (exact rfl))); (focus (try simp (disch := omega) only [go_sem, Nat.reduceBEq, Nat.reduceMul, Nat.reduceLeDiff])) | refine VCw.nil T ?_
    refine VCd.oneL T rfl (by kernel_rfl) (by kernel_rfl) rfl rfl fun K hK => ?_
    simp (disch := omega) only [go_sem, Nat.reduceBEq, Nat.reduceAdd, Nat.reduceMul, Nat.reduceSub, Nat.reduceLeDiff, Int.reduceToNat]
    refine ⟨_, _, _, _, (by repeat (first | exact Sp.here | exact Sp.nil | apply Sp.cons | apply Sp.over)), ?_, (by first | exact ⟨rfl, rfl⟩ | exact ⟨rfl, rfl, rfl⟩), ?_, fun g' hg' => hK _ _ ?_⟩ <;> clear hK K
    any_goals (first | omega | (rw [List.length_map, Nat.mul_one]; done))
    repeat' first | refine VCd.tail (f := 6) (by kernel_rfl) ?_; (try simp only [List.drop_succ_cons, List.drop_zero]) | refine vs T rfl fun K hK => ?_; (try simp (disch := omega) only [go_sem, Nat.reduceBEq, Nat.reduceAdd, Nat.reduceLeDiff]); (refine hK _ _ ?_; clear hK K) | refine nl ?_ | refine ov ?_
    refine ⟨⟨((memS ⟨r, ⟨x.c.pc, x.c.regs, m, x.c.bufs⟩⟩).r, m ++ [((r.skip [32]).val : Int)], g'), by simpa using hg', ?_, hmx⟩, Weak_subEq ?_ ?_, hlt⟩
    ·dsimp only at hlt ⊢
     simp only [List.length_append, List.length_cons, List.length_nil]
     omega
    ·simp [memS, grT]
    ·simp [sub, upd]
 all_goals rw [hY] at hmx
 any_goals
  obtain ⟨z1, z2⟩ := par_bad (s := s) (by rw [← hmx]; first | (simp only [hb2, Bool.true_or]; done) | (have q : r.s ≠ [] := (fun h => by rw [h] at hc; exact hc rfl); simp [q]; done) | (have q : 10 < x.c.pc.length := (by omega); simp [q]; done))
  rw [z1, z2]
  refine retc1 T rfl (by (try simp (disch := omega) only [hget_ne, hget_eq]); rfl) rfl rfl rfl (List.Sublist.refl _) (fz_cf0 (Fz.refl _ _))
 all_goals
  have q0 : tx r.s = { data := #[] } := by assumption
  have q1 : r.s = [] := tx_inj.1 q0
  obtain ⟨z1, z2⟩ := par_ok (s := s) (by rw [← hmx]; simp [hb2, q1]; omega)
  rw [z1, z2, ← hmx]
  refine retc1 T rfl (by (try simp (disch := omega) only [hget_ne, hget_eq]); rfl) rfl rfl rfl (List.Sublist.refl _) ⟨_, rfl, fz_cons ⟨_, rfl, fz_grC hg.1 hg.2.1 hgm hg.2.2 fun x hx => ?_⟩ (FzL.refl _ _)⟩
  exact List.mem_cons_of_mem _ (List.mem_cons_of_mem _ (List.mem_cons_of_mem _ hx))
end Go.Proofs.YtomcmfbpmkklmaaGreat
