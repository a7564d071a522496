/- Contracts: the strict reader reads a thread. No condition. -/
import Derived.Test.YtomcmfbpmkklmaaGreatFg
import Derived.Test.YtomcmfbpmkklmaaGreatFq
import Derived.Test.YtomcmfbpmkklmaaGreatYj
namespace Go.Proofs.YtomcmfbpmkklmaaGreat
set_option maxHeartbeats 16000000
set_option linter.unusedSimpArgs false
set_option linter.unusedVariables false
set_option maxRecDepth 20000
open Go Go.Proofs Go.Vc
attribute [local irreducible] retQ VCg VCw VCx
theorem Rd.num_le (r : Rd) : r.num.s.length ≤ r.s.length := by simp only [Rd.num, List.length_drop]; omega
theorem Rd.must_le (r : Rd) (g : By) : (r.must g).s.length ≤ r.s.length := by
 unfold Rd.must
 split
 ·simp only [List.length_drop]; omega
 ·exact Nat.le_refl _
theorem Rd.skip_le (r : Rd) (g : By) : (r.skip g).s.length ≤ r.s.length := by
 unfold Rd.skip
 split
 ·simp only [List.length_drop]; omega
 ·exact Nat.le_refl _
theorem Rd.skip_no {r : Rd} {g : By} (h : r.is g = false) : r.skip g = r := by simp [Rd.skip, h]
def thrS (x : Th) : Th :=
 let r1 := (x.r.skip [32]).num
 let n : Int := (x.r.skip [32]).val
 if r1.is [61] then ⟨(r1.skip [61]).num, x.regs, x.buf ++ [(n, ((r1.skip [61]).val : Int))]⟩ else ⟨⟨r1.s, r1.bad || decide (0 < x.buf.length)⟩, x.regs ++ [n], x.buf⟩
theorem thrL_step (f : Nat) (x : Th) : thrL (f + 1) x = if x.r.bad then x else if x.r.is [32] then thrL f (thrS x) else x := by
 unfold thrS
 rw [thrL]
 split
 ·rfl
 split
 ·dsimp only
  split <;> rfl
 ·rfl
theorem Rd.skip_lt {r : Rd} {b : UInt8} (h : r.is [b] = true) : (r.skip [b]).s.length + 1 = r.s.length := by
 have := (Rd.skip_ok h).1
 have := congrArg List.length this
 simp only [List.length_append, List.length_cons, List.length_nil] at this
 omega
theorem thrS_lt {x : Th} (h : x.r.is [32] = true) : (thrS x).r.s.length < x.r.s.length ∧ (thrS x).regs.length + (thrS x).buf.length = x.regs.length + x.buf.length + 1 := by
 have h1 := Rd.skip_lt h
 have h2 := (x.r.skip [32]).num_le
 unfold thrS
 dsimp only
 split
 ·have h3 := Rd.skip_le (x.r.skip [32]).num [61]
  have h4 := ((x.r.skip [32]).num.skip [61]).num_le
  simp only [List.length_append, List.length_cons, List.length_nil]
  omega
 ·simp only [List.length_append, List.length_cons, List.length_nil]
  omega
theorem thrL_fuel : ∀ (f g : Nat) (x : Th), x.r.s.length < f → x.r.s.length < g → thrL f x = thrL g x
 | 0, _, _, h, _ => absurd h (Nat.not_lt_zero _)
 | _, 0, _, _, h => absurd h (Nat.not_lt_zero _)
 | f + 1, g + 1, x, h1, h2 => by
  rw [thrL_step, thrL_step]
  split
  ·rfl
  split
  ·rename_i hi
   have := (thrS_lt hi).1
   exact thrL_fuel f g _ (by omega) (by omega)
  ·rfl
def thrE (x : Th) : Th := thrL (x.r.s.length + 1) x
theorem thrE_bad {x : Th} (h : x.r.bad = true) : thrE x = x := by rw [thrE, thrL_step, if_pos h]
theorem thrE_no {x : Th} (h : x.r.is [32] = false) : thrE x = x := by rw [thrE, thrL_step, h]; simp
theorem thrE_more {x : Th} (h : x.r.bad = false) (hi : x.r.is [32] = true) : thrE x = thrE (thrS x) := by
 rw [thrE, thrL_step, h, hi]
 simp only [Bool.false_eq_true, if_false, if_true]
 exact thrL_fuel _ _ _ (by have := (thrS_lt hi).1; omega) (by omega)
abbrev G2 := Option (Nat × Nat)
abbrev grC (gp gr gm gb : G2) (c : Cf) : List D := [.gs gp c.pc.length, .gs gr c.regs.length, .gs gm c.mem.length, .gs gb c.bufs.length]
abbrev grT (gp gr gm gb : G2) (c : Cf) : Heap := shp gp 3 1 (c.pc.map iD) (shp gr 22 1 (c.regs.map ints) (shp gm 3 1 (c.mem.map iD) (shp gb 98 1 (c.bufs.map buf) [])))
abbrev rdB (b : Nat) (r : Rd) : Nat × HC := (b, .cells 175 2 [sD (tx r.s), bD r.bad])
abbrev thH (br bc : Nat) (r : Rd) (gp gr gm gb : G2) (c : Cf) : Heap := rdB br r :: (bc, .cells 43 4 (grC gp gr gm gb c)) :: grT gp gr gm gb c
theorem thread29_ok (br bc : Nat) (r : Rd) (hs : r.s.length ≤ 1000000) (gp gr gm gb : G2) (c : Cf) (hg : gOk gp c.pc.length ∧ gOk gr c.regs.length ∧ gOk gb c.bufs.length) (hc : c.pc.length ≤ 1000000 ∧ c.regs.length ≤ 1000000 ∧ c.bufs.length ≤ 1000000) :
  Fun Tryz.prog 143 [pD br, pD bc] (thH br bc r gp gr gm gb c) false (fun d H' => ∃ q : G2 × G2 × G2, (gOk q.1 (c.pc.length + 1) ∧ gOk q.2.1 (c.regs.length + 1) ∧ gOk q.2.2 (c.bufs.length + 1)) ∧ d = .tup [] ∧
   H' = thH br bc ((thrA r c.pc.length).r.must [59, 32]) q.1 q.2.1 gm q.2.2 ⟨c.pc ++ [((thr0 r c.pc.length).val : Int)], c.regs ++ [(thrA r c.pc.length).regs], c.mem, c.bufs ++ [(thrA r c.pc.length).buf]⟩) := by
 have c1 := number29_ok br r (by omega)
 refine Fun.of T [] Tryz.func143 rfl Tryz.ntmps143 Tryz.results143 rfl (by kernel_rfl) ?_
 refine VC.nodup fun hn => ?_
 have hne : ¬ br = bc := fun h => by subst h; simp [Heap.blocks] at hn
 repeat' first | refine VC.drawS (id := 0) (by kernel_rfl) ?_ | refine st rfl ?_
 refine VCd.groupW T (rdB br r.num :: (bc, .cells 43 4 (grC gp gr gm gb c)) :: grT gp gr gm gb c) 1 8 8 rfl rfl rfl (by kernel_rfl) (by kernel_rfl) (by kernel_rfl) ?_
 repeat' apply VCw.step T rfl rfl (by rfl); (focus ((try simp (disch := omega) only [go_sem, Nat.reduceBEq]); (exact rfl))); (focus (try simp (disch := omega) only [go_sem, Nat.reduceBEq]))
 refine VCw.writeD T rfl rfl (by rfl) (Op1.call1 rfl rfl c1 rfl ⟨rfl, rfl⟩) ?_
 have l1 := r.num_le
 have c2 : ∀ X, Fun Tryz.prog 144 [pD br, sD (tx [58])] [rdB br ⟨r.num.s, X⟩] false (fun d H' => d = .tup [] ∧ H' = [rdB br (Rd.must ⟨r.num.s, X⟩ [58])]) := fun X => must29_ok br ⟨r.num.s, X⟩ (by simp only []; omega) [58] (by simp)
 generalize hX : (r.num.bad || !decide (r.val = c.pc.length)) = X
 have h0 : Rd.must ⟨r.num.s, X⟩ [58] = thr0 r c.pc.length := by rw [thr0, hX]
 have l2 : (thr0 r c.pc.length).s.length ≤ r.s.length := by
  have := Rd.must_le ⟨r.num.s, X⟩ [58]
  rw [h0] at this
  simp only [] at this
  omega
 have c3 := number29_ok br (thr0 r c.pc.length) (by omega)
 have l3 := (thr0 r c.pc.length).num_le
 cases hv : decide (r.val = c.pc.length)
 case' false =>
  have hb : ((r.val : Int) != (c.pc.length : Int)) = true := by simp at hv; exact bne_iff_ne.2 (by omega)
  obtain rfl : X = true := by rw [← hX, hv]; simp
  have c2 := c2 true
 case' true =>
  have hb : ((r.val : Int) != (c.pc.length : Int)) = false := by simp at hv; simp [hv]
  obtain rfl : X = r.num.bad := by rw [← hX, hv]; simp
  have c2 := c2 r.num.bad
 all_goals
  rw [h0] at c2
  repeat' first | refine vt rfl fun K hK => ?_; refine Op1.call1 rfl rfl c2 rfl ?_; refine hK _ _ ?_; clear hK K; (try simp only [updO]) | apply VCw.step T rfl rfl (by rfl); (focus ((try simp (disch := omega) only [go_sem, Nat.reduceBEq, hb]); (exact rfl))); (focus (try simp (disch := omega) only [go_sem, Nat.reduceBEq, hb])) | refine VCw.nil T ?_ | refine VCd.tail (f := 8) (by kernel_rfl) ?_; (try simp only [List.drop_succ_cons, List.drop_nil]) | refine VC.drawS (id := 3) (by kernel_rfl) ?_ | refine vs T rfl fun K hK => ?_; (try simp (disch := omega) only [go_sem, Nat.reduceBEq, Nat.reduceAdd, Nat.reduceLeDiff]); (refine hK _ _ ?_; clear hK K) | refine st rfl ?_ | refine sc rfl ?_ | refine nl ?_ | refine ov ?_
  refine VCd.take rfl rfl rfl rfl rfl rfl (by kernel_rfl) (by kernel_rfl) (fun c s' h => by simp only [thenQ] at h; unfold retQ at h; exact h) ?_
  refine VCd.groupWs T (rdB br (thr0 r c.pc.length).num :: (bc, .cells 43 4 (grC gp gr gm gb c)) :: grT gp gr gm gb c) 1 6 8 9 rfl (by decide) rfl rfl (by kernel_rfl) (by kernel_rfl) (by kernel_rfl) ?_
 all_goals
  repeat' apply VCw.step T rfl rfl (by rfl); (focus ((try simp (disch := omega) only [go_sem, Nat.reduceBEq]); (exact rfl))); (focus (try simp (disch := omega) only [go_sem, Nat.reduceBEq]))
  refine VCw.writeD T rfl rfl (by rfl) (Op1.call1 rfl rfl c3 rfl ⟨rfl, rfl⟩) ?_
  repeat' first | apply VCw.step T rfl rfl (by rfl); (focus ((try simp (disch := omega) only [go_sem, Nat.reduceBEq, Nat.reduceMul, Nat.reduceLeDiff]); (exact rfl))); (focus (try simp (disch := omega) only [go_sem, Nat.reduceBEq, Nat.reduceMul, Nat.reduceLeDiff])) | refine VCw.nil T ?_
  refine VCd.oneL T rfl (by kernel_rfl) (by kernel_rfl) rfl rfl fun K hK => ?_
  simp (disch := omega) only [go_sem, Nat.reduceBEq, Nat.reduceAdd, Nat.reduceMul, Nat.reduceSub, Nat.reduceLeDiff, Int.reduceToNat]
  refine ⟨_, _, _, _, (by repeat (first | exact Sp.here | exact Sp.nil | apply Sp.cons | apply Sp.over)), ?_, (by first | exact ⟨rfl, rfl⟩ | exact ⟨rfl, rfl, rfl⟩), ?_, fun g' hg' => hK _ _ ?_⟩ <;> clear hK K
 any_goals (first | omega | (rw [List.length_map, Nat.mul_one]; done))
 all_goals
  repeat' first | refine VCd.tail (f := 9) (by kernel_rfl) ?_; (try simp only [List.drop_succ_cons, List.drop_zero]) | refine vs T rfl fun K hK => ?_; (try simp (disch := omega) only [go_sem, Nat.reduceBEq, Nat.reduceAdd, Nat.reduceLeDiff]); (refine hK _ _ ?_; clear hK K) | refine st rfl ?_ | refine nl ?_ | refine ov ?_
 all_goals
  refine VC.loop {p : Th × G2 × G2 // (gOk p.2.1 p.1.regs.length ∧ gOk p.2.2 p.1.buf.length) ∧ (p.1.r.s.length + p.1.regs.length + p.1.buf.length ≤ 1000000 ∧ thrE p.1 = thrA r c.pc.length)}
   (fun p => ⟨lookD [(0, pD br), (1, pD bc), (4, .gs p.1.2.1 p.1.1.regs.length), (5, .gs p.1.2.2 p.1.1.buf.length)], rdB br p.1.1.r :: (bc, .cells 43 4 [.gs g' (c.pc.length + 1), .gs gr c.regs.length, .gs gm c.mem.length, .gs gb c.bufs.length]) ::
    shp p.1.2.1 3 1 (p.1.1.regs.map iD) (shp p.1.2.2 127 2 (eRs p.1.1.buf).flatten (shp g' 3 1 (c.pc.map iD ++ [iD ((thr0 r c.pc.length).val : Nat)]) (shp gr 22 1 (c.regs.map ints) (shp gm 3 1 (c.mem.map iD) (shp gb 98 1 (c.bufs.map buf) [])))))⟩)
   (fun p => p.1.1.r.s.length) ⟨(⟨(thr0 r c.pc.length).num, [], []⟩, none, none), ⟨rfl, rfl⟩, by dsimp only; simp only [List.length_nil]; omega, rfl⟩ ?_ ?_
  ·refine Weak_subEq rfl ?_
   simp [sub, upd]
  rintro ⟨⟨x, ga, ge⟩, ⟨hga, hge⟩, hle, hx⟩
  dsimp only at hga hge hle hx ⊢
  have k1 := is29_ok br x.r (by omega) [32] (by simp)
  have m1 := Rd.skip_le x.r [32]
  have m2 := (x.r.skip [32]).num_le
  have m3 := Rd.skip_le (x.r.skip [32]).num [61]
  have k2 := number29_ok br (x.r.skip [32]) (by omega)
  have k3 := is29_ok br (x.r.skip [32]).num (by omega) [61] (by simp)
  have k4 := number29_ok br ((x.r.skip [32]).num.skip [61]) (by omega)
  cases hb : x.r.bad
  case' true =>
   have hX := thrE_bad hb
   rw [hX] at hx
   subst hx
   have k5 := must29_ok br (thrA r c.pc.length).r (by omega) [59, 32] (by simp)
   repeat' first | refine vt rfl fun K hK => ?_; refine Op1.call1 rfl rfl k5 rfl ?_; refine hK _ _ ?_; clear hK K; (try simp only [updO]) | refine VC.drawS (id := 13) (by kernel_rfl) ?_ | refine vs T rfl fun K hK => ?_; (try simp (disch := omega) only [go_sem, Nat.reduceBEq, hb, Bool.not_true]); (refine hK _ _ ?_; clear hK K) | refine st rfl ?_ | refine sc rfl ?_ | refine nl ?_ | refine gs rfl rfl ?_
  case' false =>
   cases hi : x.r.is [32]
   case' false =>
    have hX := thrE_no hi
    rw [hX] at hx
    rw [hi] at k1
    have hs : x.r.skip [32] = x.r := by simp [Rd.skip, hi]
    rw [hs] at k1
    subst hx
    have k5 := must29_ok br (thrA r c.pc.length).r (by omega) [59, 32] (by simp)
    have k6 : Fun Tryz.prog 144 [pD br, sD (tx [59, 32])] [(br, .cells 175 2 [sD (tx (thrA r c.pc.length).r.s), bD false])] false (fun d H' => d = .tup [] ∧ H' = [rdB br ((thrA r c.pc.length).r.must [59, 32])]) := by have h := k5; simp only [rdH, hb] at h; exact h
    repeat' first | refine vt rfl fun K hK => ?_; refine Op1.call1 rfl rfl k1 rfl ?_; refine hK _ _ ?_; clear hK K; (try simp only [updO]) | refine vt rfl fun K hK => ?_; refine Op1.call1 rfl rfl k6 rfl ?_; refine hK _ _ ?_; clear hK K; (try simp only [updO]) | refine VC.drawS (id := 13) (by kernel_rfl) ?_ | refine vs T rfl fun K hK => ?_; (try simp (disch := omega) only [go_sem, Nat.reduceBEq, hb, Bool.not_false]); (refine hK _ _ ?_; clear hK K) | refine st rfl ?_ | refine sc rfl ?_ | refine nl ?_ | refine gs rfl rfl ?_
   case' true =>
    have hX := thrE_more hb hi
    rw [hX] at hx
    have hlt := thrS_lt hi
    rw [hi] at k1
    cases hq : (x.r.skip [32]).num.is [61]
    case' false =>
     rw [hq] at k3
     have hs := Rd.skip_no hq
     have hS : thrS x = ⟨⟨(x.r.skip [32]).num.s, (x.r.skip [32]).num.bad || decide (0 < x.buf.length)⟩, x.regs ++ [((x.r.skip [32]).val : Int)], x.buf⟩ := by unfold thrS; simp only [hq, Bool.false_eq_true, if_false]
     rw [hs] at k3
     repeat' first | refine vt rfl fun K hK => ?_; refine Op1.call1 rfl rfl k1 rfl ?_; refine hK _ _ ?_; clear hK K; (try simp only [updO]) | refine vt rfl fun K hK => ?_; refine Op1.call1 rfl rfl k2 rfl ?_; refine hK _ _ ?_; clear hK K; (try simp only [updO]) | refine vt rfl fun K hK => ?_; refine Op1.call1 rfl rfl k3 rfl ?_; refine hK _ _ ?_; clear hK K; (try simp only [updO]) | refine vs T rfl fun K hK => ?_; (try simp (disch := omega) only [go_sem, Nat.reduceBEq, Nat.reduceAdd, Nat.reduceMul, Nat.reduceLeDiff, hb, Bool.not_false]); (first | refine hK _ _ ?_; clear hK K | refine ⟨_, _, _, _, (by repeat (first | exact Sp.here | apply Sp.cons)), ?_, (by exact ⟨rfl, rfl⟩), ⟨by decide, ?_⟩, fun g' hg' => hK _ _ ?_⟩ <;> clear hK K) | refine st rfl ?_ | refine sc rfl ?_ | refine nl ?_ | refine gs rfl rfl ?_ | with_reducible refine gsplit_intro (fun hc => ?_) (fun hc => ?_)
     any_goals (first | omega | (rw [List.length_map, Nat.mul_one]; done))
     all_goals
      rw [hS] at hx hlt
      refine ⟨⟨(⟨⟨(x.r.skip [32]).num.s, (x.r.skip [32]).num.bad || decide (0 < x.buf.length)⟩, x.regs ++ [((x.r.skip [32]).val : Int)], x.buf⟩, g', ge), ⟨by simpa using hg', hge⟩, by dsimp only at hlt ⊢; simp only [List.length_append, List.length_cons, List.length_nil] at hlt ⊢; omega, hx⟩, Weak_subEq ?_ ?_, by dsimp only at hlt ⊢; omega⟩
      ·rename_i hc _ _
       simp [hc, List.map_append]
      ·simp [sub, upd]
    case' true =>
     rw [hq] at k3
     have hS : thrS x = ⟨((x.r.skip [32]).num.skip [61]).num, x.regs, x.buf ++ [(((x.r.skip [32]).val : Int), (((x.r.skip [32]).num.skip [61]).val : Int))]⟩ := by unfold thrS; simp only [hq, if_true]
     repeat' first | refine vt rfl fun K hK => ?_; refine Op1.call1 rfl rfl k1 rfl ?_; refine hK _ _ ?_; clear hK K; (try simp only [updO]) | refine vt rfl fun K hK => ?_; refine Op1.call1 rfl rfl k2 rfl ?_; refine hK _ _ ?_; clear hK K; (try simp only [updO]) | refine vt rfl fun K hK => ?_; refine Op1.call1 rfl rfl k3 rfl ?_; refine hK _ _ ?_; clear hK K; (try simp only [updO]) | refine vt rfl fun K hK => ?_; refine Op1.call1 rfl rfl k4 rfl ?_; refine hK _ _ ?_; clear hK K; (try simp only [updO]) | refine vs T rfl fun K hK => ?_; (try simp (disch := omega) only [go_sem, Nat.reduceBEq, Nat.reduceAdd, Nat.reduceMul, Nat.reduceLeDiff, hb, Bool.not_false]); (first | refine hK _ _ ?_; clear hK K | refine ⟨_, _, _, _, (by repeat (first | exact Sp.here | apply Sp.cons | apply Sp.over)), ?_, (by exact ⟨rfl, rfl⟩), ?_, fun g' hg' => hK _ _ ?_⟩ <;> clear hK K) | refine st rfl ?_ | refine sc rfl ?_ | refine nl ?_ | refine gs rfl rfl ?_
     any_goals (first | omega | exact eRs_flat _)
     rw [hS] at hx hlt
     refine ⟨⟨(⟨((x.r.skip [32]).num.skip [61]).num, x.regs, x.buf ++ [(((x.r.skip [32]).val : Int), (((x.r.skip [32]).num.skip [61]).val : Int))]⟩, ga, g'), ⟨hga, by simpa using hg'⟩, by dsimp only at hlt ⊢; simp only [List.length_append, List.length_cons, List.length_nil] at hlt ⊢; omega, hx⟩, Weak_subEq ?_ ?_, by dsimp only at hlt ⊢; omega⟩
     ·simp [eRs, eR]
     ·simp [sub, upd]
 all_goals
  have e4 : (thrA r c.pc.length).regs.map iD = (iRs (thrA r c.pc.length).regs).flatten := by generalize (thrA r c.pc.length).regs = l; induction l with | nil => rfl | cons a l ih => rw [List.map_cons, ih]; rfl
  rw [e4]
  refine VCd.weak (Weak_fz3 (t := 4) (g := ga) (rows := iRs (thrA r c.pc.length).regs) (by rw [iRs_len]; rfl) (by simp [iRs])) ?_
  refine VCd.weak (Weak_fz3 (t := 5) (g := ge) (rows := eRs (thrA r c.pc.length).buf) (by rw [eRs_len]; rfl) (fun r hr => by obtain ⟨e, _, rfl⟩ := List.mem_map.1 hr; rfl)) ?_
  generalize hR : (thrA r c.pc.length).r.must [59, 32] = R
  generalize (thrA r c.pc.length).regs = RG at *
  generalize (thrA r c.pc.length).buf = RB at *
  generalize (((thr0 r c.pc.length).val : Nat) : Int) = PC at *
  refine VCd.take2 rfl rfl rfl rfl rfl (by kernel_rfl) (by kernel_rfl) (by kernel_rfl) (fun c s' h => by unfold retQ at h; exact h) ?_
  refine VCd.take2 rfl rfl rfl rfl rfl (by kernel_rfl) (by kernel_rfl) (by kernel_rfl) (fun c s' h => by unfold retQ at h; exact h) ?_
  refine VCd.groupN T (fun d H' => ∃ g2, gOk g2 (c.regs.length + 1) ∧ d = .gs g2 (c.regs.length + 1) ∧ H' = rdB br R :: (bc, .cells 43 4 [.gs g' (c.pc.length + 1), .gs gr c.regs.length, .gs gm c.mem.length, .gs gb c.bufs.length]) :: shp g' 3 1 (c.pc.map iD ++ [iD PC]) (shp g2 22 1 (c.regs.map ints ++ [ints RG]) (shp gm 3 1 (c.mem.map iD) (shp gb 98 1 (c.bufs.map buf) [])))) 2 8 15 19 (by kernel_rfl) (by kernel_rfl) (by kernel_rfl) (by kernel_rfl) (by kernel_rfl) (by kernel_rfl) ?_
  show NW _ _ 13 2 _ _ _
  repeat (apply NW.stepA T rfl rfl; focus ((try simp (disch := omega) only [go_sem, Nat.reduceBEq, Nat.reduceAdd, Nat.reduceMul, Nat.reduceSub, Nat.reduceLeDiff, Int.reduceToNat]); (first | exact rfl | exact ⟨rfl, rfl⟩ | (refine ⟨?_, rfl⟩; try (first | omega | exact ⟨rfl, by decide⟩ | exact rfl)))))
  refine NW.atA T rfl rfl ?_ ?_
  case refine_1 =>
   simp (disch := omega) only [go_sem, Nat.reduceBEq, Nat.reduceAdd, Nat.reduceMul, Nat.reduceSub, Nat.reduceLeDiff, Int.reduceToNat]
   refine ⟨_, _, _, _, (by repeat (first | exact Sp.here | exact Sp.nil | apply Sp.cons | apply Sp.over)), ?_, (by first | exact ⟨rfl, rfl⟩ | exact ⟨rfl, rfl, rfl⟩), ?_, fun g2 hg2 => ⟨g2, ?_, rfl, rfl⟩⟩
   ·rw [List.length_map, Nat.mul_one]
   ·omega
   ·exact hg2
  repeat (apply NW.stepA T rfl rfl; focus ((try simp (disch := omega) only [go_sem, Nat.reduceBEq, Nat.reduceAdd, Nat.reduceMul, Nat.reduceSub, Nat.reduceLeDiff, Int.reduceToNat]); (first | exact rfl | exact ⟨rfl, rfl⟩ | (refine ⟨?_, rfl⟩; try (first | omega | exact ⟨rfl, by decide⟩ | exact rfl)))))
  refine NW.nil ?_
  rintro d H1 ⟨g2, hg2, rfl, rfl⟩
  show NW _ _ 13 2 _ _ _
  repeat (apply NW.ancB T (rdB br R :: (bc, .cells 43 4 [.gs g' (c.pc.length + 1), .gs gr c.regs.length, .gs gm c.mem.length, .gs gb c.bufs.length]) :: shp g' 3 1 (c.pc.map iD ++ [iD PC]) (shp gr 22 1 (c.regs.map ints) (shp gm 3 1 (c.mem.map iD) (shp gb 98 1 (c.bufs.map buf) [])))) rfl rfl (by kernel_rfl); (focus ((try simp (disch := omega) only [go_sem, Nat.reduceBEq, Nat.reduceAdd, Nat.reduceMul, Nat.reduceSub, Nat.reduceLeDiff, Int.reduceToNat]); (first | exact rfl | exact ⟨rfl, rfl⟩ | (refine ⟨?_, rfl⟩; try (first | omega | exact ⟨rfl, by decide⟩ | exact rfl))))); (focus exact rfl))
  refine NW.atB rfl rfl ?_
  repeat (apply NW.stepB T rfl rfl; (focus ((try simp (disch := omega) only [go_sem, Nat.reduceBEq, Nat.reduceAdd, Nat.reduceMul, Nat.reduceSub, Nat.reduceLeDiff, Int.reduceToNat]); (first | exact rfl | exact ⟨rfl, rfl⟩ | (refine ⟨?_, rfl⟩; try (first | omega | exact ⟨rfl, by decide⟩ | exact rfl))))); (focus exact rfl))
  refine NW.nil ?_
  refine VCd.oneL T rfl (by kernel_rfl) (by kernel_rfl) rfl rfl fun K hK => ?_
  simp (disch := omega) only [go_sem, Nat.reduceBEq, Nat.reduceAdd, Nat.reduceMul, Nat.reduceSub, Nat.reduceLeDiff, Int.reduceToNat]
  refine ⟨_, _, _, _, (by repeat (first | exact Sp.here | exact Sp.nil | apply Sp.cons | apply Sp.over)), ?_, (by first | exact ⟨rfl, rfl⟩ | exact ⟨rfl, rfl, rfl⟩), ?_, fun g3 hg3 => hK _ _ ?_⟩ <;> clear hK K
  ·rw [List.length_map, Nat.mul_one]
  ·omega
  refine VCd.oneL T rfl (by kernel_rfl) (by kernel_rfl) rfl rfl fun K hK => ?_
  simp (disch := omega) only [go_sem, Nat.reduceBEq, Nat.reduceAdd, Nat.reduceMul, Nat.reduceSub, Nat.reduceLeDiff, Int.reduceToNat]
  refine hK _ _ ?_
  clear hK K
  refine VCd.oneL T rfl (by kernel_rfl) (by kernel_rfl) rfl rfl fun K hK => ?_
  simp (disch := omega) only [go_sem, Nat.reduceBEq, Nat.reduceAdd, Nat.reduceMul, Nat.reduceSub, Nat.reduceLeDiff, Int.reduceToNat]
  refine hK _ _ ?_
  clear hK K
  refine VCd.oneL T rfl (by kernel_rfl) (by kernel_rfl) rfl rfl fun K hK => ?_
  simp (disch := omega) only [go_sem, Nat.reduceBEq, Nat.reduceAdd, Nat.reduceMul, Nat.reduceSub, Nat.reduceLeDiff, Int.reduceToNat]
  refine hK _ _ ?_
  clear hK K
  refine VCd.tail (f := 19) (by kernel_rfl) ?_
  simp only [List.drop_succ_cons, List.drop_zero, List.drop_nil]
  repeat' first | refine vs T rfl fun K hK => ?_; (try simp (disch := omega) only [go_sem, Nat.reduceBEq, Nat.reduceAdd, Nat.reduceLeDiff]); (refine hK _ _ ?_; clear hK K) | refine nl ?_ | refine ov ?_
  refine ret0 T rfl (List.Sublist.refl _) ⟨(g', g2, g3), ⟨hg', hg2, hg3⟩, rfl, ?_⟩
  simp only [thH, grC, grT, List.map_append, List.map_cons, List.map_nil, List.length_append, List.length_cons, List.length_nil, Nat.zero_add]
end Go.Proofs.YtomcmfbpmkklmaaGreat
