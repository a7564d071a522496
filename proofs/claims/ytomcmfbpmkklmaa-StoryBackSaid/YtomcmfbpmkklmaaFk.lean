/- Contracts: the loose reader. No condition. -/
import Derived.Test.YtomcmfbpmkklmaaFi
import Derived.Test.YtomcmfbpmkklmaaFj
namespace Go.Proofs.Ytomcmfbpmkklmaa
set_option maxHeartbeats 16000000
set_option linter.unusedSimpArgs false
set_option linter.unusedVariables false
set_option maxRecDepth 20000
open Go Go.Proofs Go.Vc
attribute [local irreducible] retQ VCg VCw VCx
def rn (s : By) (a : Nat) : Nat := (rnum (s.drop a) 0).1
def rp (s : By) (a : Nat) : Nat := a + (rnum (s.drop a) 0).2
theorem rp_le (s : By) (a : Nat) : a ≤ rp s a ∧ rp s a ≤ max a s.length ∧ rn s a ≤ 10000 := by
 have h := rnum_le (s.drop a) 0 (by omega)
 rw [List.length_drop] at h
 unfold rp rn
 omega
theorem hdB_at {s : By} {a : Nat} {b : UInt8} : hdB (s.drop a) b = true ↔ a < s.length ∧ s.getD a 0 = b := by
 rcases Nat.lt_or_ge a s.length with h | h
 ·rw [drop_getD 0 h]
  simp [hdB, h]
 ·rw [List.drop_eq_nil_of_le h]
  simp [hdB]; omega
def looT (x : Lo) : Lo :=
 let n := rnum (x.s.drop 1) 0
 let s1 := (x.s.drop 1).drop n.2
 if hdB s1 61 then (let v := rnum (s1.drop 1) 0; ⟨(s1.drop 1).drop v.2, x.regs, x.buf ++ [((n.1 : Int), (v.1 : Int))]⟩)
 else ⟨s1, x.regs ++ [(n.1 : Int)], x.buf⟩
theorem looL_step (f : Nat) (x : Lo) : looL (f + 1) x = if hdB x.s 32 then looL f (looT x) else x := by
 unfold looT
 rw [looL]
 split
 ·dsimp only
  split <;> rfl
 ·rfl
theorem hdB_pos {s : By} {b : UInt8} (h : hdB s b = true) : 0 < s.length := by
 cases s with
 | nil => simp [hdB] at h
 | cons a s => simp
theorem looT_lt {x : Lo} (h : hdB x.s 32 = true) : (looT x).s.length < x.s.length := by
 have h0 := hdB_pos h
 unfold looT
 dsimp only
 split <;> (simp only [List.length_drop]; omega)
theorem looL_fuel : ∀ (f g : Nat) (x : Lo), x.s.length < f → x.s.length < g → looL f x = looL g x
 | 0, _, _, h, _ => absurd h (Nat.not_lt_zero _)
 | _, 0, _, _, h => absurd h (Nat.not_lt_zero _)
 | f + 1, g + 1, x, h1, h2 => by
  rw [looL_step, looL_step]
  split
  ·rename_i hi
   have := looT_lt hi
   exact looL_fuel f g _ (by omega) (by omega)
  ·rfl
theorem looL_le : ∀ (f : Nat) (x : Lo), (looL f x).s.length ≤ x.s.length
 | 0, _ => Nat.le_refl _
 | f + 1, x => by
  rw [looL_step]
  split
  ·rename_i hi
   have h1 := looL_le f (looT x)
   have h2 := looT_lt hi
   omega
  ·exact Nat.le_refl _
def looE (x : Lo) : Lo := looL (x.s.length + 1) x
theorem looE_no {x : Lo} (h : hdB x.s 32 = false) : looE x = x := by rw [looE, looL_step, h]; simp
theorem looE_more {x : Lo} (h : hdB x.s 32 = true) : looE x = looE (looT x) := by
 rw [looE, looL_step, h]
 simp only [if_true]
 exact looL_fuel _ _ _ (by have := looT_lt h; omega) (by omega)
theorem looT_at (s : By) (a : Nat) (rg : List Int) (bf : List En) : looT ⟨s.drop a, rg, bf⟩ =
  if hdB (s.drop (rp s (a + 1))) 61 then ⟨s.drop (rp s (rp s (a + 1) + 1)), rg, bf ++ [((rn s (a + 1) : Int), (rn s (rp s (a + 1) + 1) : Int))]⟩ else ⟨s.drop (rp s (a + 1)), rg ++ [(rn s (a + 1) : Int)], bf⟩ := by
 simp only [looT, List.drop_drop, rp, rn]
 rfl
theorem looS_lt {x : Lp} (h : hdB x.s 116 = true) : (looS x).s.length < x.s.length := by
 have h0 := hdB_pos h
 unfold looS
 dsimp only
 generalize hy : looL _ _ = y
 have h2 := looL_le ((((x.s.drop 1).drop (rnum (x.s.drop 1) 0).2).drop 1).drop (rnum (((x.s.drop 1).drop (rnum (x.s.drop 1) 0).2).drop 1) 0).2).length.succ ⟨((((x.s.drop 1).drop (rnum (x.s.drop 1) 0).2).drop 1).drop (rnum (((x.s.drop 1).drop (rnum (x.s.drop 1) 0).2).drop 1) 0).2), [], []⟩
 rw [Nat.succ_eq_add_one, hy] at h2
 simp only [List.length_drop] at h2 ⊢
 omega
theorem looP_step (f : Nat) (x : Lp) : looP (f + 1) x = if hdB x.s 116 && decide (x.c.pc.length < 11) then looP f (looS x) else x := rfl
theorem looP_fuel : ∀ (f g : Nat) (x : Lp), x.s.length < f → x.s.length < g → looP f x = looP g x
 | 0, _, _, h, _ => absurd h (Nat.not_lt_zero _)
 | _, 0, _, _, h => absurd h (Nat.not_lt_zero _)
 | f + 1, g + 1, x, h1, h2 => by
  rw [looP_step, looP_step]
  split
  ·rename_i hi
   simp only [Bool.and_eq_true] at hi
   have := looS_lt hi.1
   exact looP_fuel f g _ (by omega) (by omega)
  ·rfl
def looW (x : Lp) : Lp := looP (x.s.length + 1) x
theorem looW_no {x : Lp} (h : (hdB x.s 116 && decide (x.c.pc.length < 11)) = false) : looW x = x := by rw [looW, looP_step, h]; simp
theorem looW_more {x : Lp} (h : hdB x.s 116 = true) (h2 : x.c.pc.length < 11) : looW x = looW (looS x) := by
 rw [looW, looP_step, h]
 simp only [h2, decide_true, Bool.and_self, if_true]
 exact looP_fuel _ _ _ (by have := looS_lt h; omega) (by omega)
def ta (s : By) (a : Nat) : Nat := rp s (rp s (a + 1) + 1)
theorem looS_at (s : By) (a : Nat) (c : Cf) : looS ⟨s.drop a, c⟩ =
  ⟨(looE ⟨s.drop (ta s a), [], []⟩).s.drop 2, ⟨c.pc ++ [(rn s (rp s (a + 1) + 1) : Int)], c.regs ++ [(looE ⟨s.drop (ta s a), [], []⟩).regs], c.mem, c.bufs ++ [(looE ⟨s.drop (ta s a), [], []⟩).buf]⟩⟩ := by
 simp only [looS, List.drop_drop, rp, rn, ta, looE]
def looN (x : Lp) : Lp := ⟨(x.s.drop 1).drop (rnum (x.s.drop 1) 0).2, ⟨x.c.pc, x.c.regs, x.c.mem ++ [((rnum (x.s.drop 1) 0).1 : Int)], x.c.bufs⟩⟩
theorem looM_step (f : Nat) (x : Lp) : looM (f + 1) x = if hdB x.s 32 then looM f (looN x) else x := rfl
theorem looN_lt {x : Lp} (h : hdB x.s 32 = true) : (looN x).s.length < x.s.length := by
 have h0 := hdB_pos h
 simp only [looN, List.length_drop]
 omega
theorem looM_fuel : ∀ (f g : Nat) (x : Lp), x.s.length < f → x.s.length < g → looM f x = looM g x
 | 0, _, _, h, _ => absurd h (Nat.not_lt_zero _)
 | _, 0, _, _, h => absurd h (Nat.not_lt_zero _)
 | f + 1, g + 1, x, h1, h2 => by
  rw [looM_step, looM_step]
  split
  ·rename_i hi
   have := looN_lt hi
   exact looM_fuel f g _ (by omega) (by omega)
  ·rfl
def looV (x : Lp) : Lp := looM (x.s.length + 1) x
theorem looV_no {x : Lp} (h : hdB x.s 32 = false) : looV x = x := by rw [looV, looM_step, h]; simp
theorem looV_more {x : Lp} (h : hdB x.s 32 = true) : looV x = looV (looN x) := by
 rw [looV, looM_step, h]
 simp only [if_true]
 exact looM_fuel _ _ _ (by have := looN_lt h; omega) (by omega)
theorem looN_at (s : By) (a : Nat) (c : Cf) : looN ⟨s.drop a, c⟩ = ⟨s.drop (rp s (a + 1)), ⟨c.pc, c.regs, c.mem ++ [(rn s (a + 1) : Int)], c.bufs⟩⟩ := by
 simp only [looN, List.drop_drop, rp, rn]
theorem looF_eq {s : By} {a : Nat} {c : Cf} (h : looW ⟨s, cf0⟩ = ⟨s.drop a, c⟩) : looF s = (looV ⟨s.drop (a + 2), c⟩).c := by
 have q : looW ⟨s, cf0⟩ = looP (s.length + 1) ⟨s, ⟨[], [], [], []⟩⟩ := rfl
 rw [h] at q
 simp only [looF, looA, ← q, List.drop_drop, looV]
theorem rpar_bad {s : By} (h : (decide (s = []) || !decide (showF (looF s) = s)) = true) : parC s = cf0 ∧ parB s = false := by
 have e : parT s = none := by rw [par_eq]; unfold rparF; rw [h]; rfl
 constructor
 ·rw [parC, e]; rfl
 ·rw [parB, e]; rfl
theorem rpar_ok {s : By} (h : (decide (s = []) || !decide (showF (looF s) = s)) = false) : parC s = looF s ∧ parB s = true := by
 have e : parT s = some (looF s) := by rw [par_eq]; unfold rparF; rw [h]; rfl
 constructor
 ·rw [parC, e]; rfl
 ·rw [parB, e]; rfl
abbrev qrH (b2 bc : Nat) (gp gr gm gb : G2) (c : Cf) : Heap := (bc, .cells 26 4 (grC gp gr gm gb c)) :: (b2, .cells 26 4 blC) :: grT gp gr gm gb c
theorem rnumber_at (s : By) (hs : s.length ≤ 1000) (a : Nat) (ha : a ≤ 100000) : Pure Try.prog 31 [sD (tx s), iD (a : Nat)] (.tup [iD (rn s a : Nat), iD (rp s a : Nat)]) := rnumber29_ok s hs a ha
theorem rparse29_ok (s : By) (hs : s.length ≤ 1000) : Pure Try.prog 13 [sD (tx s)] (.tup [.agg (cfC (parC s)), bD (parB s)]) := by
  refine Fun.fz ?_
  refine Fun.of T [.cell 2 26, .tmp 3] Try.func13 rfl Try.ntmps13 Try.results13 rfl (by kernel_rfl) ?_
  repeat' first | refine vs T rfl fun K hK => ?_; (try simp (disch := omega) only [go_sem, Nat.reduceBEq, Nat.reduceAdd, Nat.reduceLeDiff]); (first | refine hK _ _ ?_; clear hK K | intro bq hbq; (try simp only [HB] at hbq); refine hK _ _ ?_; clear hK K) | refine st rfl ?_ | refine nl ?_
  rename_i b2 h2
  refine (fun (post : ∀ (E : Nat → D) (a : Nat) (c : Cf) (gp gr gb : G2), a ≤ s.length + 3 → c.mem = [] → OkC c → (gOk gp c.pc.length ∧ gOk gr c.regs.length ∧ gOk gb c.bufs.length) → looW ⟨s, cf0⟩ = ⟨s.drop a, c⟩ →
    Vc.sub E [(0, sD (tx s)), (2, pD b2), (3, bD false), (4, pD bq), (5, iD ((a + 2 : Nat) : Int))] → VC Try.prog 151 ?c ⟨E, qrH b2 bq gp gr none gb c⟩ ?Q) => ?main) ?post
  case main =>
   refine VC.loop {p : (Nat × Cf) × G2 × G2 × G2 // (gOk p.2.1 p.1.2.pc.length ∧ gOk p.2.2.1 p.1.2.regs.length ∧ gOk p.2.2.2 p.1.2.bufs.length) ∧ p.1.2.regs.length = p.1.2.pc.length ∧ p.1.2.bufs.length = p.1.2.pc.length ∧ p.1.2.mem = [] ∧ OkC p.1.2 ∧ p.1.2.pc.length ≤ 11 ∧ p.1.1 ≤ s.length + 3 ∧ looW ⟨s, cf0⟩ = looW ⟨s.drop p.1.1, p.1.2⟩}
    (fun p => ⟨lookD [(0, sD (tx s)), (2, pD b2), (3, bD false), (4, pD bq), (5, iD (p.1.1.1 : Nat))], qrH b2 bq p.1.2.1 p.1.2.2.1 none p.1.2.2.2 p.1.1.2⟩)
    (fun p => s.length + 4 - p.1.1.1) ⟨((0, cf0), none, none, none), ⟨rfl, rfl, rfl⟩, rfl, rfl, rfl, ⟨by decide, by decide, by decide, fun r hr => absurd hr List.not_mem_nil, by decide, fun r hr => absurd hr List.not_mem_nil⟩, by decide, by dsimp only; omega, rfl⟩ ?_ ?_
   · refine Weak_subEq rfl ?_
     simp [sub, upd]
   rintro ⟨⟨⟨a, c⟩, gp, gr, gb⟩, hg, hrl, hbl, hm, hO, hpc, ha, hx⟩
   dsimp only at hg hrl hbl hm hO hpc ha hx ⊢
   cases hi : hdB (s.drop a) 116 && decide (c.pc.length < 11)
   case' false =>
    rw [looW_no (x := ⟨s.drop a, c⟩) hi] at hx
    have hi' : ¬ ((a : Int) < (s.length : Int) ∧ ((s.getD a 0).toNat : Int) = 116 ∧ (c.pc.length : Int) < 11) := fun ⟨q1, q2, q3⟩ => by
      have q4 : hdB (s.drop a) 116 = true := hdB_at.2 ⟨by omega, UInt8.toNat_inj.1 (by rw [show (116 : UInt8).toNat = 116 from rfl]; omega)⟩
      rw [q4] at hi
      simp at hi
      omega
    have hw : IntKind.i64.wrap ((a : Int) + 2) = ((a + 2 : Nat) : Int) := by rw [w64 (by omega)]; omega
    repeat' first | refine vs T rfl fun K hK => ?_; (try simp (disch := omega) only [go_sem, Nat.reduceBEq, tx_size, tx_list, Int.toNat_natCast, hw]); (first | refine hK _ _ ?_; clear hK K | refine ⟨?_, hK _ _ ?_⟩ <;> clear hK K; focus (try omega)) | refine st rfl ?_ | refine sc rfl ?_ | refine nl ?_ | refine gs rfl rfl ?_ | with_reducible refine gsplit_intro (fun hc => ?_) (fun hc => ?_) <;> (try simp only [decide_eq_true_eq, decide_eq_false_iff_not, beq_iff_eq, beq_eq_false_iff_ne, ne_eq, Int.not_lt] at hc) <;> (try (exfalso; omega))
    all_goals
      refine post _ a c gp gr gb ha hm hO hg hx ?_
      simp [sub, upd]
   case' true =>
    simp only [Bool.and_eq_true, decide_eq_true_eq] at hi
    obtain ⟨hi, hpc2⟩ := hi
    rw [looW_more (x := ⟨s.drop a, c⟩) hi hpc2, looS_at] at hx
    obtain ⟨hlt, hch⟩ := hdB_at.1 hi
    have hch' : ((s.getD a 0).toNat : Int) = 116 := by rw [hch]; rfl
    have l1 := rp_le s (a + 1)
    have l2 := rp_le s (rp s (a + 1) + 1)
    have c1 := rnumber_at s hs (a + 1) (by omega)
    have c2 := rnumber_at s hs (rp s (a + 1) + 1) (by omega)
    have w1 : IntKind.i64.wrap ((a : Int) + 1) = ((a + 1 : Nat) : Int) := by rw [w64 (by omega)]; omega
    have w2 : IntKind.i64.wrap ((rp s (a + 1) : Int) + 1) = ((rp s (a + 1) + 1 : Nat) : Int) := by rw [w64 (by omega)]; omega
    repeat' first | refine vs T rfl fun K hK => ?_; (try simp (disch := omega) only [go_sem, Nat.reduceBEq, tx_size, tx_list, Int.toNat_natCast, w1, w2]); (first | refine hK _ _ ?_; clear hK K | refine ⟨?_, hK _ _ ?_⟩ <;> clear hK K; focus (try omega) | refine Op1.callp rfl rfl (c1) rfl ?_; refine hK _ _ ?_; clear hK K | refine Op1.callp rfl rfl (c2) rfl ?_; refine hK _ _ ?_; clear hK K) | refine st rfl ?_ | refine sc rfl ?_ | refine nl ?_ | refine gs rfl rfl ?_ | with_reducible refine gsplit_intro (fun hc => ?_) (fun hc => ?_) <;> (try simp only [decide_eq_true_eq, decide_eq_false_iff_not, beq_iff_eq, beq_eq_false_iff_ne, ne_eq, Int.not_lt] at hc) <;> (try (exfalso; omega))
    have hta : rp s (rp s (a + 1) + 1) = ta s a := rfl
    have hta1 : 1 ≤ ta s a ∧ a < ta s a ∧ ta s a ≤ s.length + 1 := by rw [← hta]; omega
    rw [hta]
    generalize ta s a = t0 at *
    generalize hy : looE ⟨s.drop t0, [], []⟩ = y at *
    refine VC.loop {p : (Nat × List Int × List En) × G2 × G2 // (gOk p.2.1 p.1.2.1.length ∧ gOk p.2.2 p.1.2.2.length) ∧ t0 ≤ p.1.1 ∧ p.1.1 ≤ s.length + 1 ∧ p.1.2.1.length + p.1.2.2.length + (s.length + 1 - p.1.1) ≤ s.length ∧ looE ⟨s.drop p.1.1, p.1.2.1, p.1.2.2⟩ = y}
      (fun p => ⟨lookD [(0, sD (tx s)), (2, pD b2), (3, bD false), (4, pD bq), (8, iD (rn s (rp s (a + 1) + 1) : Nat)), (9, iD (p.1.1.1 : Nat)), (10, .gs p.1.2.1 p.1.1.2.1.length), (11, .gs p.1.2.2 p.1.1.2.2.length)],
        (bq, .cells 26 4 (grC gp gr none gb c)) :: (b2, .cells 26 4 blC) :: shp p.1.2.1 3 1 (p.1.1.2.1.map iD) (shp p.1.2.2 38 2 (eRs p.1.1.2.2).flatten (grT gp gr none gb c))⟩)
      (fun p => s.length + 2 - p.1.1.1) ⟨((t0, [], []), none, none), ⟨rfl, rfl⟩, by dsimp only; omega, by dsimp only; omega, by dsimp only; simp only [List.length_nil]; omega, hy⟩ ?_ ?_
    · refine Weak_subEq rfl ?_
      simp [sub, upd]
    rintro ⟨⟨⟨t, rg, bf⟩, ga, ge⟩, ⟨hga, hge⟩, ht0, ht, hsz, hyx⟩
    dsimp only at hga hge ht0 ht hsz hyx ⊢
    cases hi2 : hdB (s.drop t) 32
    case' false =>
      rw [looE_no (x := ⟨s.drop t, rg, bf⟩) hi2] at hyx
      have hi' : ¬ ((t : Int) < (s.length : Int) ∧ ((s.getD t 0).toNat : Int) = 32) := fun ⟨q1, q2⟩ => by
        have q4 : hdB (s.drop t) 32 = true := hdB_at.2 ⟨by omega, UInt8.toNat_inj.1 (by rw [show (32 : UInt8).toNat = 32 from rfl]; omega)⟩
        rw [q4] at hi2
        cases hi2
      have w3 : IntKind.i64.wrap ((t : Int) + 2) = ((t + 2 : Nat) : Int) := by rw [w64 (by omega)]; omega
      rw [← iRs_flat rg]
      refine VC.weak (Weak_fz3 (t := 10) (g := ga) (rows := iRs rg) (by rw [iRs_len]; rfl) (by simp [iRs])) ?_
      refine VC.weak (Weak_fz3 (t := 11) (g := ge) (rows := eRs bf) (by rw [eRs_len]; rfl) (fun r hr => by obtain ⟨e, _, rfl⟩ := List.mem_map.1 hr; rfl)) ?_
      repeat' first | refine vs T rfl fun K hK => ?_; (try simp (disch := omega) only [go_sem, Nat.reduceBEq, Nat.reduceAdd, Nat.reduceMul, Nat.reduceLeDiff, tx_size, tx_list, Int.toNat_natCast, w3]); (first | refine hK _ _ ?_; clear hK K | refine ⟨_, _, _, _, (by repeat (first | exact Sp.here | apply Sp.cons | apply Sp.over)), ?_, (by exact ⟨rfl, rfl⟩), ⟨by decide, ?_⟩, fun g' hg' => hK _ _ ?_⟩ <;> clear hK K | refine ⟨?_, hK _ _ ?_⟩ <;> clear hK K; focus (try omega)) | refine st rfl ?_ | refine sc rfl ?_ | refine nl ?_ | refine gs rfl rfl ?_ | with_reducible refine gsplit_intro (fun hc => ?_) (fun hc => ?_) <;> (try simp only [decide_eq_true_eq, decide_eq_false_iff_not, beq_iff_eq, beq_eq_false_iff_ne, ne_eq, Int.not_lt] at hc) <;> (try (exfalso; omega))
      any_goals (first | omega | (rw [List.length_map, Nat.mul_one]; done) | (have q := hO.regs; have q2 := hO.bufs; omega))
      all_goals
        rename_i g1 q1 g2 q2
        subst hyx
        dsimp only at hx
        rw [List.drop_drop] at hx
        refine ⟨⟨((t + 2, ⟨c.pc ++ [(rn s (rp s (a + 1) + 1) : Int)], c.regs ++ [rg], c.mem, c.bufs ++ [bf]⟩), g1, g2, g'), ⟨by simpa using q1, by simpa using q2, by simpa using hg'⟩, by simp [hrl], by simp [hbl], hm, ⟨?_, hO.mem, ?_, ?_, ?_, ?_⟩, ?_, ?_, hx⟩, Weak_subEq ?_ ?_, ?_⟩
        · dsimp only; rw [List.length_append, List.length_singleton]; omega
        · dsimp only; rw [List.length_append, List.length_singleton]; omega
        · intro r hr
          rcases List.mem_append.1 hr with h | h
          · exact hO.row r h
          · rw [List.mem_singleton.1 h]; omega
        · dsimp only; rw [List.length_append, List.length_singleton]; omega
        · intro r hr
          rcases List.mem_append.1 hr with h | h
          · exact hO.buf r h
          · rw [List.mem_singleton.1 h]; omega
        · dsimp only; rw [List.length_append, List.length_singleton]; omega
        · dsimp only; omega
        · simp [grT]
        · simp [sub, upd]
        · dsimp only; omega
    case' true =>
      rw [looE_more (x := ⟨s.drop t, rg, bf⟩) hi2, looT_at] at hyx
      obtain ⟨hlt2, hch2⟩ := hdB_at.1 hi2
      have hch3 : ((s.getD t 0).toNat : Int) = 32 := by rw [hch2]; rfl
      have l3 := rp_le s (t + 1)
      have l4 := rp_le s (rp s (t + 1) + 1)
      have c3 := rnumber_at s hs (t + 1) (by omega)
      have c4 := rnumber_at s hs (rp s (t + 1) + 1) (by omega)
      have w3 : IntKind.i64.wrap ((t : Int) + 1) = ((t + 1 : Nat) : Int) := by rw [w64 (by omega)]; omega
      have w4 : IntKind.i64.wrap ((rp s (t + 1) : Int) + 1) = ((rp s (t + 1) + 1 : Nat) : Int) := by rw [w64 (by omega)]; omega
      cases hi3 : hdB (s.drop (rp s (t + 1))) 61
      case' true =>
        rw [hi3] at hyx
        simp only [if_true] at hyx
        obtain ⟨hlt3, hch4⟩ := hdB_at.1 hi3
        have hch5 : ((s.getD (rp s (t + 1)) 0).toNat : Int) = 61 := by rw [hch4]; rfl
        repeat' first | refine vs T rfl fun K hK => ?_; (try simp (disch := omega) only [go_sem, Nat.reduceBEq, Nat.reduceAdd, Nat.reduceMul, Nat.reduceLeDiff, tx_size, tx_list, Int.toNat_natCast, w3, w4]); (first | refine hK _ _ ?_; clear hK K | refine ⟨_, _, _, _, (by repeat (first | exact Sp.here | apply Sp.cons | apply Sp.over)), ?_, (by exact ⟨rfl, rfl⟩), ?_, fun g' hg' => hK _ _ ?_⟩ <;> clear hK K | refine ⟨?_, hK _ _ ?_⟩ <;> clear hK K; focus (try omega) | refine Op1.callp rfl rfl (c3) rfl ?_; refine hK _ _ ?_; clear hK K | refine Op1.callp rfl rfl (c4) rfl ?_; refine hK _ _ ?_; clear hK K) | refine st rfl ?_ | refine sc rfl ?_ | refine nl ?_ | refine gs rfl rfl ?_ | with_reducible refine gsplit_intro (fun hc => ?_) (fun hc => ?_) <;> (try simp only [decide_eq_true_eq, decide_eq_false_iff_not, beq_iff_eq, beq_eq_false_iff_ne, ne_eq, Int.not_lt] at hc) <;> (try (exfalso; omega))
        any_goals (first | omega | exact eRs_flat _)
        refine ⟨⟨((rp s (rp s (t + 1) + 1), rg, bf ++ [((rn s (t + 1) : Int), (rn s (rp s (t + 1) + 1) : Int))]), ga, g'), ⟨hga, by simpa using hg'⟩, by dsimp only; omega, by dsimp only; omega, by dsimp only; simp only [List.length_append, List.length_cons, List.length_nil]; omega, hyx⟩, Weak_subEq ?_ ?_, by dsimp only; omega⟩
        · simp [eRs, eR]
        · simp [sub, upd]
      case' false =>
        rw [hi3] at hyx
        simp only [Bool.false_eq_true, if_false] at hyx
        have hi' : ¬ ((rp s (t + 1) : Int) < (s.length : Int) ∧ ((s.getD (rp s (t + 1)) 0).toNat : Int) = 61) := fun ⟨q1, q2⟩ => by
          have q4 : hdB (s.drop (rp s (t + 1))) 61 = true := hdB_at.2 ⟨by omega, UInt8.toNat_inj.1 (by rw [show (61 : UInt8).toNat = 61 from rfl]; omega)⟩
          rw [q4] at hi3
          cases hi3
        repeat' first | refine vs T rfl fun K hK => ?_; (try simp (disch := omega) only [go_sem, Nat.reduceBEq, Nat.reduceMul, Nat.reduceLeDiff, tx_size, tx_list, Int.toNat_natCast, w3]); (first | refine hK _ _ ?_; clear hK K | refine ⟨_, _, _, _, (by repeat (first | exact Sp.here | apply Sp.cons)), ?_, (by exact ⟨rfl, rfl⟩), ⟨by decide, ?_⟩, fun g' hg' => hK _ _ ?_⟩ <;> clear hK K | refine ⟨?_, hK _ _ ?_⟩ <;> clear hK K; focus (try omega) | refine Op1.callp rfl rfl (c3) rfl ?_; refine hK _ _ ?_; clear hK K) | refine st rfl ?_ | refine sc rfl ?_ | refine nl ?_ | refine gs rfl rfl ?_ | with_reducible refine gsplit_intro (fun hc => ?_) (fun hc => ?_) <;> (try simp only [decide_eq_true_eq, decide_eq_false_iff_not, beq_iff_eq, beq_eq_false_iff_ne, ne_eq, Int.not_lt] at hc) <;> (try (exfalso; omega))
        any_goals (first | omega | (rw [List.length_map, Nat.mul_one]; done))
        all_goals
          refine ⟨⟨((rp s (t + 1), rg ++ [(rn s (t + 1) : Int)], bf), g', ge), ⟨by simpa using hg', hge⟩, by dsimp only; omega, by dsimp only; omega, by dsimp only; simp only [List.length_append, List.length_cons, List.length_nil]; omega, hyx⟩, Weak_subEq ?_ ?_, by dsimp only; omega⟩
          · simp
          · simp [sub, upd]
  case post =>
    intro E a c gp gr gb ha hm hO hg hx hE
    refine VC.loop {p : (Nat × List Int) × G2 // gOk p.2 p.1.2.length ∧ p.1.1 ≤ s.length + 5 ∧ p.1.2.length + (s.length - p.1.1) ≤ s.length ∧ looV ⟨s.drop p.1.1, ⟨c.pc, c.regs, p.1.2, c.bufs⟩⟩ = looV ⟨s.drop (a + 2), c⟩}
      (fun p => ⟨lookD [(0, sD (tx s)), (2, pD b2), (3, bD false), (4, pD bq), (5, iD (p.1.1.1 : Nat))], qrH b2 bq gp gr p.1.2 gb ⟨c.pc, c.regs, p.1.1.2, c.bufs⟩⟩)
      (fun p => s.length + 6 - p.1.1.1) ⟨((a + 2, []), none), rfl, by dsimp only; omega, by dsimp only; simp only [List.length_nil]; omega, by dsimp only; rw [← hm]⟩ ?_ ?_
    · refine Weak_subEq ?_ hE
      dsimp only
      rw [← hm]
    rintro ⟨⟨⟨t, m⟩, gm⟩, hgm, ht, hsz, hv⟩
    dsimp only at hgm ht hsz hv ⊢
    have g1 := hO.pc
    cases hi2 : hdB (s.drop t) 32
    case' true =>
      rw [looV_more (x := ⟨s.drop t, ⟨c.pc, c.regs, m, c.bufs⟩⟩) hi2, looN_at] at hv
      obtain ⟨hlt2, hch2⟩ := hdB_at.1 hi2
      have hch3 : ((s.getD t 0).toNat : Int) = 32 := by rw [hch2]; rfl
      have l3 := rp_le s (t + 1)
      have c3 := rnumber_at s hs (t + 1) (by omega)
      have w3 : IntKind.i64.wrap ((t : Int) + 1) = ((t + 1 : Nat) : Int) := by rw [w64 (by omega)]; omega
      repeat' first | refine vs T rfl fun K hK => ?_; (try simp (disch := omega) only [go_sem, Nat.reduceBEq, Nat.reduceAdd, Nat.reduceMul, Nat.reduceLeDiff, tx_size, tx_list, Int.toNat_natCast, w3]); (first | refine hK _ _ ?_; clear hK K | refine ⟨_, _, _, _, (by repeat (first | exact Sp.here | apply Sp.cons | apply Sp.over)), ?_, (by exact ⟨rfl, rfl⟩), ⟨by decide, ?_⟩, fun g' hg' => hK _ _ ?_⟩ <;> clear hK K | refine ⟨?_, hK _ _ ?_⟩ <;> clear hK K; focus (try omega) | refine Op1.callp rfl rfl (c3) rfl ?_; refine hK _ _ ?_; clear hK K) | refine st rfl ?_ | refine sc rfl ?_ | refine nl ?_ | refine gs rfl rfl ?_ | with_reducible refine gsplit_intro (fun hc => ?_) (fun hc => ?_) <;> (try simp only [decide_eq_true_eq, decide_eq_false_iff_not, beq_iff_eq, beq_eq_false_iff_ne, ne_eq, Int.not_lt] at hc) <;> (try (exfalso; omega))
      any_goals (first | omega | (rw [List.length_map, Nat.mul_one]; done))
      refine ⟨⟨((rp s (t + 1), m ++ [(rn s (t + 1) : Int)]), g'), by simpa using hg', by dsimp only; omega, by dsimp only; simp only [List.length_append, List.length_cons, List.length_nil]; omega, hv⟩, Weak_subEq ?_ ?_, by dsimp only; omega⟩
      · simp [grT]
      · simp [sub, upd]
    case' false =>
      rw [looV_no (x := ⟨s.drop t, ⟨c.pc, c.regs, m, c.bufs⟩⟩) hi2] at hv
      have hF : looF s = ⟨c.pc, c.regs, m, c.bufs⟩ := by rw [looF_eq hx, ← hv]
      have hi' : ¬ ((t : Int) < (s.length : Int) ∧ ((s.getD t 0).toNat : Int) = 32) := fun ⟨q1, q2⟩ => by
        have q4 : hdB (s.drop t) 32 = true := hdB_at.2 ⟨by omega, UInt8.toNat_inj.1 (by rw [show (32 : UInt8).toNat = 32 from rfl]; omega)⟩
        rw [q4] at hi2
        cases hi2
      have cs := rshow29_ok ⟨c.pc, c.regs, m, c.bufs⟩ ⟨hO.pc, by dsimp only; omega, hO.regs, hO.row, hO.bufs, hO.buf⟩
      repeat' first | refine vs T rfl fun K hK => ?_; (try simp (disch := omega) only [go_sem, Nat.reduceBEq, Nat.reduceAdd, Nat.reduceLeDiff, tx_size, tx_list, Int.toNat_natCast]); (first | refine hK _ _ ?_; clear hK K | refine ⟨?_, hK _ _ ?_⟩ <;> clear hK K; focus (try omega) | refine Op1.lend rfl rfl (cs) (fz_cons ⟨_, rfl, fz_grC hg.1 hg.2.1 hgm hg.2.2 fun x hx => List.mem_cons_of_mem _ (List.mem_cons_of_mem _ hx)⟩ fz_end) (.inr rfl) ?_; refine hK _ _ ?_; clear hK K) | refine st rfl ?_ | refine sc rfl ?_ | refine nl ?_ | refine gs rfl rfl ?_ | with_reducible refine gsplit_intro (fun hc => ?_) (fun hc => ?_) <;> (try simp only [decide_eq_true_eq, decide_eq_false_iff_not, beq_iff_eq, beq_eq_false_iff_ne, ne_eq, Bool.not_eq_true', Bool.not_eq_false', Int.not_lt] at hc) <;> (try (exfalso; omega))
      any_goals
        obtain ⟨z1, z2⟩ := rpar_bad (s := s) (by rw [hF]; first | (have q : s = [] := tx_inj.1 hc; simp [q]; done) | (have q : ¬ showF ⟨c.pc, c.regs, m, c.bufs⟩ = s := (fun h => hc (by rw [h])); simp [q]; done))
        rw [z1, z2]
        refine retc1 T rfl (by (try simp (disch := omega) only [hget_ne, hget_eq]); rfl) rfl rfl rfl (List.Sublist.refl _) (fz_cf0 (Fz.refl _ _))
      all_goals
        have q0 : ¬ tx s = { data := #[] } := by assumption
        have q1 : ¬ s = [] := fun h => q0 (by rw [h]; rfl)
        obtain ⟨z1, z2⟩ := rpar_ok (s := s) (by rw [hF, tx_inj.1 hc]; simp [q1])
        rw [z1, z2, hF]
        refine retc1 T rfl (by (try simp (disch := omega) only [hget_ne, hget_eq]); rfl) rfl rfl rfl (List.Sublist.refl _) ⟨_, rfl, fz_cons ⟨_, rfl, fz_grC hg.1 hg.2.1 hgm hg.2.2 fun x hx => ?_⟩ (FzL.refl _ _)⟩
        exact List.mem_cons_of_mem _ (List.mem_cons_of_mem _ hx)
end Go.Proofs.Ytomcmfbpmkklmaa
