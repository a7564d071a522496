/- Contracts: whether a unit is light. No condition. -/
import Derived.Test.YtlnmljmeahknaaaGreatXf
import Derived.Test.YtlnmljmeahknaaaGreatXe
namespace Go.Proofs.YtlnmljmeahknaaaGreat
set_option linter.unusedSimpArgs false
set_option linter.unusedVariables false
set_option maxRecDepth 20000
open Go Go.Proofs Go.Vc

def lightI (x : Ins) : Bool := decide (x.e.length ≤ 300) && decide (x.f.length ≤ 300)
def lightR (r : List Ins) : Bool := decide (r.length ≤ 200) && r.all lightI
def lightU (u : Un) : Bool := (decide (u.init.length ≤ 20) && decide (u.regs.length ≤ 20) && decide (u.code.length ≤ 8)) && u.code.all lightR

set_option maxHeartbeats 8000000 in
theorem ulight_ok (u : Un) : Pure Tryz.prog 16 [.agg (unC u)] (bD (lightU u)) := by
  refine Fun.of T [.tmp 2] Tryz.func16 rfl Tryz.ntmps16 Tryz.results16 rfl (by kernel_rfl) ?_
  by_cases g1 : u.init.length ≤ 20
  case neg =>
    have e1 : decide ((u.init.length : Int) > 20) = true := by simp; omega
    have hL : lightU u = false := by simp [lightU, g1]
    rw [hL]
    repeat' first | refine VCo.stepO rfl rfl (fun K hK => r_boxR rfl rfl rfl (hK _ _ ?_)); (try simp only [updO]) | (refine VCo.step T rfl rfl (fun K hK => ?_)); (try simp (disch := omega) only [WB, argE, Nat.reduceBEq, T3, T5, T9, T22, T23, T25, T26, T27, T51, T53, T62, T65, T66, T68, T72, T78, T145, e1, iRs_len]); (refine hK _ _ ?_; clear hK K) | refine VCo.gstep rfl rfl rfl rfl rfl ?_; try simp only [GB] | refine VC.region ?_ | refine VC.seq' ?_ | (first | refine VCo.nil ?_ | refine VC.ret ?_); (try simp only [QB]) | refine ret1 T (List.nil_sublist _) ?_; (try simp only [upd, Nat.reduceBEq, cond_true, cond_false, and_true]) | refine VC.cond rfl ?_; (try simp only [gsplit_true])
  have e1 : decide ((u.init.length : Int) > 20) = false := by simp; omega
  by_cases g2 : u.regs.length ≤ 20
  case neg =>
    have e2 : decide ((u.regs.length : Int) > 20) = true := by simp; omega
    have hL : lightU u = false := by simp [lightU, g2]
    rw [hL]
    repeat' first | refine VCo.stepO rfl rfl (fun K hK => r_boxR rfl rfl rfl (hK _ _ ?_)); (try simp only [updO]) | (first | refine VCo.step T rfl rfl (fun K hK => ?_) | refine VCr.step T rfl (fun K hK => ?_)); (try simp (disch := omega) only [WB, argE, Nat.reduceBEq, T3, T5, T9, T22, T23, T25, T26, T27, T51, T53, T62, T65, T66, T68, T72, T78, T145, e1, e2, iRs_len]); (refine hK _ _ ?_; clear hK K) | refine VCo.gstep rfl rfl rfl rfl rfl ?_; try simp only [GB] | refine VC.region ?_ | refine VC.seq' ?_ | (first | refine VCo.nil ?_ | refine VC.ret ?_); (try simp only [QB]) | refine ret1 T (List.nil_sublist _) ?_; (try simp only [upd, Nat.reduceBEq, cond_true, cond_false, and_true]) | refine VC.cond rfl ?_; (try simp only [gsplit_true])
  have e2 : decide ((u.regs.length : Int) > 20) = false := by simp; omega
  by_cases g3 : u.code.length ≤ 8
  case neg =>
    have e3 : decide ((u.code.length : Int) > 8) = true := by simp; omega
    have hL : lightU u = false := by simp [lightU, g3]
    rw [hL]
    repeat' first | refine VCo.stepO rfl rfl (fun K hK => r_boxR rfl rfl rfl (hK _ _ ?_)); (try simp only [updO]) | (first | refine VCo.step T rfl rfl (fun K hK => ?_) | refine VCr.step T rfl (fun K hK => ?_)); (try simp (disch := omega) only [WB, argE, Nat.reduceBEq, T3, T5, T9, T22, T23, T25, T26, T27, T51, T53, T62, T65, T66, T68, T72, T78, T145, e1, e2, e3, iRs_len, codeRs_len]); (refine hK _ _ ?_; clear hK K) | refine VCo.gstep rfl rfl rfl rfl rfl ?_; try simp only [GB] | refine VC.region ?_ | refine VC.seq' ?_ | (first | refine VCo.nil ?_ | refine VC.ret ?_); (try simp only [QB]) | refine ret1 T (List.nil_sublist _) ?_; (try simp only [upd, Nat.reduceBEq, cond_true, cond_false, and_true]) | refine VC.cond rfl ?_; (try simp only [gsplit_true])
  have e3 : decide ((u.code.length : Int) > 8) = false := by simp; omega
  have hU : lightU u = u.code.all lightR := by simp [lightU, g1, g2, g3]
  rw [hU]
  repeat' first | refine VCo.stepO rfl rfl (fun K hK => r_boxR rfl rfl rfl (hK _ _ ?_)); (try simp only [updO]) | (first | refine VCo.step T rfl rfl (fun K hK => ?_) | refine VCr.step T rfl (fun K hK => ?_)); (try simp (disch := omega) only [WB, argE, Nat.reduceBEq, T3, T5, T9, T22, T23, T25, T26, T27, T51, T53, T62, T65, T66, T68, T72, T78, T145, e1, e2, e3, iRs_len, codeRs_len]); (refine hK _ _ ?_; clear hK K) | refine VCo.gstep rfl rfl rfl rfl rfl ?_; try simp only [GB] | refine VC.region ?_ | refine VC.seq' ?_ | refine VC.block ?_ | (first | refine VCo.nil ?_ | refine VC.skip ?_); (try simp only [QB]) | refine VC.cond rfl ?_; (try simp only [gsplit_false])
  refine VC.loop {k : Nat // k ≤ u.code.length ∧ ∀ (i : Nat) (y : List Ins), i < k → u.code[i]? = some y → lightR y = true} (fun p => ⟨lookD [(1, .pt (unC u)), (3, iD (p.1 : Nat))], []⟩) (fun p => u.code.length - p.1) ⟨0, by omega, fun i y hi => by omega⟩ ?_ ?_
  · refine Weak.sub ?_
    simp [sub, upd]
  · rintro ⟨k, hk, hs⟩
    dsimp only
    rcases Nat.lt_or_ge k u.code.length with hlt | hge
    · have hd : decide ((k : Int) < (u.code.length : Int)) = true := by simp; omega
      have hw : IntKind.i64.wrap ((k : Int) + 1) = ((k + 1 : Nat) : Int) := by rw [w64 (by omega)]; omega
      obtain ⟨r, hr⟩ : ∃ r, u.code[k]? = some r := ⟨_, List.getElem?_eq_getElem hlt⟩
      have rr : (codeRs u.code)[k]? = some [.sl false 7 (insRs r)] := by rw [codeRs_at, hr]; rfl
      by_cases h0 : r.length ≤ 200
      case neg =>
        have e0 : decide ((r.length : Int) > 200) = true := by simp; omega
        rw [all_not hr (by simp [lightR, h0])]
        repeat' first | (refine VCo.step T rfl rfl (fun K hK => ?_)); (try simp (disch := omega) only [WB, lookD, Nat.reduceBEq, T3, T5, T9, T22, T23, T25, T26, T27, T51, T53, T62, T65, T66, T68, T72, T78, T145, hd, rr, e0, codeRs_len, insRs_len]); (first | refine hK _ _ ?_; clear hK K | refine ⟨?_, hK _ _ ?_⟩ <;> clear hK K; focus (try omega)) | refine VC.region ?_ | refine VC.seq' ?_ | refine VC.block ?_ | (first | refine VCo.nil ?_ | refine VC.skip ?_ | refine VC.ret ?_); (try simp only [QB]) | refine ret1 T (List.nil_sublist _) ?_; (try simp only [upd, Nat.reduceBEq, cond_true, cond_false, and_true]) | refine VC.cond rfl ?_; (try simp only [gsplit_true])
      have e0 : decide ((r.length : Int) > 200) = false := by simp; omega
      repeat' first | (refine VCo.step T rfl rfl (fun K hK => ?_)); (try simp (disch := omega) only [WB, lookD, Nat.reduceBEq, T3, T5, T9, T22, T23, T25, T26, T27, T51, T53, T62, T65, T66, T68, T72, T78, T145, hd, rr, e0, codeRs_len, insRs_len]); (first | refine hK _ _ ?_; clear hK K | refine ⟨?_, hK _ _ ?_⟩ <;> clear hK K; focus (try omega)) | refine VC.region ?_ | refine VC.seq' ?_ | refine VC.block ?_ | (first | refine VCo.nil ?_ | refine VC.skip ?_); (try simp only [QB]) | refine VC.cond rfl ?_; (try simp only [gsplit_true, gsplit_false])
      refine VC.loop {j : Nat // j ≤ r.length ∧ ∀ (i : Nat) (y : Ins), i < j → r[i]? = some y → lightI y = true} (fun p => ⟨lookD [(1, .pt (unC u)), (3, iD (k : Nat)), (4, iD (p.1 : Nat))], []⟩) (fun p => r.length - p.1) ⟨0, by omega, fun i y hi => by omega⟩ ?_ ?_
      · refine Weak.sub ?_
        simp [sub, upd]
      · rintro ⟨j, hj, hsj⟩
        dsimp only
        rcases Nat.lt_or_ge j r.length with hjl | hjg
        · have hdj : decide ((j : Int) < (r.length : Int)) = true := by simp; omega
          have hwj : IntKind.i64.wrap ((j : Int) + 1) = ((j + 1 : Nat) : Int) := by rw [w64 (by omega)]; omega
          obtain ⟨x, hx⟩ : ∃ x, r[j]? = some x := ⟨_, List.getElem?_eq_getElem hjl⟩
          have rx : (insRs r)[j]? = some [iD x.op, iD x.reg, iD x.loc, opsD x.e, opsD x.f, bD x.ne, iD x.to] := by rw [insRs_at, hx]; rfl
          by_cases p1 : x.e.length ≤ 300
          · have q1 : decide ((x.e.length : Int) > 300) = false := by simp; omega
            by_cases p2 : x.f.length ≤ 300
            · have q2 : decide ((x.f.length : Int) > 300) = false := by simp; omega
              repeat' first | (first | refine VCo.step T rfl rfl (fun K hK => ?_) | refine VCr.step T rfl (fun K hK => ?_)); (try simp (disch := omega) only [WB, lookD, Nat.reduceBEq, T3, T5, T9, T22, T23, T25, T26, T27, T51, T53, T62, T65, T66, T68, T72, T78, T145, hdj, hwj, rr, rx, q1, q2, codeRs_len, insRs_len, opRs_len]); (first | refine hK _ _ ?_; clear hK K | refine ⟨?_, hK _ _ ?_⟩ <;> clear hK K; focus (try omega)) | refine VCo.gstep rfl rfl rfl rfl rfl ?_; try simp only [GB] | refine VC.region ?_ | refine VC.seq' ?_ | refine VC.block ?_ | (first | refine VCo.nil ?_ | refine VC.skip ?_); (try simp only [QB]) | refine VC.cond rfl ?_; (try simp only [gsplit_true, gsplit_false])
              refine ⟨⟨j + 1, by omega, step_of hsj hx (by simp [lightI, p1, p2])⟩, Weak.sub ?_, by simp only []; omega⟩
              simp [sub, upd]
            · have q2 : decide ((x.f.length : Int) > 300) = true := by simp; omega
              have hb : lightR r = false := by
                unfold lightR
                rw [all_not hx (by simp [lightI, p2]), Bool.and_false]
              rw [all_not hr hb]
              repeat' first | (first | refine VCo.step T rfl rfl (fun K hK => ?_) | refine VCr.step T rfl (fun K hK => ?_)); (try simp (disch := omega) only [WB, lookD, Nat.reduceBEq, T3, T5, T9, T22, T23, T25, T26, T27, T51, T53, T62, T65, T66, T68, T72, T78, T145, hdj, rr, rx, q1, q2, codeRs_len, insRs_len, opRs_len]); (first | refine hK _ _ ?_; clear hK K | refine ⟨?_, hK _ _ ?_⟩ <;> clear hK K; focus (try omega)) | refine VCo.gstep rfl rfl rfl rfl rfl ?_; try simp only [GB] | refine VC.region ?_ | refine VC.seq' ?_ | refine VC.block ?_ | (first | refine VCo.nil ?_ | refine VC.skip ?_ | refine VC.ret ?_); (try simp only [QB]) | refine ret1 T (List.nil_sublist _) ?_; (try simp only [upd, Nat.reduceBEq, cond_true, cond_false, and_true]) | refine VC.cond rfl ?_; (try simp only [gsplit_true])
          · have q1 : decide ((x.e.length : Int) > 300) = true := by simp; omega
            have hb : lightR r = false := by
              unfold lightR
              rw [all_not hx (by simp [lightI, p1]), Bool.and_false]
            rw [all_not hr hb]
            repeat' first | (refine VCo.step T rfl rfl (fun K hK => ?_)); (try simp (disch := omega) only [WB, lookD, Nat.reduceBEq, T3, T5, T9, T22, T23, T25, T26, T27, T51, T53, T62, T65, T66, T68, T72, T78, T145, hdj, rr, rx, q1, codeRs_len, insRs_len, opRs_len]); (first | refine hK _ _ ?_; clear hK K | refine ⟨?_, hK _ _ ?_⟩ <;> clear hK K; focus (try omega)) | refine VCo.gstep rfl rfl rfl rfl rfl ?_; try simp only [GB] | refine VC.region ?_ | refine VC.seq' ?_ | refine VC.block ?_ | (first | refine VCo.nil ?_ | refine VC.skip ?_ | refine VC.ret ?_); (try simp only [QB]) | refine ret1 T (List.nil_sublist _) ?_; (try simp only [upd, Nat.reduceBEq, cond_true, cond_false, and_true]) | refine VC.cond rfl ?_; (try simp only [gsplit_true])
        · have hdj : decide ((j : Int) < (r.length : Int)) = false := by simp; omega
          have hb : lightR r = true := by
            unfold lightR
            rw [all_of fun i y hi hy => hsj i y (by omega) hy]
            simpa using h0
          repeat' first | (refine VCo.step T rfl rfl (fun K hK => ?_)); (try simp (disch := omega) only [WB, lookD, Nat.reduceBEq, T3, T5, T9, T22, T23, T25, T26, T27, T51, T53, T62, T65, T66, T68, T72, T78, T145, hdj, hw, rr, codeRs_len, insRs_len]); (first | refine hK _ _ ?_; clear hK K | refine ⟨?_, hK _ _ ?_⟩ <;> clear hK K; focus (try omega)) | refine VC.region ?_ | refine VC.seq' ?_ | (first | refine VCo.nil ?_ | refine VC.exit ?_); (try simp only [QB, Nat.reduceBEq]) | refine VC.cond rfl ?_; (try simp only [gsplit_false])
          refine ⟨⟨k + 1, by omega, step_of hs hr hb⟩, Weak.sub ?_, by simp only []; omega⟩
          simp [sub, upd]
    · have hd : decide ((k : Int) < (u.code.length : Int)) = false := by simp; omega
      rw [all_of fun i y hi hy => hs i y (by omega) hy]
      repeat' first | (refine VCo.step T rfl rfl (fun K hK => ?_)); (try simp (disch := omega) only [WB, lookD, Nat.reduceBEq, T3, T5, T9, T22, T23, T25, T26, T27, T51, T53, T62, T65, T66, T68, T72, T78, T145, hd, codeRs_len]); (refine hK _ _ ?_; clear hK K) | refine VC.region ?_ | refine VC.seq' ?_ | (first | refine VCo.nil ?_ | refine VC.ret ?_ | refine VC.exit ?_); (try simp only [QB]) | refine ret1 T (List.nil_sublist _) ?_; (try simp only [upd, Nat.reduceBEq, cond_true, cond_false, and_true]) | refine VC.cond rfl ?_; (try simp only [gsplit_false])
end Go.Proofs.YtlnmljmeahknaaaGreat
/- Contracts: rows of one's own. No condition. -/
namespace Go.Proofs.YtlnmljmeahknaaaGreat
set_option linter.unusedSimpArgs false
set_option linter.unusedVariables false
set_option maxRecDepth 20000
open Go Go.Proofs Go.Vc

theorem ownI_ok (l : List Int) (hl : l.length ≤ 1000000) : Fun Tryz.prog 37 [ints l] [] false (fun d H' => ∃ g, d = .gs g l.length ∧ gOk g l.length ∧ H' = shp g 3 1 (iRs l).flatten []) := by
  refine Fun.of T [.tmp 2] Tryz.func37 rfl Tryz.ntmps37 Tryz.results37 rfl (by kernel_rfl) ?_
  repeat' first | refine VCo.step T rfl rfl (fun K hK => ?_); (try simp (disch := omega) only [WB, argE, Nat.reduceBEq, T3, T5, T9, T22, T23, T26, T27, T51, T53, T62, T65, T66, T68, T72, T78, T145, iRs_len]); (first | refine hK _ _ ?_; clear hK K | refine ⟨_, _, _, _, (by repeat (exact Sp.nil)), ?_, (by exact ⟨rfl, rfl⟩), ⟨by decide, by decide, ?_⟩, fun g' hg' => hK _ _ ?_⟩ <;> clear hK K) | refine VC.region ?_ | refine VC.seq' ?_ | (first | refine VCo.nil ?_ | refine VC.ret ?_); (try simp only [QB])
  · rfl
  · omega
  · exact ret1 T (List.Sublist.refl _) ⟨g', rfl, by simpa using hg', rfl⟩

theorem ownE_ok (l : List En) (hl : l.length ≤ 1000000) : Fun Tryz.prog 55 [buf l] [] false (fun d H' => ∃ g, d = .gs g l.length ∧ gOk g l.length ∧ H' = shp g 78 2 (eRs l).flatten []) := by
  refine Fun.of T [.tmp 2] Tryz.func55 rfl Tryz.ntmps55 Tryz.results55 rfl (by kernel_rfl) ?_
  repeat' first | refine VCo.step T rfl rfl (fun K hK => ?_); (try simp (disch := omega) only [WB, argE, Nat.reduceBEq, T3, T5, T9, T22, T23, T26, T27, T51, T53, T62, T65, T66, T68, T72, T78, T145, eRs_len]); (first | refine hK _ _ ?_; clear hK K | refine ⟨_, _, _, _, (by repeat (exact Sp.nil)), ?_, (by exact ⟨rfl, rfl⟩), ⟨by decide, by decide, ?_⟩, fun g' hg' => hK _ _ ?_⟩ <;> clear hK K) | refine VC.region ?_ | refine VC.seq' ?_ | (first | refine VCo.nil ?_ | refine VC.ret ?_); (try simp only [QB])
  · rfl
  · omega
  · exact ret1 T (List.Sublist.refl _) ⟨g', rfl, by simpa using hg', rfl⟩
theorem ownEf_ok (l : List En) (hl : l.length ≤ 1000000) : Pure Tryz.prog 55 [buf l] (buf l) :=
  Fun.fz ((ownE_ok l hl).mono fun d H' ⟨g, h1, h2, h3⟩ => by subst h1; subst h3; exact Fz_shp h2 (eRs_len l) (eRs_row l))
end Go.Proofs.YtlnmljmeahknaaaGreat
