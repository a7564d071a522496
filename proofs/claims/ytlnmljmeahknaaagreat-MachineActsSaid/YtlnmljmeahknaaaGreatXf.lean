/- Contracts: quiet, light. No condition. -/
import Derived.Test.YtlnmljmeahknaaaGreatXe
namespace Go.Proofs.YtlnmljmeahknaaaGreat
set_option linter.unusedSimpArgs false
set_option linter.unusedVariables false
set_option maxRecDepth 20000
open Go Go.Proofs Go.Vc

theorem all_of {α : Type} {l : List α} {p : α → Bool} (h : ∀ (i : Nat) (x : α), i < l.length → l[i]? = some x → p x = true) : l.all p = true := by
  rw [List.all_eq_true]
  intro x hx
  obtain ⟨i, hi⟩ := List.getElem?_of_mem hx
  exact h i x (List.getElem?_eq_some_iff.1 hi).1 hi
theorem all_not {α : Type} {l : List α} {p : α → Bool} {i : Nat} {x : α} (h : l[i]? = some x) (hp : p x = false) : l.all p = false := by
  rw [List.all_eq_false]
  exact ⟨x, List.mem_of_getElem? h, by simp [hp]⟩
theorem step_of {α : Type} {l : List α} {p : α → Bool} {k : Nat} {x : α} (hs : ∀ (i : Nat) (y : α), i < k → l[i]? = some y → p y = true) (hx : l[k]? = some x) (hp : p x = true) : ∀ (i : Nat) (y : α), i < k + 1 → l[i]? = some y → p y = true := fun i y hi hy => by
  rcases Nat.lt_or_ge i k with h | h
  · exact hs i y h hy
  · obtain rfl : i = k := by omega
    rw [hx] at hy; cases hy; exact hp

def quietB (c : Cf) : Bool := c.bufs.all fun b => decide (b.length = 0)
theorem rquiet_ok (c : Cf) (hn : c.bufs.length ≤ 1000000) : Pure Tryz.prog 50 [.agg (cfC c)] (bD (quietB c)) := by
  refine Fun.of T [.tmp 2] Tryz.func50 rfl Tryz.ntmps50 Tryz.results50 rfl (by kernel_rfl) ?_
  repeat' first | refine VCo.stepO rfl rfl (fun K hK => r_boxR rfl rfl rfl (hK _ _ ?_)); (try simp only [updO]) | refine VCo.step T rfl rfl (fun K hK => ?_); (try simp (disch := omega) only [WB, argE, T3, T5, T9, T22, T23, T26, T27, T29, T51, T53, T62, T65, T66, T68, T72, T78, T145]); (refine hK _ _ ?_; clear hK K) | refine VC.region ?_ | refine VC.seq' ?_ | refine VC.block ?_ | (refine VCo.nil ?_); (try simp only [QB])
  refine VC.loop {k : Nat // k ≤ c.bufs.length ∧ ∀ (i : Nat) (y : List En), i < k → c.bufs[i]? = some y → decide (y.length = 0) = true} (fun p => ⟨lookD [(1, .pt (cfC c)), (3, iD (p.1 : Nat))], []⟩) (fun p => c.bufs.length - p.1) ⟨0, by omega, fun i y hi => by omega⟩ ?_ ?_
  · refine Weak.sub ?_
    simp [sub, upd]
  · rintro ⟨k, hk, hs⟩
    dsimp only
    rcases Nat.lt_or_ge k c.bufs.length with hlt | hge
    · have hd : decide ((k : Int) < (c.bufs.length : Int)) = true := by simp; omega
      have hw : IntKind.i64.wrap ((k : Int) + 1) = ((k + 1 : Nat) : Int) := by rw [w64 (by omega)]; omega
      obtain ⟨b, hb⟩ : ∃ b, c.bufs[k]? = some b := ⟨_, List.getElem?_eq_getElem hlt⟩
      have rb : (bufsR c.bufs)[k]? = some [buf b] := by rw [bufsR_at, hb]; rfl
      by_cases h0 : b.length = 0
      · have e0 : decide ((b.length : Int) > 0) = false := by rw [h0]; rfl
        repeat' first | refine VCo.step T rfl rfl (fun K hK => ?_); (try simp (disch := omega) only [WB, lookD, Nat.reduceBEq, T3, T5, T9, T22, T23, T26, T27, T29, T51, T53, T62, T65, T66, T68, T72, T78, T145, hd, hw, rb, e0, bufsR_len, eRs_len]); (first | refine hK _ _ ?_; clear hK K | refine ⟨?_, hK _ _ ?_⟩ <;> clear hK K; focus (try omega)) | refine VC.region ?_ | refine VC.seq' ?_ | refine VC.block ?_ | (first | refine VCo.nil ?_ | refine VC.skip ?_); (try simp only [QB]) | refine VC.cond rfl ?_; (try simp only [gsplit_true, gsplit_false])
        refine ⟨⟨k + 1, by omega, step_of hs hb (by simpa using h0)⟩, Weak.sub ?_, by simp only []; omega⟩
        simp [sub, upd]
      · have e0 : decide ((b.length : Int) > 0) = true := by simp; omega
        have hr : quietB c = false := all_not hb (by simpa using h0)
        rw [hr]
        repeat' first | refine VCo.step T rfl rfl (fun K hK => ?_); (try simp (disch := omega) only [WB, lookD, Nat.reduceBEq, T3, T5, T9, T22, T23, T26, T27, T29, T51, T53, T62, T65, T66, T68, T72, T78, T145, hd, rb, e0, bufsR_len, eRs_len]); (first | refine hK _ _ ?_; clear hK K | refine ⟨?_, hK _ _ ?_⟩ <;> clear hK K; focus (try omega)) | refine VC.region ?_ | refine VC.seq' ?_ | refine VC.block ?_ | (first | refine VCo.nil ?_ | refine VC.skip ?_ | refine VC.ret ?_); (try simp only [QB]) | refine ret1 T (List.nil_sublist _) ?_; (try simp only [upd, Nat.reduceBEq, cond_true, cond_false, and_true]) | refine VC.cond rfl ?_; (try simp only [gsplit_true])
    · have hd : decide ((k : Int) < (c.bufs.length : Int)) = false := by simp; omega
      have hr : quietB c = true := all_of fun i x hi hx => hs i x (by omega) hx
      rw [hr]
      repeat' first | refine VCo.step T rfl rfl (fun K hK => ?_); (try simp (disch := omega) only [WB, lookD, Nat.reduceBEq, T3, T5, T9, T22, T23, T26, T27, T29, T51, T53, T62, T65, T66, T68, T72, T78, T145, hd, bufsR_len]); (refine hK _ _ ?_; clear hK K) | refine VC.region ?_ | refine VC.seq' ?_ | (first | refine VCo.nil ?_ | refine VC.ret ?_ | refine VC.exit ?_); (try simp only [QB]) | refine ret1 T (List.nil_sublist _) ?_; (try simp only [upd, Nat.reduceBEq, cond_true, cond_false, and_true]) | refine VC.cond rfl ?_; (try simp only [gsplit_false])

def lightC (c : Cf) : Bool := (decide (c.pc.length ≤ 8) && decide (c.regs.length ≤ 8) && decide (c.bufs.length ≤ 8) && decide (c.mem.length ≤ 20)) && ((c.regs.all fun r => decide (r.length ≤ 20)) && (c.bufs.all fun b => decide (b.length ≤ 60)))
set_option maxHeartbeats 4000000 in
theorem rlight_ok (c : Cf) : Pure Tryz.prog 17 [.agg (cfC c)] (bD (lightC c)) := by
  by_cases hg : c.pc.length ≤ 8 ∧ c.regs.length ≤ 8 ∧ c.bufs.length ≤ 8 ∧ c.mem.length ≤ 20
  · obtain ⟨g1, g2, g3, g4⟩ := hg
    have e1 : decide ((c.pc.length : Int) > 8) = false := by simp; omega
    have e2 : decide ((c.regs.length : Int) > 8) = false := by simp; omega
    have e3 : decide ((c.bufs.length : Int) > 8) = false := by simp; omega
    have e4 : decide ((c.mem.length : Int) > 20) = false := by simp; omega
    have hL : lightC c = ((c.regs.all fun r => decide (r.length ≤ 20)) && (c.bufs.all fun b => decide (b.length ≤ 60))) := by simp [lightC, g1, g2, g3, g4]
    refine Fun.of T [.tmp 2] Tryz.func17 rfl Tryz.ntmps17 Tryz.results17 rfl (by kernel_rfl) ?_
    repeat' first | refine VCo.stepO rfl rfl (fun K hK => r_boxR rfl rfl rfl (hK _ _ ?_)); (try simp only [updO]) | (first | refine VCo.step T rfl rfl (fun K hK => ?_) | refine VCr.step T rfl (fun K hK => ?_)); (try simp (disch := omega) only [WB, argE, Nat.reduceBEq, T3, T5, T9, T22, T23, T26, T27, T29, T51, T53, T62, T65, T66, T68, T72, T78, T145, e1, e2, e3, e4, iRs_len, rowsI_len, bufsR_len]); (refine hK _ _ ?_; clear hK K) | refine VCo.gstep rfl rfl rfl rfl rfl ?_; try simp only [GB] | refine VC.region ?_ | refine VC.seq' ?_ | refine VC.block ?_ | (first | refine VCo.nil ?_ | refine VC.skip ?_); (try simp only [QB]) | refine VC.cond rfl ?_; (try simp only [gsplit_false])
    refine VC.loop {k : Nat // k ≤ c.regs.length ∧ ∀ (i : Nat) (y : List Int), i < k → c.regs[i]? = some y → decide (y.length ≤ 20) = true} (fun p => ⟨lookD [(1, .pt (cfC c)), (3, iD (p.1 : Nat))], []⟩) (fun p => c.regs.length - p.1) ⟨0, by omega, fun i y hi => by omega⟩ ?_ ?_
    · refine Weak.sub ?_
      simp [sub, upd]
    · rintro ⟨k, hk, hs⟩
      dsimp only
      rcases Nat.lt_or_ge k c.regs.length with hlt | hge
      · have hd : decide ((k : Int) < (c.regs.length : Int)) = true := by simp; omega
        have hw : IntKind.i64.wrap ((k : Int) + 1) = ((k + 1 : Nat) : Int) := by rw [w64 (by omega)]; omega
        obtain ⟨b, hb⟩ : ∃ b, c.regs[k]? = some b := ⟨_, List.getElem?_eq_getElem hlt⟩
        have rb : (rowsI c.regs)[k]? = some [ints b] := by rw [rowsI_at, hb]; rfl
        by_cases h0 : b.length ≤ 20
        · have e0 : decide ((b.length : Int) > 20) = false := by simp; omega
          repeat' first | (refine VCo.step T rfl rfl (fun K hK => ?_)); (try simp (disch := omega) only [WB, lookD, Nat.reduceBEq, T3, T5, T9, T22, T23, T26, T27, T29, T51, T53, T62, T65, T66, T68, T72, T78, T145, hd, hw, rb, e0, rowsI_len, iRs_len]); (first | refine hK _ _ ?_; clear hK K | refine ⟨?_, hK _ _ ?_⟩ <;> clear hK K; focus (try omega)) | refine VC.region ?_ | refine VC.seq' ?_ | refine VC.block ?_ | (first | refine VCo.nil ?_ | refine VC.skip ?_); (try simp only [QB]) | refine VC.cond rfl ?_; (try simp only [gsplit_true, gsplit_false])
          refine ⟨⟨k + 1, by omega, step_of hs hb (by simpa using h0)⟩, Weak.sub ?_, by simp only []; omega⟩
          simp [sub, upd]
        · have e0 : decide ((b.length : Int) > 20) = true := by simp; omega
          have hr : lightC c = false := by rw [hL, all_not (p := fun r => decide (r.length ≤ 20)) hb (by simpa using h0)]; rfl
          rw [hr]
          repeat' first | (refine VCo.step T rfl rfl (fun K hK => ?_)); (try simp (disch := omega) only [WB, lookD, Nat.reduceBEq, T3, T5, T9, T22, T23, T26, T27, T29, T51, T53, T62, T65, T66, T68, T72, T78, T145, hd, rb, e0, rowsI_len, iRs_len]); (first | refine hK _ _ ?_; clear hK K | refine ⟨?_, hK _ _ ?_⟩ <;> clear hK K; focus (try omega)) | refine VC.region ?_ | refine VC.seq' ?_ | refine VC.block ?_ | (first | refine VCo.nil ?_ | refine VC.skip ?_ | refine VC.ret ?_); (try simp only [QB]) | refine ret1 T (List.nil_sublist _) ?_; (try simp only [upd, Nat.reduceBEq, cond_true, cond_false, and_true]) | refine VC.cond rfl ?_; (try simp only [gsplit_true])
      · have hd : decide ((k : Int) < (c.regs.length : Int)) = false := by simp; omega
        have hr1 : (c.regs.all fun r => decide (r.length ≤ 20)) = true := all_of fun i x hi hx => hs i x (by omega) hx
        rw [hr1, Bool.true_and] at hL
        repeat' first | (refine VCo.step T rfl rfl (fun K hK => ?_)); (try simp (disch := omega) only [WB, lookD, Nat.reduceBEq, T3, T5, T9, T22, T23, T26, T27, T29, T51, T53, T62, T65, T66, T68, T72, T78, T145, hd, rowsI_len]); (refine hK _ _ ?_; clear hK K) | refine VC.region ?_ | refine VC.seq' ?_ | refine VC.block ?_ | (first | refine VCo.nil ?_ | refine VC.exit ?_); (try simp only [QB]) | refine VC.cond rfl ?_; (try simp only [gsplit_false])
        refine VC.loop {k : Nat // k ≤ c.bufs.length ∧ ∀ (i : Nat) (y : List En), i < k → c.bufs[i]? = some y → decide (y.length ≤ 60) = true} (fun p => ⟨lookD [(1, .pt (cfC c)), (4, iD (p.1 : Nat))], []⟩) (fun p => c.bufs.length - p.1) ⟨0, by omega, fun i y hi => by omega⟩ ?_ ?_
        · refine Weak.sub ?_
          simp [sub, upd]
        · rintro ⟨k, hk, hs⟩
          dsimp only
          rcases Nat.lt_or_ge k c.bufs.length with hlt | hge
          · have hd : decide ((k : Int) < (c.bufs.length : Int)) = true := by simp; omega
            have hw : IntKind.i64.wrap ((k : Int) + 1) = ((k + 1 : Nat) : Int) := by rw [w64 (by omega)]; omega
            obtain ⟨b, hb⟩ : ∃ b, c.bufs[k]? = some b := ⟨_, List.getElem?_eq_getElem hlt⟩
            have rb : (bufsR c.bufs)[k]? = some [buf b] := by rw [bufsR_at, hb]; rfl
            by_cases h0 : b.length ≤ 60
            · have e0 : decide ((b.length : Int) > 60) = false := by simp; omega
              repeat' first | (refine VCo.step T rfl rfl (fun K hK => ?_)); (try simp (disch := omega) only [WB, lookD, Nat.reduceBEq, T3, T5, T9, T22, T23, T26, T27, T29, T51, T53, T62, T65, T66, T68, T72, T78, T145, hd, hw, rb, e0, bufsR_len, eRs_len]); (first | refine hK _ _ ?_; clear hK K | refine ⟨?_, hK _ _ ?_⟩ <;> clear hK K; focus (try omega)) | refine VC.region ?_ | refine VC.seq' ?_ | refine VC.block ?_ | (first | refine VCo.nil ?_ | refine VC.skip ?_); (try simp only [QB]) | refine VC.cond rfl ?_; (try simp only [gsplit_true, gsplit_false])
              refine ⟨⟨k + 1, by omega, step_of hs hb (by simpa using h0)⟩, Weak.sub ?_, by simp only []; omega⟩
              simp [sub, upd]
            · have e0 : decide ((b.length : Int) > 60) = true := by simp; omega
              have hr : lightC c = false := by rw [hL]; exact all_not hb (by simpa using h0)
              rw [hr]
              repeat' first | (refine VCo.step T rfl rfl (fun K hK => ?_)); (try simp (disch := omega) only [WB, lookD, Nat.reduceBEq, T3, T5, T9, T22, T23, T26, T27, T29, T51, T53, T62, T65, T66, T68, T72, T78, T145, hd, rb, e0, bufsR_len, eRs_len]); (first | refine hK _ _ ?_; clear hK K | refine ⟨?_, hK _ _ ?_⟩ <;> clear hK K; focus (try omega)) | refine VC.region ?_ | refine VC.seq' ?_ | refine VC.block ?_ | (first | refine VCo.nil ?_ | refine VC.skip ?_ | refine VC.ret ?_); (try simp only [QB]) | refine ret1 T (List.nil_sublist _) ?_; (try simp only [upd, Nat.reduceBEq, cond_true, cond_false, and_true]) | refine VC.cond rfl ?_; (try simp only [gsplit_true])
          · have hd : decide ((k : Int) < (c.bufs.length : Int)) = false := by simp; omega
            have hr : lightC c = true := by rw [hL]; exact all_of fun i x hi hx => hs i x (by omega) hx
            rw [hr]
            repeat' first | (refine VCo.step T rfl rfl (fun K hK => ?_)); (try simp (disch := omega) only [WB, lookD, Nat.reduceBEq, T3, T5, T9, T22, T23, T26, T27, T29, T51, T53, T62, T65, T66, T68, T72, T78, T145, hd, bufsR_len]); (refine hK _ _ ?_; clear hK K) | refine VC.region ?_ | refine VC.seq' ?_ | (first | refine VCo.nil ?_ | refine VC.ret ?_ | refine VC.exit ?_); (try simp only [QB]) | refine ret1 T (List.nil_sublist _) ?_; (try simp only [upd, Nat.reduceBEq, cond_true, cond_false, and_true]) | refine VC.cond rfl ?_; (try simp only [gsplit_false])
  · have hL : lightC c = false := by
      unfold lightC
      have : (decide (c.pc.length ≤ 8) && decide (c.regs.length ≤ 8) && decide (c.bufs.length ≤ 8) && decide (c.mem.length ≤ 20)) = false := by
        rw [Bool.eq_false_iff]
        intro h
        simp only [Bool.and_eq_true, decide_eq_true_eq] at h
        exact hg ⟨h.1.1.1, h.1.1.2, h.1.2, h.2⟩
      rw [this]; rfl
    rw [hL]
    refine Fun.of T [.tmp 2] Tryz.func17 rfl Tryz.ntmps17 Tryz.results17 rfl (by kernel_rfl) ?_
    by_cases g1 : c.pc.length ≤ 8
    · have e1 : decide ((c.pc.length : Int) > 8) = false := by simp; omega
      by_cases g2 : c.regs.length ≤ 8
      · have e2 : decide ((c.regs.length : Int) > 8) = false := by simp; omega
        by_cases g3 : c.bufs.length ≤ 8
        · have e3 : decide ((c.bufs.length : Int) > 8) = false := by simp; omega
          have e4 : decide ((c.mem.length : Int) > 20) = true := by simp; omega
          repeat' first | refine VCo.stepO rfl rfl (fun K hK => r_boxR rfl rfl rfl (hK _ _ ?_)); (try simp only [updO]) | (first | refine VCo.step T rfl rfl (fun K hK => ?_) | refine VCr.step T rfl (fun K hK => ?_)); (try simp (disch := omega) only [WB, argE, Nat.reduceBEq, T3, T5, T9, T22, T23, T26, T27, T29, T51, T53, T62, T65, T66, T68, T72, T78, T145, e1, e2, e3, e4, iRs_len, rowsI_len, bufsR_len]); (refine hK _ _ ?_; clear hK K) | refine VCo.gstep rfl rfl rfl rfl rfl ?_; try simp only [GB] | refine VC.region ?_ | refine VC.seq' ?_ | (first | refine VCo.nil ?_ | refine VC.ret ?_); (try simp only [QB]) | refine ret1 T (List.nil_sublist _) ?_; (try simp only [upd, Nat.reduceBEq, cond_true, cond_false, and_true]) | refine VC.cond rfl ?_; (try simp only [gsplit_true])
        · have e3 : decide ((c.bufs.length : Int) > 8) = true := by simp; omega
          repeat' first | refine VCo.stepO rfl rfl (fun K hK => r_boxR rfl rfl rfl (hK _ _ ?_)); (try simp only [updO]) | (first | refine VCo.step T rfl rfl (fun K hK => ?_) | refine VCr.step T rfl (fun K hK => ?_)); (try simp (disch := omega) only [WB, argE, Nat.reduceBEq, T3, T5, T9, T22, T23, T26, T27, T29, T51, T53, T62, T65, T66, T68, T72, T78, T145, e1, e2, e3, iRs_len, rowsI_len, bufsR_len]); (refine hK _ _ ?_; clear hK K) | refine VCo.gstep rfl rfl rfl rfl rfl ?_; try simp only [GB] | refine VC.region ?_ | refine VC.seq' ?_ | (first | refine VCo.nil ?_ | refine VC.ret ?_); (try simp only [QB]) | refine ret1 T (List.nil_sublist _) ?_; (try simp only [upd, Nat.reduceBEq, cond_true, cond_false, and_true]) | refine VC.cond rfl ?_; (try simp only [gsplit_true])
      · have e2 : decide ((c.regs.length : Int) > 8) = true := by simp; omega
        repeat' first | refine VCo.stepO rfl rfl (fun K hK => r_boxR rfl rfl rfl (hK _ _ ?_)); (try simp only [updO]) | (first | refine VCo.step T rfl rfl (fun K hK => ?_) | refine VCr.step T rfl (fun K hK => ?_)); (try simp (disch := omega) only [WB, argE, Nat.reduceBEq, T3, T5, T9, T22, T23, T26, T27, T29, T51, T53, T62, T65, T66, T68, T72, T78, T145, e1, e2, iRs_len, rowsI_len]); (refine hK _ _ ?_; clear hK K) | refine VCo.gstep rfl rfl rfl rfl rfl ?_; try simp only [GB] | refine VC.region ?_ | refine VC.seq' ?_ | (first | refine VCo.nil ?_ | refine VC.ret ?_); (try simp only [QB]) | refine ret1 T (List.nil_sublist _) ?_; (try simp only [upd, Nat.reduceBEq, cond_true, cond_false, and_true]) | refine VC.cond rfl ?_; (try simp only [gsplit_true])
    · have e1 : decide ((c.pc.length : Int) > 8) = true := by simp; omega
      repeat' first | refine VCo.stepO rfl rfl (fun K hK => r_boxR rfl rfl rfl (hK _ _ ?_)); (try simp only [updO]) | (refine VCo.step T rfl rfl (fun K hK => ?_)); (try simp (disch := omega) only [WB, argE, Nat.reduceBEq, T3, T5, T9, T22, T23, T26, T27, T29, T51, T53, T62, T65, T66, T68, T72, T78, T145, e1, iRs_len]); (refine hK _ _ ?_; clear hK K) | refine VCo.gstep rfl rfl rfl rfl rfl ?_; try simp only [GB] | refine VC.region ?_ | refine VC.seq' ?_ | (first | refine VCo.nil ?_ | refine VC.ret ?_); (try simp only [QB]) | refine ret1 T (List.nil_sublist _) ?_; (try simp only [upd, Nat.reduceBEq, cond_true, cond_false, and_true]) | refine VC.cond rfl ?_; (try simp only [gsplit_true])
end Go.Proofs.YtlnmljmeahknaaaGreat
