/- Contracts: whether two configurations are the same. No condition. -/
import Derived.Test.YtlnmljmeahknaaaGreatXf
namespace Go.Proofs.YtlnmljmeahknaaaGreat
set_option linter.unusedSimpArgs false
set_option linter.unusedVariables false
set_option maxRecDepth 20000
open Go Go.Proofs Go.Vc

/-- The lists are short. -/
structure OkC (c : Cf) : Prop where
  pc : c.pc.length ≤ 1000
  mem : c.mem.length ≤ 1000
  regs : c.regs.length ≤ 1000
  row : ∀ r, r ∈ c.regs → r.length ≤ 1000
  bufs : c.bufs.length ≤ 1000
  buf : ∀ b, b ∈ c.bufs → b.length ≤ 1000

def sameC (a b : Cf) : Bool := decide (a.pc = b.pc) && (decide (a.mem = b.mem) && (decide (a.regs = b.regs) && decide (a.bufs = b.bufs)))
theorem ext_of {α : Type} {l m : List α} (hl : l.length = m.length) (h : ∀ i, i < l.length → l[i]? = m[i]?) : l = m := by
  apply List.ext_getElem?
  intro i
  rcases Nat.lt_or_ge i l.length with h' | h'
  · exact h i h'
  · rw [List.getElem?_eq_none h', List.getElem?_eq_none (by omega)]
theorem ne_of_at {α : Type} {l m : List α} {i : Nat} {x y : α} (hx : l[i]? = some x) (hy : m[i]? = some y) (h : x ≠ y) : l ≠ m := fun e => by
  rw [e, hy] at hx
  exact h (Option.some.inj hx).symm
theorem samestep {α : Type} {l m : List α} {k : Nat} {x : α} (hs : ∀ i, i < k → l[i]? = m[i]?) (hx : l[k]? = some x) (hy : m[k]? = some x) : ∀ i, i < k + 1 → l[i]? = m[i]? := fun i hi => by
  rcases Nat.lt_or_ge i k with h' | h'
  · exact hs i h'
  · obtain rfl : i = k := by omega
    rw [hx, hy]

set_option maxHeartbeats 8000000 in
theorem rsame_ok (a b : Cf) (ha : OkC a) (hb : OkC b) : Pure Tryz.prog 9 [.agg (cfC a), .agg (cfC b)] (bD (sameC a b)) := by
  have ap := ha.pc
  have bp := hb.pc
  have am := ha.mem
  have bm := hb.mem
  have ar := ha.regs
  have br := hb.regs
  have ab := ha.bufs
  have bb := hb.bufs
  have c1 := ints_ok a.pc b.pc (by omega) (by omega)
  have c2 := ints_ok a.mem b.mem (by omega) (by omega)
  refine Fun.of T [.tmp 4] Tryz.func9 rfl Tryz.ntmps9 Tryz.results9 rfl (by kernel_rfl) ?_
  by_cases h1 : a.pc = b.pc
  case neg =>
    have e1 : decide (a.pc = b.pc) = false := decide_eq_false h1
    have hS : sameC a b = false := by simp [sameC, h1]
    rw [hS]
    rw [e1] at c1
    repeat' first | refine VCo.stepO rfl rfl (fun K hK => r_boxR rfl rfl rfl (hK _ _ ?_)); (try simp only [updO]) | (refine VCo.step T rfl rfl (fun K hK => ?_)); (try simp (disch := omega) only [WB, argE, Nat.reduceBEq, T3, T5, T9, T22, T23, T26, T27, T29, T51, T53, T62, T65, T66, T68, T72, T78, T145, Bool.not_false]); (first | refine hK _ _ ?_; clear hK K | refine Op1.callp rfl rfl (c1) rfl ?_; refine hK _ _ ?_; clear hK K) | refine VCo.gstep rfl rfl rfl rfl rfl ?_; try simp only [GB] | refine VC.region ?_ | refine VC.seq' ?_ | (first | refine VCo.nil ?_ | refine VC.ret ?_); (try simp only [QB]) | refine ret1 T (List.nil_sublist _) ?_; (try simp only [upd, Nat.reduceBEq, cond_true, cond_false, and_true]) | refine VC.cond rfl ?_; (try simp only [gsplit_true])
  have e1 : decide (a.pc = b.pc) = true := decide_eq_true h1
  rw [e1] at c1
  by_cases h2 : a.mem = b.mem
  case neg =>
    have e2 : decide (a.mem = b.mem) = false := decide_eq_false h2
    have hS : sameC a b = false := by simp [sameC, h2]
    rw [hS]
    rw [e2] at c2
    repeat' first | refine VCo.stepO rfl rfl (fun K hK => r_boxR rfl rfl rfl (hK _ _ ?_)); (try simp only [updO]) | (first | refine VCo.step T rfl rfl (fun K hK => ?_) | refine VCr.step T rfl (fun K hK => ?_)); (try simp (disch := omega) only [WB, argE, Nat.reduceBEq, T3, T5, T9, T22, T23, T26, T27, T29, T51, T53, T62, T65, T66, T68, T72, T78, T145, Bool.not_false, Bool.not_true]); (first | refine hK _ _ ?_; clear hK K | refine Op1.callp rfl rfl (c1) rfl ?_; refine hK _ _ ?_; clear hK K | refine Op1.callp rfl rfl (c2) rfl ?_; refine hK _ _ ?_; clear hK K) | refine VCo.gstep rfl rfl rfl rfl rfl ?_; try simp only [GB] | refine VC.region ?_ | refine VC.seq' ?_ | (first | refine VCo.nil ?_ | refine VC.ret ?_); (try simp only [QB]) | refine ret1 T (List.nil_sublist _) ?_; (try simp only [upd, Nat.reduceBEq, cond_true, cond_false, and_true]) | refine VC.cond rfl ?_; (try simp only [gsplit_true])
  have e2 : decide (a.mem = b.mem) = true := decide_eq_true h2
  rw [e2] at c2
  by_cases h3 : a.regs.length = b.regs.length
  case neg =>
    have e3 : ((a.regs.length : Int) != (b.regs.length : Int)) = true := bne_iff_ne.2 (by omega)
    have hS : sameC a b = false := by
      have : a.regs ≠ b.regs := fun h => h3 (by rw [h])
      simp [sameC, this]
    rw [hS]
    repeat' first | refine VCo.stepO rfl rfl (fun K hK => r_boxR rfl rfl rfl (hK _ _ ?_)); (try simp only [updO]) | (first | refine VCo.step T rfl rfl (fun K hK => ?_) | refine VCr.step T rfl (fun K hK => ?_)); (try simp (disch := omega) only [WB, argE, Nat.reduceBEq, T3, T5, T9, T22, T23, T26, T27, T29, T51, T53, T62, T65, T66, T68, T72, T78, T145, e3, rowsI_len, Bool.not_true]); (first | refine hK _ _ ?_; clear hK K | refine Op1.callp rfl rfl (c1) rfl ?_; refine hK _ _ ?_; clear hK K | refine Op1.callp rfl rfl (c2) rfl ?_; refine hK _ _ ?_; clear hK K) | refine VCo.gstep rfl rfl rfl rfl rfl ?_; try simp only [GB] | refine VC.region ?_ | refine VC.seq' ?_ | (first | refine VCo.nil ?_ | refine VC.ret ?_); (try simp only [QB]) | refine ret1 T (List.nil_sublist _) ?_; (try simp only [upd, Nat.reduceBEq, cond_true, cond_false, and_true]) | refine VC.cond rfl ?_; (try simp only [gsplit_true])
  have e3 : ((a.regs.length : Int) != (b.regs.length : Int)) = false := by simp [h3]
  by_cases h4 : a.bufs.length = b.bufs.length
  case neg =>
    have e4 : ((a.bufs.length : Int) != (b.bufs.length : Int)) = true := bne_iff_ne.2 (by omega)
    have hS : sameC a b = false := by
      have : a.bufs ≠ b.bufs := fun h => h4 (by rw [h])
      simp [sameC, this]
    rw [hS]
    repeat' first | refine VCo.stepO rfl rfl (fun K hK => r_boxR rfl rfl rfl (hK _ _ ?_)); (try simp only [updO]) | (first | refine VCo.step T rfl rfl (fun K hK => ?_) | refine VCr.step T rfl (fun K hK => ?_)); (try simp (disch := omega) only [WB, argE, Nat.reduceBEq, T3, T5, T9, T22, T23, T26, T27, T29, T51, T53, T62, T65, T66, T68, T72, T78, T145, e3, e4, rowsI_len, bufsR_len, Bool.not_true]); (first | refine hK _ _ ?_; clear hK K | refine Op1.callp rfl rfl (c1) rfl ?_; refine hK _ _ ?_; clear hK K | refine Op1.callp rfl rfl (c2) rfl ?_; refine hK _ _ ?_; clear hK K) | refine VCo.gstep rfl rfl rfl rfl rfl ?_; try simp only [GB] | refine VC.region ?_ | refine VC.seq' ?_ | (first | refine VCo.nil ?_ | refine VC.ret ?_); (try simp only [QB]) | refine ret1 T (List.nil_sublist _) ?_; (try simp only [upd, Nat.reduceBEq, cond_true, cond_false, and_true]) | refine VC.cond rfl ?_; (try simp only [gsplit_true])
  have e4 : ((a.bufs.length : Int) != (b.bufs.length : Int)) = false := by simp [h4]
  repeat' first | refine VCo.stepO rfl rfl (fun K hK => r_boxR rfl rfl rfl (hK _ _ ?_)); (try simp only [updO]) | (first | refine VCo.step T rfl rfl (fun K hK => ?_) | refine VCr.step T rfl (fun K hK => ?_)); (try simp (disch := omega) only [WB, argE, Nat.reduceBEq, T3, T5, T9, T22, T23, T26, T27, T29, T51, T53, T62, T65, T66, T68, T72, T78, T145, e3, e4, rowsI_len, bufsR_len, Bool.not_true]); (first | refine hK _ _ ?_; clear hK K | refine Op1.callp rfl rfl (c1) rfl ?_; refine hK _ _ ?_; clear hK K | refine Op1.callp rfl rfl (c2) rfl ?_; refine hK _ _ ?_; clear hK K) | refine VCo.gstep rfl rfl rfl rfl rfl ?_; try simp only [GB] | refine VC.region ?_ | refine VC.seq' ?_ | refine VC.block ?_ | (first | refine VCo.nil ?_ | refine VC.skip ?_); (try simp only [QB]) | refine VC.cond rfl ?_; (try simp only [gsplit_false])
  refine VC.loop {k : Nat // k ≤ a.regs.length ∧ ∀ i, i < k → a.regs[i]? = b.regs[i]?} (fun p => ⟨lookD [(2, .pt (cfC a)), (3, .pt (cfC b)), (5, iD (p.1 : Nat))], []⟩) (fun p => a.regs.length - p.1) ⟨0, by omega, fun i hi => by omega⟩ ?_ ?_
  · refine Weak.sub ?_
    simp [sub, upd]
  · rintro ⟨k, hk, hs⟩
    dsimp only
    rcases Nat.lt_or_ge k a.regs.length with hlt | hge
    · have hd : decide ((k : Int) < (a.regs.length : Int)) = true := by simp; omega
      have hw : IntKind.i64.wrap ((k : Int) + 1) = ((k + 1 : Nat) : Int) := by rw [w64 (by omega)]; omega
      have hkb : k < b.regs.length := by omega
      obtain ⟨x, hx⟩ : ∃ x, a.regs[k]? = some x := ⟨_, List.getElem?_eq_getElem hlt⟩
      obtain ⟨y, hy⟩ : ∃ y, b.regs[k]? = some y := ⟨_, List.getElem?_eq_getElem hkb⟩
      have rx : (rowsI a.regs)[k]? = some [ints x] := by rw [rowsI_at, hx]; rfl
      have ry : (rowsI b.regs)[k]? = some [ints y] := by rw [rowsI_at, hy]; rfl
      have xl := ha.row x (List.mem_of_getElem? hx)
      have yl := hb.row y (List.mem_of_getElem? hy)
      have c3 := ints_ok x y (by omega) (by omega)
      by_cases he : x = y
      · rw [decide_eq_true he] at c3
        repeat' first | refine VC.draw (id := 6) T 10 (by kernel_rfl) (by kernel_rfl) (by kernel_rfl) ?_ | refine VCg.nil T ?_; simp only [allK, WB] | (first | apply VCg.step T rfl rfl | apply exF); focus ((try simp (disch := omega) only [WB, lookD, Nat.reduceBEq, T3, T5, T9, T22, T23, T26, T27, T29, T51, T53, T62, T65, T66, T68, T72, T78, T145, rx, ry, rowsI_len]); (first | exact rfl | refine ⟨?_, rfl⟩; try omega)) | (refine VCo.step T rfl rfl (fun K hK => ?_)); (try simp (disch := omega) only [WB, lookD, Nat.reduceBEq, T3, T5, T9, T22, T23, T26, T27, T29, T51, T53, T62, T65, T66, T68, T72, T78, T145, hd, hw, rowsI_len, Bool.not_true]); (first | refine hK _ _ ?_; clear hK K | refine Op1.callp rfl rfl (c3) rfl ?_; refine hK _ _ ?_; clear hK K) | refine VC.region ?_ | refine VC.seq' ?_ | refine VC.block ?_ | (first | refine VCo.nil ?_ | refine VC.skip ?_); (try simp only [QB]) | refine VC.cond rfl ?_; (try simp only [gsplit_true, gsplit_false])
        refine ⟨⟨k + 1, by omega, samestep hs hx (by rw [hy, he])⟩, Weak.sub ?_, by simp only []; omega⟩
        simp [sub, upd]
      · rw [decide_eq_false he] at c3
        have hS : sameC a b = false := by
          have := ne_of_at hx hy he
          simp [sameC, this]
        rw [hS]
        repeat' first | refine VC.draw (id := 6) T 10 (by kernel_rfl) (by kernel_rfl) (by kernel_rfl) ?_ | refine VCg.nil T ?_; simp only [allK, WB] | (apply VCg.step T rfl rfl); focus ((try simp (disch := omega) only [WB, Nat.reduceBEq, T3, T5, T9, T22, T23, T26, T27, T29, T51, T53, T62, T65, T66, T68, T72, T78, T145, rx, ry, rowsI_len]); (first | exact rfl | refine ⟨?_, rfl⟩; try omega)) | (refine VCo.step T rfl rfl (fun K hK => ?_)); (try simp (disch := omega) only [WB, lookD, Nat.reduceBEq, T3, T5, T9, T22, T23, T26, T27, T29, T51, T53, T62, T65, T66, T68, T72, T78, T145, hd, rowsI_len, Bool.not_false]); (first | refine hK _ _ ?_; clear hK K | refine Op1.callp rfl rfl (c3) rfl ?_; refine hK _ _ ?_; clear hK K) | refine VC.region ?_ | refine VC.seq' ?_ | refine VC.block ?_ | (first | refine VCo.nil ?_ | refine VC.skip ?_ | refine VC.ret ?_); (try simp only [QB]) | refine ret1 T (List.nil_sublist _) ?_; (try simp only [upd, Nat.reduceBEq, cond_true, cond_false, and_true]) | refine VC.cond rfl ?_; (try simp only [gsplit_true])
    · have hd : decide ((k : Int) < (a.regs.length : Int)) = false := by simp; omega
      have hr : a.regs = b.regs := ext_of h3 fun i hi => hs i (by omega)
      repeat' first | (refine VCo.step T rfl rfl (fun K hK => ?_)); (try simp (disch := omega) only [WB, lookD, Nat.reduceBEq, T3, T5, T9, T22, T23, T26, T27, T29, T51, T53, T62, T65, T66, T68, T72, T78, T145, hd, rowsI_len]); (refine hK _ _ ?_; clear hK K) | refine VC.region ?_ | refine VC.seq' ?_ | refine VC.block ?_ | (first | refine VCo.nil ?_ | refine VC.exit ?_); (try simp only [QB]) | refine VC.cond rfl ?_; (try simp only [gsplit_false])
      refine VC.loop {k : Nat // k ≤ a.bufs.length ∧ ∀ i, i < k → a.bufs[i]? = b.bufs[i]?} (fun p => ⟨lookD [(2, .pt (cfC a)), (3, .pt (cfC b)), (6, iD (p.1 : Nat))], []⟩) (fun p => a.bufs.length - p.1) ⟨0, by omega, fun i hi => by omega⟩ ?_ ?_
      · refine Weak.sub ?_
        simp [sub, upd]
      · rintro ⟨k, hk, hs⟩
        dsimp only
        rcases Nat.lt_or_ge k a.bufs.length with hlt | hge
        · have hd : decide ((k : Int) < (a.bufs.length : Int)) = true := by simp; omega
          have hw : IntKind.i64.wrap ((k : Int) + 1) = ((k + 1 : Nat) : Int) := by rw [w64 (by omega)]; omega
          have hkb : k < b.bufs.length := by omega
          obtain ⟨x, hx⟩ : ∃ x, a.bufs[k]? = some x := ⟨_, List.getElem?_eq_getElem hlt⟩
          obtain ⟨y, hy⟩ : ∃ y, b.bufs[k]? = some y := ⟨_, List.getElem?_eq_getElem hkb⟩
          have rx : (bufsR a.bufs)[k]? = some [buf x] := by rw [bufsR_at, hx]; rfl
          have ry : (bufsR b.bufs)[k]? = some [buf y] := by rw [bufsR_at, hy]; rfl
          have xl := ha.buf x (List.mem_of_getElem? hx)
          have yl := hb.buf y (List.mem_of_getElem? hy)
          have c3 := same_ok x y (by omega) (by omega)
          by_cases he : x = y
          · rw [decide_eq_true he] at c3
            repeat' first | refine VC.draw (id := 11) T 10 (by kernel_rfl) (by kernel_rfl) (by kernel_rfl) ?_ | refine VCg.nil T ?_; simp only [allK, WB] | (first | apply VCg.step T rfl rfl | apply exF); focus ((try simp (disch := omega) only [WB, lookD, Nat.reduceBEq, T3, T5, T9, T22, T23, T26, T27, T29, T51, T53, T62, T65, T66, T68, T72, T78, T145, rx, ry, bufsR_len]); (first | exact rfl | refine ⟨?_, rfl⟩; try omega)) | (refine VCo.step T rfl rfl (fun K hK => ?_)); (try simp (disch := omega) only [WB, lookD, Nat.reduceBEq, T3, T5, T9, T22, T23, T26, T27, T29, T51, T53, T62, T65, T66, T68, T72, T78, T145, hd, hw, bufsR_len, Bool.not_true]); (first | refine hK _ _ ?_; clear hK K | refine Op1.callp rfl rfl (c3) rfl ?_; refine hK _ _ ?_; clear hK K) | refine VC.region ?_ | refine VC.seq' ?_ | refine VC.block ?_ | (first | refine VCo.nil ?_ | refine VC.skip ?_); (try simp only [QB]) | refine VC.cond rfl ?_; (try simp only [gsplit_true, gsplit_false])
            refine ⟨⟨k + 1, by omega, samestep hs hx (by rw [hy, he])⟩, Weak.sub ?_, by simp only []; omega⟩
            simp [sub, upd]
          · rw [decide_eq_false he] at c3
            have hS : sameC a b = false := by
              have := ne_of_at hx hy he
              simp [sameC, this]
            rw [hS]
            repeat' first | refine VC.draw (id := 11) T 10 (by kernel_rfl) (by kernel_rfl) (by kernel_rfl) ?_ | refine VCg.nil T ?_; simp only [allK, WB] | (apply VCg.step T rfl rfl); focus ((try simp (disch := omega) only [WB, Nat.reduceBEq, T3, T5, T9, T22, T23, T26, T27, T29, T51, T53, T62, T65, T66, T68, T72, T78, T145, rx, ry, bufsR_len]); (first | exact rfl | refine ⟨?_, rfl⟩; try omega)) | (refine VCo.step T rfl rfl (fun K hK => ?_)); (try simp (disch := omega) only [WB, lookD, Nat.reduceBEq, T3, T5, T9, T22, T23, T26, T27, T29, T51, T53, T62, T65, T66, T68, T72, T78, T145, hd, bufsR_len, Bool.not_false]); (first | refine hK _ _ ?_; clear hK K | refine Op1.callp rfl rfl (c3) rfl ?_; refine hK _ _ ?_; clear hK K) | refine VC.region ?_ | refine VC.seq' ?_ | refine VC.block ?_ | (first | refine VCo.nil ?_ | refine VC.skip ?_ | refine VC.ret ?_); (try simp only [QB]) | refine ret1 T (List.nil_sublist _) ?_; (try simp only [upd, Nat.reduceBEq, cond_true, cond_false, and_true]) | refine VC.cond rfl ?_; (try simp only [gsplit_true])
        · have hd : decide ((k : Int) < (a.bufs.length : Int)) = false := by simp; omega
          have hb' : a.bufs = b.bufs := ext_of h4 fun i hi => hs i (by omega)
          have hS : sameC a b = true := by simp [sameC, h1, h2, hr, hb']
          rw [hS]
          repeat' first | (refine VCo.step T rfl rfl (fun K hK => ?_)); (try simp (disch := omega) only [WB, lookD, Nat.reduceBEq, T3, T5, T9, T22, T23, T26, T27, T29, T51, T53, T62, T65, T66, T68, T72, T78, T145, hd, bufsR_len]); (refine hK _ _ ?_; clear hK K) | refine VC.region ?_ | refine VC.seq' ?_ | (first | refine VCo.nil ?_ | refine VC.ret ?_ | refine VC.exit ?_); (try simp only [QB]) | refine ret1 T (List.nil_sublist _) ?_; (try simp only [upd, Nat.reduceBEq, cond_true, cond_false, and_true]) | refine VC.cond rfl ?_; (try simp only [gsplit_false])
end Go.Proofs.YtlnmljmeahknaaaGreat
