/- The walk of MachineNames. No condition. -/
import Derived.Test.YtlnmljmeahknaaaRj
import Derived.Test.YtlnmljmeahknaaaRr
namespace Go.Proofs.Ytlnmljmeahknaaa
set_option linter.unusedSimpArgs false
set_option linter.unusedVariables false
set_option maxRecDepth 20000
open Go Go.Proofs Go.Vc

/-- What acts at a place. -/
def agF (u : Un) (m : Int) (i : Nat) : Ag := if i < u.regs.length then .th i else if m = 2 then .fl (i - u.regs.length) (-1) else .fl ((i - u.regs.length) / u.init.length) (((i - u.regs.length) % u.init.length : Nat) : Int)
theorem ag_at {u : Un} {m : Int} {i : Nat} (h : i < (agsF u m).length) : (agsF u m)[i]? = some (agF u m i) ∧ (u.regs.length ≤ i → m = 2 ∨ (m = 3 ∧ i - u.regs.length < u.regs.length * u.init.length)) ∧ unitB u = true := by
  have hUm : unitB u = true ∧ 1 ≤ m ∧ m ≤ 3 := by
    by_cases h' : unitB u = true ∧ 1 ≤ m ∧ m ≤ 3
    · exact h'
    · rw [agsF_no h'] at h; simp at h
  obtain ⟨hU, hm1, hm3⟩ := hUm
  unfold agF
  rcases Nat.lt_or_ge i u.regs.length with h3 | h3
  · refine ⟨?_, fun h => by omega, hU⟩
    rw [if_pos h3, agsF, if_pos ⟨hU, hm1, hm3⟩]
    exact ths_at h3 _
  rw [if_neg (by omega)]
  rcases (show m = 1 ∨ m = 2 ∨ m = 3 by omega) with rfl | rfl | rfl
  · rw [count_1 hU] at h; omega
  · refine ⟨?_, fun _ => .inl rfl, hU⟩
    rw [count_2 hU] at h
    rw [if_pos rfl, agsF_2 hU, ths_past h3, List.getElem?_map, List.getElem?_range (by omega)]
    rfl
  · rw [count_3 hU] at h
    have hc : i - u.regs.length < u.regs.length * u.init.length := by omega
    have hL : 0 < u.init.length := by
      rcases Nat.eq_zero_or_pos u.init.length with h | h
      · rw [h, Nat.mul_zero] at hc; omega
      · exact h
    refine ⟨?_, fun _ => .inr ⟨rfl, hc⟩, hU⟩
    rw [if_neg (by decide), agsF_3 hU, ths_past h3]
    exact grid_at (fun t l => Ag.fl t (l : Int)) hL _ _ hc
/-- The numbers in a name have one digit. -/
def AgOk9 : Ag → Prop
  | .th t => t < 10
  | .fl t l => t < 10 ∧ l < 10
theorem ag_ok9 {u : Un} {m : Int} {i : Nat} (h : i < (agsF u m).length) : AgOk9 (agF u m i) := by
  obtain ⟨_, h2, hU⟩ := ag_at h
  have hl := unit_lens hU
  have hlen := agsF_len u m
  unfold agF
  split
  · show i < 10; omega
  rename_i h3
  split
  · rename_i m2
    subst m2
    rw [count_2 hU] at h
    exact ⟨by omega, by omega⟩
  · rename_i m2
    obtain ⟨_, hc⟩ := (h2 (by omega)).resolve_left m2
    have hL : 0 < u.init.length := by
      rcases Nat.eq_zero_or_pos u.init.length with h | h
      · rw [h, Nat.mul_zero] at hc; omega
      · exact h
    have h5 : (i - u.regs.length) / u.init.length < u.regs.length := Nat.div_lt_of_lt_mul (by rw [Nat.mul_comm]; exact hc)
    have h6 := Nat.mod_lt (i - u.regs.length) hL
    generalize (i - u.regs.length) % u.init.length = q at *
    exact ⟨by omega, by omega⟩
theorem agF_inj {u : Un} {m : Int} {i k : Nat} (hi : i < (agsF u m).length) (hk : k < (agsF u m).length) (h : agF u m i = agF u m k) : i = k := by
  obtain ⟨_, h2, hU⟩ := ag_at hi
  obtain ⟨_, h4, _⟩ := ag_at hk
  unfold agF at h
  split at h
  · split at h
    · cases h; rfl
    · split at h <;> cases h
  · split at h
    · split at h
      · cases h
      · injection h
        omega
    · rename_i n1 n2
      split at h
      · cases h
      · injection h with e1 e2
        have e2 : (i - u.regs.length) % u.init.length = (k - u.regs.length) % u.init.length := by exact_mod_cast e2
        have a1 := Nat.div_add_mod (i - u.regs.length) u.init.length
        have a2 := Nat.div_add_mod (k - u.regs.length) u.init.length
        rw [e1, e2, a2] at a1
        omega
theorem dig9 {n : Int} (h : n < 10) : dec6 n = ⟨#[UInt8.ofNat (48 + n.toNat)]⟩ := by
  unfold dec6
  rw [decF_small _ _ (by omega)]
theorem u8_inj {a b : Nat} (ha : a < 10) (hb : b < 10) (h : UInt8.ofNat (48 + a) = UInt8.ofNat (48 + b)) : a = b := by
  have := congrArg UInt8.toNat h
  simp only [UInt8.toNat_ofNat'] at this
  omega
theorem nameA_th {t : Nat} (h : t < 10) : (nameA (.th t)).data.toList = [116, UInt8.ofNat (48 + t)] := by
  simp only [nameA]
  rw [dig9 (by omega)]
  simp
theorem nameA_fl {t : Nat} {l : Int} (h : t < 10 ∧ l < 10) (hl : 0 ≤ l) : (nameA (.fl t l)).data.toList = [102, UInt8.ofNat (48 + t), 46, UInt8.ofNat (48 + l.toNat)] := by
  simp only [nameA, decide_eq_true (show l ≥ 0 from hl)]
  rw [dig9 (by omega), dig9 h.2]
  simp
theorem nameA_fn {t : Nat} {l : Int} (h : t < 10 ∧ l < 10) (hl : l < 0) : (nameA (.fl t l)).data.toList = [102, UInt8.ofNat (48 + t)] := by
  simp only [nameA, decide_eq_false (show ¬ l ≥ 0 by omega)]
  rw [dig9 (by omega)]
  simp
theorem nameA_ne {a : Ag} (h : AgOk9 a) : nameA a ≠ ⟨#[]⟩ := by
  intro e
  have e := congrArg (fun x => x.data.toList) e
  try dsimp only at e
  cases a with
  | th t => rw [nameA_th h] at e; cases e
  | fl t l =>
    rcases Int.lt_or_le l 0 with hl | hl
    · rw [nameA_fn h hl] at e; cases e
    · rw [nameA_fl h hl] at e; cases e
/-- Names differ. -/
theorem nameA_inj {a b : Ag} (ha : AgOk9 a) (hb : AgOk9 b) (hab : ∀ t l t' l', a = .fl t l → b = .fl t' l' → (l < 0 ↔ l' < 0) ∧ (l < 0 → l = l')) (e : nameA a = nameA b) : a = b := by
  have e := congrArg (fun x => x.data.toList) e
  try dsimp only at e
  cases a with
  | th t =>
    cases b with
    | th t' =>
      have ha : t < 10 := ha
      have hb : t' < 10 := hb
      rw [nameA_th ha, nameA_th hb] at e
      simp only [List.cons.injEq, and_true, true_and] at e
      rw [u8_inj ha hb e]
    | fl t' l' =>
      rcases Int.lt_or_le l' 0 with hl | hl
      · rw [nameA_th ha, nameA_fn hb hl] at e; simp at e
      · rw [nameA_th ha, nameA_fl hb hl] at e; simp at e
  | fl t l =>
    cases b with
    | th t' =>
      rcases Int.lt_or_le l 0 with hl | hl
      · rw [nameA_fn ha hl, nameA_th hb] at e; simp at e
      · rw [nameA_fl ha hl, nameA_th hb] at e; simp at e
    | fl t' l' =>
      obtain ⟨h1, h2⟩ := hab t l t' l' rfl rfl
      have ha : t < 10 ∧ l < 10 := ha
      have hb : t' < 10 ∧ l' < 10 := hb
      rcases Int.lt_or_le l 0 with hl | hl
      · rw [nameA_fn ha hl, nameA_fn hb (h1.1 hl)] at e
        simp only [List.cons.injEq, and_true, true_and] at e
        rw [u8_inj ha.1 hb.1 e, h2 hl]
      · have hl' : 0 ≤ l' := by
          rcases Int.lt_or_le l' 0 with h | h
          · have := h1.2 h; omega
          · exact h
        rw [nameA_fl ha hl, nameA_fl hb hl'] at e
        simp only [List.cons.injEq, and_true, true_and] at e
        have := u8_inj (by omega) (by omega) e.2
        rw [u8_inj ha.1 hb.1 e.1, show l = l' by omega]
theorem agF_sign {u : Un} {m : Int} {i k : Nat} (t : Nat) (l : Int) (t' : Nat) (l' : Int) (h1 : agF u m i = .fl t l) (h2 : agF u m k = .fl t' l') : (l < 0 ↔ l' < 0) ∧ (l < 0 → l = l') := by
  unfold agF at h1 h2
  split at h1
  · cases h1
  split at h2
  · cases h2
  split at h1
  · rename_i m2
    rw [if_pos m2] at h2
    cases h1; cases h2
    exact ⟨Iff.rfl, fun _ => rfl⟩
  · rename_i m2
    rw [if_neg m2] at h2
    cases h1; cases h2
    refine ⟨by omega, fun h => by omega⟩
theorem name_num {u : Un} {m : Int} {k : Nat} (h : k < (agsF u m).length) : numF (agsF u m) (nameM u m (k : Nat)) = (k : Nat) := by
  have ha := (ag_at h).1
  rw [nameM_at ha]
  refine numF_at ha (decide_eq_true rfl) fun i y hi hy => ?_
  have hil := (List.getElem?_eq_some_iff.1 hy).1
  have hy2 := (ag_at hil).1
  rw [hy] at hy2
  cases hy2
  refine decide_eq_false fun e => ?_
  have := agF_inj hil h (nameA_inj (ag_ok9 hil) (ag_ok9 h) (fun t l t' l' h1 h2 => agF_sign t l t' l' h1 h2) e)
  omega
theorem num_empty (u : Un) (m : Int) : numF (agsF u m) ⟨#[]⟩ = -1 := numF_no fun i y hy => by
  have hil := (List.getElem?_eq_some_iff.1 hy).1
  have hy2 := (ag_at hil).1
  rw [hy] at hy2
  cases hy2
  exact decide_eq_false (nameA_ne (ag_ok9 hil))
/-- A name that is one tells its agent. -/
theorem name_back {u : Un} {m a : Int} (h : nameM u m a ≠ ⟨#[]⟩) : numF (agsF u m) (nameM u m a) = a := by
  have : ∃ k : Nat, a = (k : Int) ∧ k < (agsF u m).length := by
    unfold nameM at h
    cases hO : oneF u m a with
    | none => rw [hO] at h; exact absurd rfl h
    | some ag =>
      unfold oneF at hO
      split at hO
      · rename_i h0
        have h0 := of_decide_eq_true h0
        exact ⟨a.toNat, by omega, (List.getElem?_eq_some_iff.1 hO).1⟩
      · cases hO
  obtain ⟨k, rfl, hk⟩ := this
  exact name_num hk

set_option maxHeartbeats 8000000 in
theorem lawNames (u : Un) (m : Int) (s : ByteArray) : Pure Try.prog 11 [.agg (unC u), iD m, sD s] (bD true) := by
  have cu := ulight_ok u
  have ck := known11_ok
  refine Fun.of T [.tmp 6] Try.func11 rfl Try.ntmps11 Try.results11 rfl (by kernel_rfl) ?_
  cases hU : lightU u with
  | false =>
    rw [hU] at cu
    repeat' first | refine VCo.stepO rfl rfl (fun K hK => r_boxR rfl rfl rfl (hK _ _ ?_)); (try simp only [updO]) | (refine VCo.step T rfl rfl (fun K hK => ?_)); (try simp (disch := omega) only [WB, argE, Nat.reduceBEq, Nat.reduceAdd, Nat.reduceLeDiff, T42, Bool.not_false]); (first | refine hK _ _ ?_; clear hK K | refine Op1.callp rfl rfl (cu) rfl ?_; refine hK _ _ ?_; clear hK K | refine Op1.callp rfl rfl (ck) rfl ?_; refine hK _ _ ?_; clear hK K) | refine VCo.gstep rfl rfl rfl rfl rfl ?_; try simp only [GB] | refine VC.region ?_ | refine VC.seq' ?_ | (first | refine VCo.nil ?_ | refine VC.ret ?_); (try simp only [QB]) | refine ret1 T (List.nil_sublist _) ?_; (try simp only [upd, Nat.reduceBEq, cond_true, cond_false, and_true]) | refine VC.cond rfl ?_; (try simp only [gsplit_true])
  | true =>
  rw [hU] at cu
  have hu := okU_light hU
  by_cases h1 : (s.size : Int) > 300
  · have e1 : decide ((s.size : Int) > 300) = true := by simpa using h1
    repeat' first | refine VCo.stepO rfl rfl (fun K hK => r_boxR rfl rfl rfl (hK _ _ ?_)); (try simp only [updO]) | (first | refine VCo.step T rfl rfl (fun K hK => ?_) | refine VCr.step T rfl (fun K hK => ?_)); (try simp (disch := omega) only [WB, argE, Nat.reduceBEq, Nat.reduceAdd, Nat.reduceLeDiff, T3, T9, T42, e1, Bool.not_true]); (first | refine hK _ _ ?_; clear hK K | refine Op1.callp rfl rfl (cu) rfl ?_; refine hK _ _ ?_; clear hK K | refine Op1.callp rfl rfl (ck) rfl ?_; refine hK _ _ ?_; clear hK K) | refine VCo.gstep rfl rfl rfl rfl rfl ?_; try simp only [GB] | refine VC.region ?_ | refine VC.seq' ?_ | (first | refine VCo.nil ?_ | refine VC.ret ?_); (try simp only [QB]) | refine ret1 T (List.nil_sublist _) ?_; (try simp only [upd, Nat.reduceBEq, cond_true, cond_false, and_true]) | refine VC.cond rfl ?_; (try simp only [gsplit_true])
  have e1 : decide ((s.size : Int) > 300) = false := by simpa using h1
  have c1 := agentsN_ok u hu m
  have c2 := ragents_ok u hu m
  have c3 := numM_ok u hu m s
  have c4 := rnum_ok u hu m s
  have cn := nameM_ok u hu m
  have cr := rname_ok u hu m
  have cm := numM_ok u hu m
  have hl := agsF_len u m
  have hb : ∀ a, nameM u m a ≠ ⟨#[]⟩ → numF (agsF u m) (nameM u m a) = a := fun a => name_back
  have c9 := cm ⟨#[]⟩
  rw [num_empty] at c9
  generalize agsF u m = A at *
  repeat' first | refine VCo.stepO rfl rfl (fun K hK => r_boxR rfl rfl rfl (hK _ _ ?_)); (try simp only [updO]) | refine VC.draw (id := 4) T 13 (by kernel_rfl) (by kernel_rfl) (by kernel_rfl) ?_ | refine VCg.nil T ?_; simp only [allK, WB] | (first | apply VCg.step T rfl rfl | apply exF); focus ((try simp (disch := omega) only [WB, Nat.reduceBEq, Nat.reduceAdd, Nat.reduceLeDiff, T3, T42, bne_self_eq_false]); (first | exact rfl | refine Op1.callp rfl rfl (c2) rfl ?_; exact ⟨rfl, rfl⟩ | refine Op1.callp rfl rfl (c3) rfl ?_; exact ⟨rfl, rfl⟩)) | refine VCg.gstep T rfl rfl rfl rfl ?_; try simp only [GB] | (first | refine VCo.step T rfl rfl (fun K hK => ?_) | refine VCr.step T rfl (fun K hK => ?_)); (try simp (disch := omega) only [WB, argE, Nat.reduceBEq, Nat.reduceAdd, Nat.reduceLeDiff, T3, T9, T42, e1, bne_self_eq_false, Bool.not_true]); (first | refine hK _ _ ?_; clear hK K | refine Op1.callp rfl rfl (cu) rfl ?_; refine hK _ _ ?_; clear hK K | refine Op1.callp rfl rfl (c1) rfl ?_; refine hK _ _ ?_; clear hK K | refine Op1.callp rfl rfl (c4) rfl ?_; refine hK _ _ ?_; clear hK K) | refine VCo.gstep rfl rfl rfl rfl rfl ?_; try simp only [GB] | refine VC.region ?_ | refine VC.seq' ?_ | refine VC.block ?_ | (first | refine VCo.nil ?_ | refine VC.skip ?_); (try simp only [QB]) | refine VC.cond rfl ?_; (try simp only [gsplit_false])
  refine VC.loop {k : Nat // k ≤ A.length + 2} (fun p => ⟨lookD [(1, iD m), (3, .pt (unC u)), (7, iD (A.length : Nat)), (8, iD ((p.1 : Int) - 1))], []⟩) (fun p => A.length + 2 - p.1) ⟨0, by omega⟩ ?_ ?_
  · refine Weak.sub ?_
    simp [sub, upd]
  rintro ⟨k, hk⟩
  dsimp only
  by_cases hlt : k < A.length + 2
  case neg =>
    have hd : decide ((k : Int) - 1 ≤ (A.length : Int)) = false := by simp; omega
    repeat' first | (first | refine VCo.step T rfl rfl (fun K hK => ?_) | refine VCr.step T rfl (fun K hK => ?_)); (try simp (disch := omega) only [WB, lookD, Nat.reduceBEq, Nat.reduceAdd, Nat.reduceLeDiff, T3, T42, hd]); (first | refine hK _ _ ?_; clear hK K | refine Op1.callp rfl rfl (c9) rfl ?_; refine hK _ _ ?_; clear hK K | refine Op1.callp rfl rfl (ck) rfl ?_; refine hK _ _ ?_; clear hK K) | refine VCo.gstep rfl rfl rfl rfl rfl ?_; try simp only [GB] | refine VC.region ?_ | refine VC.seq' ?_ | (first | refine VCo.nil ?_ | refine VC.ret ?_ | refine VC.exit ?_); (try simp only [QB]) | refine ret1 T (List.nil_sublist _) ?_; (try simp only [upd, Nat.reduceBEq, cond_true, cond_false, and_true]) | refine VC.cond rfl ?_; (try simp only [gsplit_false])
  have hd : decide ((k : Int) - 1 ≤ (A.length : Int)) = true := by simp; omega
  have hw : IntKind.i64.wrap ((k : Int) - 1 + 1) = ((k + 1 : Nat) : Int) - 1 := by rw [w64 (by omega)]; omega
  have c5 := cn ((k : Int) - 1)
  have c6 := cr ((k : Int) - 1)
  have hb1 := hb ((k : Int) - 1)
  generalize nameM u m ((k : Int) - 1) = q at *
  have hq : decide (q = q) = true := decide_eq_true rfl
  by_cases hE : q = ⟨#[]⟩
  · have hn : decide (q = ⟨#[]⟩) = true := decide_eq_true hE
    repeat' first | (first | refine VCo.step T rfl rfl (fun K hK => ?_) | refine VCr.step T rfl (fun K hK => ?_)); (try simp (disch := omega) only [WB, lookD, Nat.reduceBEq, Nat.reduceAdd, Nat.reduceLeDiff, T3, T9, T42, hd, hw, hn, Bool.not_true]); (first | refine hK _ _ ?_; clear hK K | refine Op1.callp rfl rfl (c5) rfl ?_; refine hK _ _ ?_; clear hK K | refine Op1.callp rfl rfl (c6) rfl ?_; refine hK _ _ ?_; clear hK K) | refine VCo.gstep rfl rfl rfl rfl rfl ?_; try simp only [GB] | refine VC.region ?_ | refine VC.seq' ?_ | refine VC.block ?_ | (first | refine VCo.nil ?_ | refine VC.skip ?_); (try simp only [QB]) | refine VC.cond rfl ?_; (try simp only [gsplit_true, gsplit_false])
    refine ⟨⟨k + 1, by omega⟩, Weak.sub ?_, by dsimp only; omega⟩
    simp [sub, upd]
  · have hn : decide (q = ⟨#[]⟩) = false := decide_eq_false hE
    have c7 := cm q
    rw [hb1 hE] at c7
    repeat' first | (first | refine VCo.step T rfl rfl (fun K hK => ?_) | refine VCr.step T rfl (fun K hK => ?_)); (try simp (disch := omega) only [WB, lookD, Nat.reduceBEq, Nat.reduceAdd, Nat.reduceLeDiff, T3, T9, T42, hd, hw, hn, bne_self_eq_false, Bool.not_false]); (first | refine hK _ _ ?_; clear hK K | refine Op1.callp rfl rfl (c5) rfl ?_; refine hK _ _ ?_; clear hK K | refine Op1.callp rfl rfl (c6) rfl ?_; refine hK _ _ ?_; clear hK K | refine Op1.callp rfl rfl (c7) rfl ?_; refine hK _ _ ?_; clear hK K) | refine VCo.gstep rfl rfl rfl rfl rfl ?_; try simp only [GB] | refine VC.region ?_ | refine VC.seq' ?_ | refine VC.block ?_ | (first | refine VCo.nil ?_ | refine VC.skip ?_); (try simp only [QB]) | refine VC.cond rfl ?_; (try simp only [gsplit_true, gsplit_false])
    refine ⟨⟨k + 1, by omega⟩, Weak.sub ?_, by dsimp only; omega⟩
    simp [sub, upd]
end Go.Proofs.Ytlnmljmeahknaaa
/- The statement of MachineNames. No condition. -/
namespace Go.Proofs.Ytlnmljmeahknaaa
set_option linter.unusedSimpArgs false
set_option linter.unusedVariables false
open Go Go.Proofs Go.Vc Go.ChangeShapes Go.WideShapes Go.ChangeAt Go.RowKit Go.Joins

theorem lawMachineNames_all (Ds : List D) (h : ShA [.many unitT, .one (.int .i64), .one .str] Ds) : Pure Try.prog 11 Ds (bD true) := by
  obtain ⟨_, _, rfl, h1, _, _, rfl, ⟨m, rfl, _⟩, _, _, rfl, ⟨s, rfl, _⟩, h2⟩ := h
  rw [ShA] at h2; subst h2
  obtain ⟨u, rfl⟩ := unit_all h1
  exact lawNames u m s

set_option maxRecDepth 100000 in
theorem lifted_MachineNames (os : Os) (started : os.Started) (H : Type) (enc : TypeId × Value → H) :
    ReturnsInHanded {} Try.checked os 11 .any (Rows.machineNamesSpec.pre6 enc Try.prog Try.f11 Rows.machineNamesRow.domain false) (Rows.machineNamesSpec.post enc Try.prog Try.f11 false true false false) := by
  refine returnsInHanded_of_change (C := Try.checked) ownK started (by kernel_rfl) Try.func11
    (ChangeSpec.witness6 (enc := enc) (C := Try.checked) false ⟨#[], #[.agg #[.int .i64 0, .slice none 0 0, .slice none 0 0, .slice none 0 0], .int .i64 0, .string ⟨#[]⟩], []⟩ 12 (by kernel_rfl) (by kernel_rfl) (by kernel_rfl) (by kernel_rfl)) ?_
  intro W base args ds gs before hval0 hW hcnd _
  have hval : ∀ (j : Nat) t v, Try.f11.params[j]? = some t → args[j]? = some v → Value.okWide Try.prog W .any base t v := hval0
  have hW' := hW
  obtain ⟨p, q, hA0, hV, rfl, hfz, hnd⟩ := hW
  have hA : DataW.TrodAll enc Try.prog W 0 (fun _ => true) true Try.f11.params.toList args.toList ds p := hA0
  obtain ⟨rfl, rfl⟩ := trodVars_none hV
  obtain ⟨Ds, hS, hR⟩ := open_args (L := live [] (fun _ => False)) (fun b hb => hb.elim id (fun h => by cases h)) _ _ _ _ [.many unitT, .one (.int .i64), .one .str] hA
    (fun j t v h1 h2 => hval j t v (by simpa using h1) (by simpa using h2)) (by kernel_rfl)
  obtain ⟨d0, d1, d2, rfl⟩ := spine3 (trodAll_len _ _ _ _ hA)
  simp only [List.append_nil] at hW'
  have hlt : ∀ x ∈ p, x.block < W.heap.size := fun x hx => by simpa using hW'.lt x hx
  refine (calls_yes (lawMachineNames_all Ds hS) W args.toList hR).mono fun e W' ⟨he, hw⟩ => ?_
  subst he
  exact ⟨_, rfl, _, _, _, [], p, [], hW', trodAll_mk1 (shut_bool Try.underlying4 _), shut_args (by kernel_rfl) hw _ _ _ _ (by kernel_rfl) hA hlt, rfl, hw.frame _, fun h => by cases h⟩

theorem MachineNames_holds : Rows.MachineNamesSaid :=
  OpenClaim.holds_of_wide 11 Try.f11 rfl rfl rfl rfl rfl rfl rfl ⟨rfl, rfl, rfl, rfl, rfl⟩ rfl rfl rfl rfl rfl (by kernel_rfl) Try.func11 (by kernel_rfl)
    (of_decide_eq_true (by kernel_rfl)) (by unfold Func.isWrapper; first | (rw [if_pos (by decide +kernel)]; kernel_rfl) | (rw [if_neg (by decide +kernel)]; exact ⟨rfl, rfl⟩))
    (fun os started H enc _ => lifted_MachineNames os started H enc)
end Go.Proofs.Ytlnmljmeahknaaa
