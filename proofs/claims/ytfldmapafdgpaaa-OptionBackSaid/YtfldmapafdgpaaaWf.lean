/- Contracts. No condition. -/
import Derived.Test.YtfldmapafdgpaaaWe
namespace Go.Proofs.Ytfldmapafdgpaaa
set_option linter.unusedSimpArgs false
set_option linter.unusedVariables false
open Go Go.Proofs Go.Vc

def dig (c : UInt8) : Bool := decide (48 ≤ c.toNat) && decide (c.toNat ≤ 57)
def valF (n : Nat) (c : UInt8) : Nat := 10 * n + (c.toNat - 48)
def valL (l : List UInt8) : Nat := l.foldl valF 0
theorem dig_iff (c : UInt8) : dig c = true ↔ 48 ≤ c.toNat ∧ c.toNat ≤ 57 := by simp [dig]
theorem valF_lt : ∀ (l : List UInt8) (n : Nat), (∀ c, c ∈ l → dig c = true) → l.foldl valF n < (n + 1) * 10 ^ l.length
  | [], n, _ => by simp
  | c :: l, n, h => by
    have h1 := (dig_iff c).1 (h c (List.mem_cons_self ..))
    have h2 := valF_lt l (valF n c) fun d hd => h d (List.mem_cons_of_mem _ hd)
    rw [List.foldl_cons, List.length_cons, Nat.pow_succ]
    refine Nat.lt_of_lt_of_le h2 ?_
    rw [Nat.mul_comm (10 ^ l.length) 10, ← Nat.mul_assoc]
    exact Nat.mul_le_mul_right _ (by unfold valF; omega)
theorem valL_lt (l : List UInt8) (h : ∀ c, c ∈ l → dig c = true) (hl : l.length ≤ 6) : valL l < 1000000 := by
  have h1 := valF_lt l 0 h
  have h2 : (10 : Nat) ^ l.length ≤ 10 ^ 6 := Nat.pow_le_pow_right (by omega) hl
  unfold valL; omega
theorem valL_snoc (l : List UInt8) (c : UInt8) : valL (l ++ [c]) = 10 * valL l + (c.toNat - 48) := by
  simp [valL, valF]
theorem take_snoc {l : List UInt8} {k : Nat} {c : UInt8} (h : l[k]? = some c) : l.take (k + 1) = l.take k ++ [c] := by
  rw [List.take_add_one, h]; rfl

theorem get_of {s : ByteArray} {k : Nat} {c : UInt8} (h : s.data.toList[k]? = some c) : s.get! k = c := by
  have h' : s.data[k]? = some c := by simpa using h
  show s.data[k]! = c
  rw [getElem!_def, h']
theorem decode_dig {s : ByteArray} {k : Nat} {c : UInt8} (h : s.data.toList[k]? = some c) (hc : dig c = true) : Utf8.decode s k = (c.toNat, 1) := by
  have h1 := (dig_iff c).1 hc
  unfold Utf8.decode
  simp only [Nat.add_zero, get_of h]
  rw [if_pos (by omega)]
theorem decode_not {s : ByteArray} {k : Nat} {c : UInt8} (h : s.data.toList[k]? = some c) (hc : ¬ dig c = true) : (Utf8.decode s k).1 < 48 ∨ 57 < (Utf8.decode s k).1 := by
  rw [dig_iff] at hc
  unfold Utf8.decode
  simp only [Nat.add_zero, get_of h]
  split
  · simp only []; omega
  · split
    · split
      · rename_i hh; right; exact Nat.lt_of_lt_of_le (by decide : 57 < 128) hh
      · right; decide
    · split
      · split
        · rename_i hh; right; have h2 := of_decide_eq_true (Bool.and_eq_true_iff.1 hh).1; dsimp only; omega
        · right; decide
      · split
        · split
          · rename_i hh; right; have h2 := of_decide_eq_true (Bool.and_eq_true_iff.1 hh).1; dsimp only; omega
          · right; decide
        · right; decide

/-- The number that a text writes, as the program writes it; 0: none. -/
def numberS (s : ByteArray) : Nat := match s.data.toList.all dig && decide (s.size ≤ 6) with
  | true => (match decide (dec6 (valL s.data.toList : Nat) = s) with | true => valL s.data.toList | false => 0)
  | false => 0

theorem number_ok (s : ByteArray) : Pure Try.prog 18 [sD s] (iD (numberS s : Nat)) := by
  have hsz : s.data.toList.length = s.size := Array.length_toList
  refine Fun.of T [.tmp 2] Try.func18 rfl Try.ntmps18 Try.results18 rfl (by kernel_rfl) ?_
  repeat' first
    | (refine VCo.step T rfl rfl (fun K hK => ?_); (try simp (disch := omega) only [opC, lookD, cConvS, cRange, cNext, kdElem, numsOf, List.append_eq, evD, constD, updO, upd, argE, kdT, cPick, cBin, cInt, cStr, kTag, cUn, cLoad, fieldAt, cFieldAddr, cField, cIndexAddr, cIndex, cExtract, cNil, cBuild, cAlloc, cBox, cStore, cBuildSlice, cMake, cSlice, cLen, cAppS, cAppend, dC, dV, gsplit_true, gsplit_false, sameB, fillD, cellsD, setL, hget_eq, hget_ne, hset_eq, hset_ne, oneD, Value.oneCell', rowsOf, srcOk, Nat.reduceBEq, Nat.reduceAdd, Nat.reduceMul, Nat.reduceSub, Nat.reduceLeDiff, cond_true, cond_false, beq_self_eq_true, Nat.ble_eq, Bool.and_true, Bool.true_and, Bool.and_self, Nat.beq_eq_true_eq, List.map_cons, List.map_nil, List.length_cons, List.length_nil, List.set_cons_zero, List.set_cons_succ, List.getElem?_cons_zero, List.getElem?_cons_succ, List.all_cons, List.all_nil, List.drop_succ_cons, List.drop_zero, List.take_succ_cons, List.take_zero, List.take_nil, List.drop_nil, Option.map_some, Option.map_none, Option.some.injEq, exists_eq_left', true_and, and_true, List.replicate_succ, List.replicate_zero, List.flatten_cons, List.flatten_nil, List.append_nil, List.nil_append, List.cons_append, Nat.zero_mul, Int.toNat_natCast, Int.reduceToNat, List.length_map, List.getElem?_map, Nat.zero_add, Nat.add_zero, T3, T5, T9, T21, T24, T29, T37, T43, T44]); (first | (refine hK _ _ ?_; clear hK K) | (refine ⟨_, _, _, _, (by repeat (first | exact Sp.here | exact Sp.nil | apply Sp.cons | apply Sp.over)), ?_, (by first | exact ⟨rfl, rfl⟩ | exact ⟨rfl, rfl, rfl⟩), ⟨by decide, by decide, ?_⟩, fun g' hg' => hK _ _ ?_⟩ <;> clear hK K) | (intro bq hbq; (try simp only [Heap.blocks, List.map_cons, List.map_nil, List.mem_cons, List.not_mem_nil, or_false, not_or, not_false_eq_true] at hbq); refine hK _ _ ?_; clear hK K) | (refine ⟨?_, hK _ _ ?_⟩ <;> clear hK K; focus (try (first | omega | exact ⟨rfl, by decide⟩ | exact rfl))) | (refine ⟨_, ?_, hK _ _ ?_⟩ <;> clear hK K) | (refine ⟨?_, fun bq hbq => hK _ _ ?_⟩ <;> clear hK K) | skip))
    | (refine VCr.step T rfl (fun K hK => ?_); (try simp (disch := omega) only [opC, lookD, cConvS, cRange, cNext, kdElem, numsOf, List.append_eq, evD, constD, updO, upd, argE, kdT, cPick, cBin, cInt, cStr, kTag, cUn, cLoad, fieldAt, cFieldAddr, cField, cIndexAddr, cIndex, cExtract, cNil, cBuild, cAlloc, cBox, cStore, cBuildSlice, cMake, cSlice, cLen, cAppS, cAppend, dC, dV, gsplit_true, gsplit_false, sameB, fillD, cellsD, setL, hget_eq, hget_ne, hset_eq, hset_ne, oneD, Value.oneCell', rowsOf, srcOk, Nat.reduceBEq, Nat.reduceAdd, Nat.reduceMul, Nat.reduceSub, Nat.reduceLeDiff, cond_true, cond_false, beq_self_eq_true, Nat.ble_eq, Bool.and_true, Bool.true_and, Bool.and_self, Nat.beq_eq_true_eq, List.map_cons, List.map_nil, List.length_cons, List.length_nil, List.set_cons_zero, List.set_cons_succ, List.getElem?_cons_zero, List.getElem?_cons_succ, List.all_cons, List.all_nil, List.drop_succ_cons, List.drop_zero, List.take_succ_cons, List.take_zero, List.take_nil, List.drop_nil, Option.map_some, Option.map_none, Option.some.injEq, exists_eq_left', true_and, and_true, List.replicate_succ, List.replicate_zero, List.flatten_cons, List.flatten_nil, List.append_nil, List.nil_append, List.cons_append, Nat.zero_mul, Int.toNat_natCast, Int.reduceToNat, List.length_map, List.getElem?_map, Nat.zero_add, Nat.add_zero, T3, T5, T9, T21, T24, T29, T37, T43, T44]); (first | (refine hK _ _ ?_; clear hK K) | (refine ⟨_, _, _, _, (by repeat (first | exact Sp.here | exact Sp.nil | apply Sp.cons | apply Sp.over)), ?_, (by first | exact ⟨rfl, rfl⟩ | exact ⟨rfl, rfl, rfl⟩), ⟨by decide, by decide, ?_⟩, fun g' hg' => hK _ _ ?_⟩ <;> clear hK K) | (intro bq hbq; (try simp only [Heap.blocks, List.map_cons, List.map_nil, List.mem_cons, List.not_mem_nil, or_false, not_or, not_false_eq_true] at hbq); refine hK _ _ ?_; clear hK K) | (refine ⟨?_, hK _ _ ?_⟩ <;> clear hK K; focus (try (first | omega | exact ⟨rfl, by decide⟩ | exact rfl))) | (refine ⟨_, ?_, hK _ _ ?_⟩ <;> clear hK K) | (refine ⟨?_, fun bq hbq => hK _ _ ?_⟩ <;> clear hK K) | skip))
    | (refine VCo.gstep rfl rfl rfl rfl rfl ?_; try simp only [gsplit_true, gsplit_false, sameB, cond_true, cond_false, updO])
    | (refine VCo.nil ?_; simp only [thenQ, blockQ, Nat.reduceBEq, cond_true, cond_false, beq_self_eq_true])
    | refine VC.region ?_
    | refine VC.seq' ?_
    | refine VC.block ?_
    | (refine VC.skip ?_; simp only [thenQ, blockQ, Nat.reduceBEq, cond_true, cond_false, beq_self_eq_true])
    | (refine VC.ret ?_; (try simp only [thenQ, blockQ, Nat.reduceBEq, cond_true, cond_false, beq_self_eq_true]))
    | (refine VC.exit ?_; simp only [thenQ, blockQ, Nat.reduceBEq, cond_true, cond_false, beq_self_eq_true])
    | (refine ret1 T (List.nil_sublist _) ?_; (try simp only [upd, Nat.reduceBEq, cond_true, cond_false, and_true]))
    | (refine VC.cond rfl ?_; (try simp only [gsplit_true, gsplit_false]))
    | (refine gsplit_intro (fun hc => ?_) (fun hc => ?_) <;> (simp only [gsplit_true, gsplit_false, sameB, cond_true, cond_false, updO]))
  refine VC.loop {k : Nat // k ≤ s.size ∧ (∀ c, c ∈ s.data.toList.take k → dig c = true) ∧ (0 < k → s.size ≤ 6)} (fun p => ⟨lookD [(0, sD s), (3, iD (valL (s.data.toList.take p.1) : Nat)), (7, .is (.pointer (some ⟨bq, 0, none⟩)))], [(bq, .iter s p.1)]⟩) (fun p => s.size - p.1) ⟨0, by omega, by simp, by omega⟩ ?_ ?_
  · refine Weak.sub ?_
    simp [sub, upd, Heap.blocks, valL]
  · rintro ⟨k, hk, hdg, h6⟩
    dsimp only
    rcases Nat.lt_or_ge k s.size with hlt | hge
    · have hb : Nat.blt k s.size = true := by simpa using hlt
      obtain ⟨c, hc0⟩ : ∃ c, s.data.toList[k]? = some c := ⟨_, List.getElem?_eq_getElem (by omega)⟩
      by_cases hc1 : dig c = true
      · have hdc := decode_dig hc0 hc1
        have hcc := (dig_iff c).1 hc1
        have d1 : decide (((c.toNat : Nat) : Int) < 48) = false := by simp; omega
        have d2 : decide (((c.toNat : Nat) : Int) > 57) = false := by simp; omega
        by_cases h7 : s.size ≤ 6
        · have d3 : decide ((s.size : Int) > 6) = false := by simp; omega
          have hv := valL_lt _ hdg (by rw [List.length_take]; omega)
          have hv1 : valL (s.data.toList.take (k + 1)) = 10 * valL (s.data.toList.take k) + (c.toNat - 48) := by rw [take_snoc hc0, valL_snoc]
          have w1 : IntKind.i64.wrap (10 * ((valL (s.data.toList.take k) : Nat) : Int)) = ((10 * valL (s.data.toList.take k) : Nat) : Int) := by rw [w64 (by omega)]; omega
          have w2 : IntKind.i32.wrap (((c.toNat : Nat) : Int) - 48) = ((c.toNat - 48 : Nat) : Int) := by rw [w32 (by omega)]; omega
          have w3 : IntKind.i64.wrap ((c.toNat - 48 : Nat) : Int) = ((c.toNat - 48 : Nat) : Int) := by rw [w64 (by omega)]
          have w4 : IntKind.i64.wrap (((10 * valL (s.data.toList.take k) : Nat) : Int) + ((c.toNat - 48 : Nat) : Int)) = ((valL (s.data.toList.take (k + 1)) : Nat) : Int) := by rw [w64 (by omega)]; omega
          repeat' first
            | (refine VCo.step T rfl rfl (fun K hK => ?_); (try simp (disch := omega) only [opC, lookD, cConvS, cRange, cNext, kdElem, numsOf, List.append_eq, evD, constD, updO, upd, argE, kdT, cPick, cBin, cInt, cStr, kTag, cUn, cLoad, fieldAt, cFieldAddr, cField, cIndexAddr, cIndex, cExtract, cNil, cBuild, cAlloc, cBox, cStore, cBuildSlice, cMake, cSlice, cLen, cAppS, cAppend, dC, dV, gsplit_true, gsplit_false, sameB, fillD, cellsD, setL, hget_eq, hget_ne, hset_eq, hset_ne, oneD, Value.oneCell', rowsOf, srcOk, Nat.reduceBEq, Nat.reduceAdd, Nat.reduceMul, Nat.reduceSub, Nat.reduceLeDiff, cond_true, cond_false, beq_self_eq_true, Nat.ble_eq, Bool.and_true, Bool.true_and, Bool.and_self, Nat.beq_eq_true_eq, List.map_cons, List.map_nil, List.length_cons, List.length_nil, List.set_cons_zero, List.set_cons_succ, List.getElem?_cons_zero, List.getElem?_cons_succ, List.all_cons, List.all_nil, List.drop_succ_cons, List.drop_zero, List.take_succ_cons, List.take_zero, List.take_nil, List.drop_nil, Option.map_some, Option.map_none, Option.some.injEq, exists_eq_left', true_and, and_true, List.replicate_succ, List.replicate_zero, List.flatten_cons, List.flatten_nil, List.append_nil, List.nil_append, List.cons_append, Nat.zero_mul, Int.toNat_natCast, Int.reduceToNat, List.length_map, List.getElem?_map, Nat.zero_add, Nat.add_zero, T3, T5, T9, T21, T24, T29, T37, T43, T44, hb, hdc, d1, d2, d3, w1, w2, w3, w4]); (first | (refine hK _ _ ?_; clear hK K) | (refine ⟨_, _, _, _, (by repeat (first | exact Sp.here | exact Sp.nil | apply Sp.cons | apply Sp.over)), ?_, (by first | exact ⟨rfl, rfl⟩ | exact ⟨rfl, rfl, rfl⟩), ⟨by decide, by decide, ?_⟩, fun g' hg' => hK _ _ ?_⟩ <;> clear hK K) | (intro bq hbq; (try simp only [Heap.blocks, List.map_cons, List.map_nil, List.mem_cons, List.not_mem_nil, or_false, not_or, not_false_eq_true] at hbq); refine hK _ _ ?_; clear hK K) | (refine ⟨?_, hK _ _ ?_⟩ <;> clear hK K; focus (try (first | omega | exact ⟨rfl, by decide⟩ | exact rfl))) | (refine ⟨_, ?_, hK _ _ ?_⟩ <;> clear hK K) | (refine ⟨?_, fun bq hbq => hK _ _ ?_⟩ <;> clear hK K) | skip))
            | (refine VCr.step T rfl (fun K hK => ?_); (try simp (disch := omega) only [opC, lookD, cConvS, cRange, cNext, kdElem, numsOf, List.append_eq, evD, constD, updO, upd, argE, kdT, cPick, cBin, cInt, cStr, kTag, cUn, cLoad, fieldAt, cFieldAddr, cField, cIndexAddr, cIndex, cExtract, cNil, cBuild, cAlloc, cBox, cStore, cBuildSlice, cMake, cSlice, cLen, cAppS, cAppend, dC, dV, gsplit_true, gsplit_false, sameB, fillD, cellsD, setL, hget_eq, hget_ne, hset_eq, hset_ne, oneD, Value.oneCell', rowsOf, srcOk, Nat.reduceBEq, Nat.reduceAdd, Nat.reduceMul, Nat.reduceSub, Nat.reduceLeDiff, cond_true, cond_false, beq_self_eq_true, Nat.ble_eq, Bool.and_true, Bool.true_and, Bool.and_self, Nat.beq_eq_true_eq, List.map_cons, List.map_nil, List.length_cons, List.length_nil, List.set_cons_zero, List.set_cons_succ, List.getElem?_cons_zero, List.getElem?_cons_succ, List.all_cons, List.all_nil, List.drop_succ_cons, List.drop_zero, List.take_succ_cons, List.take_zero, List.take_nil, List.drop_nil, Option.map_some, Option.map_none, Option.some.injEq, exists_eq_left', true_and, and_true, List.replicate_succ, List.replicate_zero, List.flatten_cons, List.flatten_nil, List.append_nil, List.nil_append, List.cons_append, Nat.zero_mul, Int.toNat_natCast, Int.reduceToNat, List.length_map, List.getElem?_map, Nat.zero_add, Nat.add_zero, T3, T5, T9, T21, T24, T29, T37, T43, T44, hb, hdc, d1, d2, d3, w1, w2, w3, w4]); (first | (refine hK _ _ ?_; clear hK K) | (refine ⟨_, _, _, _, (by repeat (first | exact Sp.here | exact Sp.nil | apply Sp.cons | apply Sp.over)), ?_, (by first | exact ⟨rfl, rfl⟩ | exact ⟨rfl, rfl, rfl⟩), ⟨by decide, by decide, ?_⟩, fun g' hg' => hK _ _ ?_⟩ <;> clear hK K) | (intro bq hbq; (try simp only [Heap.blocks, List.map_cons, List.map_nil, List.mem_cons, List.not_mem_nil, or_false, not_or, not_false_eq_true] at hbq); refine hK _ _ ?_; clear hK K) | (refine ⟨?_, hK _ _ ?_⟩ <;> clear hK K; focus (try (first | omega | exact ⟨rfl, by decide⟩ | exact rfl))) | (refine ⟨_, ?_, hK _ _ ?_⟩ <;> clear hK K) | (refine ⟨?_, fun bq hbq => hK _ _ ?_⟩ <;> clear hK K) | skip))
            | (refine VCo.gstep rfl rfl rfl rfl rfl ?_; try simp only [gsplit_true, gsplit_false, sameB, cond_true, cond_false, updO])
            | (refine VCo.nil ?_; simp only [thenQ, blockQ, Nat.reduceBEq, cond_true, cond_false, beq_self_eq_true])
            | refine VC.region ?_
            | refine VC.seq' ?_
            | refine VC.block ?_
            | (refine VC.skip ?_; simp only [thenQ, blockQ, Nat.reduceBEq, cond_true, cond_false, beq_self_eq_true])
            | (refine VC.ret ?_; (try simp only [thenQ, blockQ, Nat.reduceBEq, cond_true, cond_false, beq_self_eq_true]))
            | (refine VC.exit ?_; simp only [thenQ, blockQ, Nat.reduceBEq, cond_true, cond_false, beq_self_eq_true])
            | (refine ret1 T (List.nil_sublist _) ?_; (try simp only [upd, Nat.reduceBEq, cond_true, cond_false, and_true]))
            | (refine VC.cond rfl ?_; (try simp only [hb, hdc, d1, d2, d3, w1, w2, w3, w4, gsplit_true, gsplit_false]))
            | (refine gsplit_intro (fun hc => ?_) (fun hc => ?_) <;> (simp only [gsplit_true, gsplit_false, sameB, cond_true, cond_false, updO]))
          refine ⟨⟨k + 1, by omega, fun x hx => ?_, fun _ => h7⟩, Weak.sub ?_, by simp only []; omega⟩
          · rw [take_snoc hc0, List.mem_append] at hx
            rcases hx with hx | hx
            · exact hdg x hx
            · simp at hx; rw [hx]; exact hc1
          · simp [sub, upd]
        · have d3 : decide ((s.size : Int) > 6) = true := by simp; omega
          repeat' first
            | (refine VCo.step T rfl rfl (fun K hK => ?_); (try simp (disch := omega) only [opC, lookD, cConvS, cRange, cNext, kdElem, numsOf, List.append_eq, evD, constD, updO, upd, argE, kdT, cPick, cBin, cInt, cStr, kTag, cUn, cLoad, fieldAt, cFieldAddr, cField, cIndexAddr, cIndex, cExtract, cNil, cBuild, cAlloc, cBox, cStore, cBuildSlice, cMake, cSlice, cLen, cAppS, cAppend, dC, dV, gsplit_true, gsplit_false, sameB, fillD, cellsD, setL, hget_eq, hget_ne, hset_eq, hset_ne, oneD, Value.oneCell', rowsOf, srcOk, Nat.reduceBEq, Nat.reduceAdd, Nat.reduceMul, Nat.reduceSub, Nat.reduceLeDiff, cond_true, cond_false, beq_self_eq_true, Nat.ble_eq, Bool.and_true, Bool.true_and, Bool.and_self, Nat.beq_eq_true_eq, List.map_cons, List.map_nil, List.length_cons, List.length_nil, List.set_cons_zero, List.set_cons_succ, List.getElem?_cons_zero, List.getElem?_cons_succ, List.all_cons, List.all_nil, List.drop_succ_cons, List.drop_zero, List.take_succ_cons, List.take_zero, List.take_nil, List.drop_nil, Option.map_some, Option.map_none, Option.some.injEq, exists_eq_left', true_and, and_true, List.replicate_succ, List.replicate_zero, List.flatten_cons, List.flatten_nil, List.append_nil, List.nil_append, List.cons_append, Nat.zero_mul, Int.toNat_natCast, Int.reduceToNat, List.length_map, List.getElem?_map, Nat.zero_add, Nat.add_zero, T3, T5, T9, T21, T24, T29, T37, T43, T44, hb, hdc, d1, d2, d3]); (first | (refine hK _ _ ?_; clear hK K) | (refine ⟨_, _, _, _, (by repeat (first | exact Sp.here | exact Sp.nil | apply Sp.cons | apply Sp.over)), ?_, (by first | exact ⟨rfl, rfl⟩ | exact ⟨rfl, rfl, rfl⟩), ⟨by decide, by decide, ?_⟩, fun g' hg' => hK _ _ ?_⟩ <;> clear hK K) | (intro bq hbq; (try simp only [Heap.blocks, List.map_cons, List.map_nil, List.mem_cons, List.not_mem_nil, or_false, not_or, not_false_eq_true] at hbq); refine hK _ _ ?_; clear hK K) | (refine ⟨?_, hK _ _ ?_⟩ <;> clear hK K; focus (try (first | omega | exact ⟨rfl, by decide⟩ | exact rfl))) | (refine ⟨_, ?_, hK _ _ ?_⟩ <;> clear hK K) | (refine ⟨?_, fun bq hbq => hK _ _ ?_⟩ <;> clear hK K) | skip))
            | (refine VCr.step T rfl (fun K hK => ?_); (try simp (disch := omega) only [opC, lookD, cConvS, cRange, cNext, kdElem, numsOf, List.append_eq, evD, constD, updO, upd, argE, kdT, cPick, cBin, cInt, cStr, kTag, cUn, cLoad, fieldAt, cFieldAddr, cField, cIndexAddr, cIndex, cExtract, cNil, cBuild, cAlloc, cBox, cStore, cBuildSlice, cMake, cSlice, cLen, cAppS, cAppend, dC, dV, gsplit_true, gsplit_false, sameB, fillD, cellsD, setL, hget_eq, hget_ne, hset_eq, hset_ne, oneD, Value.oneCell', rowsOf, srcOk, Nat.reduceBEq, Nat.reduceAdd, Nat.reduceMul, Nat.reduceSub, Nat.reduceLeDiff, cond_true, cond_false, beq_self_eq_true, Nat.ble_eq, Bool.and_true, Bool.true_and, Bool.and_self, Nat.beq_eq_true_eq, List.map_cons, List.map_nil, List.length_cons, List.length_nil, List.set_cons_zero, List.set_cons_succ, List.getElem?_cons_zero, List.getElem?_cons_succ, List.all_cons, List.all_nil, List.drop_succ_cons, List.drop_zero, List.take_succ_cons, List.take_zero, List.take_nil, List.drop_nil, Option.map_some, Option.map_none, Option.some.injEq, exists_eq_left', true_and, and_true, List.replicate_succ, List.replicate_zero, List.flatten_cons, List.flatten_nil, List.append_nil, List.nil_append, List.cons_append, Nat.zero_mul, Int.toNat_natCast, Int.reduceToNat, List.length_map, List.getElem?_map, Nat.zero_add, Nat.add_zero, T3, T5, T9, T21, T24, T29, T37, T43, T44, hb, hdc, d1, d2, d3]); (first | (refine hK _ _ ?_; clear hK K) | (refine ⟨_, _, _, _, (by repeat (first | exact Sp.here | exact Sp.nil | apply Sp.cons | apply Sp.over)), ?_, (by first | exact ⟨rfl, rfl⟩ | exact ⟨rfl, rfl, rfl⟩), ⟨by decide, by decide, ?_⟩, fun g' hg' => hK _ _ ?_⟩ <;> clear hK K) | (intro bq hbq; (try simp only [Heap.blocks, List.map_cons, List.map_nil, List.mem_cons, List.not_mem_nil, or_false, not_or, not_false_eq_true] at hbq); refine hK _ _ ?_; clear hK K) | (refine ⟨?_, hK _ _ ?_⟩ <;> clear hK K; focus (try (first | omega | exact ⟨rfl, by decide⟩ | exact rfl))) | (refine ⟨_, ?_, hK _ _ ?_⟩ <;> clear hK K) | (refine ⟨?_, fun bq hbq => hK _ _ ?_⟩ <;> clear hK K) | skip))
            | (refine VCo.gstep rfl rfl rfl rfl rfl ?_; try simp only [gsplit_true, gsplit_false, sameB, cond_true, cond_false, updO])
            | (refine VCo.nil ?_; simp only [thenQ, blockQ, Nat.reduceBEq, cond_true, cond_false, beq_self_eq_true])
            | refine VC.region ?_
            | refine VC.seq' ?_
            | refine VC.block ?_
            | (refine VC.skip ?_; simp only [thenQ, blockQ, Nat.reduceBEq, cond_true, cond_false, beq_self_eq_true])
            | (refine VC.ret ?_; (try simp only [thenQ, blockQ, Nat.reduceBEq, cond_true, cond_false, beq_self_eq_true]))
            | (refine VC.exit ?_; simp only [thenQ, blockQ, Nat.reduceBEq, cond_true, cond_false, beq_self_eq_true])
            | (refine ret1 T (List.nil_sublist _) ?_; (try simp only [upd, Nat.reduceBEq, cond_true, cond_false, and_true]))
            | (refine VC.cond rfl ?_; (try simp only [hb, hdc, d1, d2, d3, gsplit_true, gsplit_false]))
            | (refine gsplit_intro (fun hc => ?_) (fun hc => ?_) <;> (simp only [gsplit_true, gsplit_false, sameB, cond_true, cond_false, updO]))
          have : numberS s = 0 := by
            unfold numberS
            rw [show decide (s.size ≤ 6) = false by simpa using h7, Bool.and_false]
          rw [this]; rfl
      · have hn : numberS s = 0 := by
          unfold numberS
          rw [show s.data.toList.all dig = false by
            rw [Bool.eq_false_iff, Ne, List.all_eq_true]
            exact fun h => hc1 (h c (List.mem_of_getElem? hc0)), Bool.false_and]
        have hd := decode_not hc0 hc1
        rw [hn]
        by_cases hl : (Utf8.decode s k).1 < 48
        · have d1 : decide ((((Utf8.decode s k).1 : Nat) : Int) < 48) = true := by simp; omega
          repeat' first
            | (refine VCo.step T rfl rfl (fun K hK => ?_); (try simp (disch := omega) only [opC, lookD, cConvS, cRange, cNext, kdElem, numsOf, List.append_eq, evD, constD, updO, upd, argE, kdT, cPick, cBin, cInt, cStr, kTag, cUn, cLoad, fieldAt, cFieldAddr, cField, cIndexAddr, cIndex, cExtract, cNil, cBuild, cAlloc, cBox, cStore, cBuildSlice, cMake, cSlice, cLen, cAppS, cAppend, dC, dV, gsplit_true, gsplit_false, sameB, fillD, cellsD, setL, hget_eq, hget_ne, hset_eq, hset_ne, oneD, Value.oneCell', rowsOf, srcOk, Nat.reduceBEq, Nat.reduceAdd, Nat.reduceMul, Nat.reduceSub, Nat.reduceLeDiff, cond_true, cond_false, beq_self_eq_true, Nat.ble_eq, Bool.and_true, Bool.true_and, Bool.and_self, Nat.beq_eq_true_eq, List.map_cons, List.map_nil, List.length_cons, List.length_nil, List.set_cons_zero, List.set_cons_succ, List.getElem?_cons_zero, List.getElem?_cons_succ, List.all_cons, List.all_nil, List.drop_succ_cons, List.drop_zero, List.take_succ_cons, List.take_zero, List.take_nil, List.drop_nil, Option.map_some, Option.map_none, Option.some.injEq, exists_eq_left', true_and, and_true, List.replicate_succ, List.replicate_zero, List.flatten_cons, List.flatten_nil, List.append_nil, List.nil_append, List.cons_append, Nat.zero_mul, Int.toNat_natCast, Int.reduceToNat, List.length_map, List.getElem?_map, Nat.zero_add, Nat.add_zero, T3, T5, T9, T21, T24, T29, T37, T43, T44, hb, d1]); (first | (refine hK _ _ ?_; clear hK K) | (refine ⟨_, _, _, _, (by repeat (first | exact Sp.here | exact Sp.nil | apply Sp.cons | apply Sp.over)), ?_, (by first | exact ⟨rfl, rfl⟩ | exact ⟨rfl, rfl, rfl⟩), ⟨by decide, by decide, ?_⟩, fun g' hg' => hK _ _ ?_⟩ <;> clear hK K) | (intro bq hbq; (try simp only [Heap.blocks, List.map_cons, List.map_nil, List.mem_cons, List.not_mem_nil, or_false, not_or, not_false_eq_true] at hbq); refine hK _ _ ?_; clear hK K) | (refine ⟨?_, hK _ _ ?_⟩ <;> clear hK K; focus (try (first | omega | exact ⟨rfl, by decide⟩ | exact rfl))) | (refine ⟨_, ?_, hK _ _ ?_⟩ <;> clear hK K) | (refine ⟨?_, fun bq hbq => hK _ _ ?_⟩ <;> clear hK K) | skip))
            | (refine VCr.step T rfl (fun K hK => ?_); (try simp (disch := omega) only [opC, lookD, cConvS, cRange, cNext, kdElem, numsOf, List.append_eq, evD, constD, updO, upd, argE, kdT, cPick, cBin, cInt, cStr, kTag, cUn, cLoad, fieldAt, cFieldAddr, cField, cIndexAddr, cIndex, cExtract, cNil, cBuild, cAlloc, cBox, cStore, cBuildSlice, cMake, cSlice, cLen, cAppS, cAppend, dC, dV, gsplit_true, gsplit_false, sameB, fillD, cellsD, setL, hget_eq, hget_ne, hset_eq, hset_ne, oneD, Value.oneCell', rowsOf, srcOk, Nat.reduceBEq, Nat.reduceAdd, Nat.reduceMul, Nat.reduceSub, Nat.reduceLeDiff, cond_true, cond_false, beq_self_eq_true, Nat.ble_eq, Bool.and_true, Bool.true_and, Bool.and_self, Nat.beq_eq_true_eq, List.map_cons, List.map_nil, List.length_cons, List.length_nil, List.set_cons_zero, List.set_cons_succ, List.getElem?_cons_zero, List.getElem?_cons_succ, List.all_cons, List.all_nil, List.drop_succ_cons, List.drop_zero, List.take_succ_cons, List.take_zero, List.take_nil, List.drop_nil, Option.map_some, Option.map_none, Option.some.injEq, exists_eq_left', true_and, and_true, List.replicate_succ, List.replicate_zero, List.flatten_cons, List.flatten_nil, List.append_nil, List.nil_append, List.cons_append, Nat.zero_mul, Int.toNat_natCast, Int.reduceToNat, List.length_map, List.getElem?_map, Nat.zero_add, Nat.add_zero, T3, T5, T9, T21, T24, T29, T37, T43, T44, hb, d1]); (first | (refine hK _ _ ?_; clear hK K) | (refine ⟨_, _, _, _, (by repeat (first | exact Sp.here | exact Sp.nil | apply Sp.cons | apply Sp.over)), ?_, (by first | exact ⟨rfl, rfl⟩ | exact ⟨rfl, rfl, rfl⟩), ⟨by decide, by decide, ?_⟩, fun g' hg' => hK _ _ ?_⟩ <;> clear hK K) | (intro bq hbq; (try simp only [Heap.blocks, List.map_cons, List.map_nil, List.mem_cons, List.not_mem_nil, or_false, not_or, not_false_eq_true] at hbq); refine hK _ _ ?_; clear hK K) | (refine ⟨?_, hK _ _ ?_⟩ <;> clear hK K; focus (try (first | omega | exact ⟨rfl, by decide⟩ | exact rfl))) | (refine ⟨_, ?_, hK _ _ ?_⟩ <;> clear hK K) | (refine ⟨?_, fun bq hbq => hK _ _ ?_⟩ <;> clear hK K) | skip))
            | (refine VCo.gstep rfl rfl rfl rfl rfl ?_; try simp only [gsplit_true, gsplit_false, sameB, cond_true, cond_false, updO])
            | (refine VCo.nil ?_; simp only [thenQ, blockQ, Nat.reduceBEq, cond_true, cond_false, beq_self_eq_true])
            | refine VC.region ?_
            | refine VC.seq' ?_
            | refine VC.block ?_
            | (refine VC.skip ?_; simp only [thenQ, blockQ, Nat.reduceBEq, cond_true, cond_false, beq_self_eq_true])
            | (refine VC.ret ?_; (try simp only [thenQ, blockQ, Nat.reduceBEq, cond_true, cond_false, beq_self_eq_true]))
            | (refine VC.exit ?_; simp only [thenQ, blockQ, Nat.reduceBEq, cond_true, cond_false, beq_self_eq_true])
            | (refine ret1 T (List.nil_sublist _) ?_; (try simp only [upd, Nat.reduceBEq, cond_true, cond_false, and_true]))
            | (refine VC.cond rfl ?_; (try simp only [hb, d1, gsplit_true, gsplit_false]))
            | (refine gsplit_intro (fun hc => ?_) (fun hc => ?_) <;> (simp only [gsplit_true, gsplit_false, sameB, cond_true, cond_false, updO]))
          rfl
        · have d1 : decide ((((Utf8.decode s k).1 : Nat) : Int) < 48) = false := by simp; omega
          have d2 : decide ((((Utf8.decode s k).1 : Nat) : Int) > 57) = true := by simp; omega
          repeat' first
            | (refine VCo.step T rfl rfl (fun K hK => ?_); (try simp (disch := omega) only [opC, lookD, cConvS, cRange, cNext, kdElem, numsOf, List.append_eq, evD, constD, updO, upd, argE, kdT, cPick, cBin, cInt, cStr, kTag, cUn, cLoad, fieldAt, cFieldAddr, cField, cIndexAddr, cIndex, cExtract, cNil, cBuild, cAlloc, cBox, cStore, cBuildSlice, cMake, cSlice, cLen, cAppS, cAppend, dC, dV, gsplit_true, gsplit_false, sameB, fillD, cellsD, setL, hget_eq, hget_ne, hset_eq, hset_ne, oneD, Value.oneCell', rowsOf, srcOk, Nat.reduceBEq, Nat.reduceAdd, Nat.reduceMul, Nat.reduceSub, Nat.reduceLeDiff, cond_true, cond_false, beq_self_eq_true, Nat.ble_eq, Bool.and_true, Bool.true_and, Bool.and_self, Nat.beq_eq_true_eq, List.map_cons, List.map_nil, List.length_cons, List.length_nil, List.set_cons_zero, List.set_cons_succ, List.getElem?_cons_zero, List.getElem?_cons_succ, List.all_cons, List.all_nil, List.drop_succ_cons, List.drop_zero, List.take_succ_cons, List.take_zero, List.take_nil, List.drop_nil, Option.map_some, Option.map_none, Option.some.injEq, exists_eq_left', true_and, and_true, List.replicate_succ, List.replicate_zero, List.flatten_cons, List.flatten_nil, List.append_nil, List.nil_append, List.cons_append, Nat.zero_mul, Int.toNat_natCast, Int.reduceToNat, List.length_map, List.getElem?_map, Nat.zero_add, Nat.add_zero, T3, T5, T9, T21, T24, T29, T37, T43, T44, hb, d1, d2]); (first | (refine hK _ _ ?_; clear hK K) | (refine ⟨_, _, _, _, (by repeat (first | exact Sp.here | exact Sp.nil | apply Sp.cons | apply Sp.over)), ?_, (by first | exact ⟨rfl, rfl⟩ | exact ⟨rfl, rfl, rfl⟩), ⟨by decide, by decide, ?_⟩, fun g' hg' => hK _ _ ?_⟩ <;> clear hK K) | (intro bq hbq; (try simp only [Heap.blocks, List.map_cons, List.map_nil, List.mem_cons, List.not_mem_nil, or_false, not_or, not_false_eq_true] at hbq); refine hK _ _ ?_; clear hK K) | (refine ⟨?_, hK _ _ ?_⟩ <;> clear hK K; focus (try (first | omega | exact ⟨rfl, by decide⟩ | exact rfl))) | (refine ⟨_, ?_, hK _ _ ?_⟩ <;> clear hK K) | (refine ⟨?_, fun bq hbq => hK _ _ ?_⟩ <;> clear hK K) | skip))
            | (refine VCr.step T rfl (fun K hK => ?_); (try simp (disch := omega) only [opC, lookD, cConvS, cRange, cNext, kdElem, numsOf, List.append_eq, evD, constD, updO, upd, argE, kdT, cPick, cBin, cInt, cStr, kTag, cUn, cLoad, fieldAt, cFieldAddr, cField, cIndexAddr, cIndex, cExtract, cNil, cBuild, cAlloc, cBox, cStore, cBuildSlice, cMake, cSlice, cLen, cAppS, cAppend, dC, dV, gsplit_true, gsplit_false, sameB, fillD, cellsD, setL, hget_eq, hget_ne, hset_eq, hset_ne, oneD, Value.oneCell', rowsOf, srcOk, Nat.reduceBEq, Nat.reduceAdd, Nat.reduceMul, Nat.reduceSub, Nat.reduceLeDiff, cond_true, cond_false, beq_self_eq_true, Nat.ble_eq, Bool.and_true, Bool.true_and, Bool.and_self, Nat.beq_eq_true_eq, List.map_cons, List.map_nil, List.length_cons, List.length_nil, List.set_cons_zero, List.set_cons_succ, List.getElem?_cons_zero, List.getElem?_cons_succ, List.all_cons, List.all_nil, List.drop_succ_cons, List.drop_zero, List.take_succ_cons, List.take_zero, List.take_nil, List.drop_nil, Option.map_some, Option.map_none, Option.some.injEq, exists_eq_left', true_and, and_true, List.replicate_succ, List.replicate_zero, List.flatten_cons, List.flatten_nil, List.append_nil, List.nil_append, List.cons_append, Nat.zero_mul, Int.toNat_natCast, Int.reduceToNat, List.length_map, List.getElem?_map, Nat.zero_add, Nat.add_zero, T3, T5, T9, T21, T24, T29, T37, T43, T44, hb, d1, d2]); (first | (refine hK _ _ ?_; clear hK K) | (refine ⟨_, _, _, _, (by repeat (first | exact Sp.here | exact Sp.nil | apply Sp.cons | apply Sp.over)), ?_, (by first | exact ⟨rfl, rfl⟩ | exact ⟨rfl, rfl, rfl⟩), ⟨by decide, by decide, ?_⟩, fun g' hg' => hK _ _ ?_⟩ <;> clear hK K) | (intro bq hbq; (try simp only [Heap.blocks, List.map_cons, List.map_nil, List.mem_cons, List.not_mem_nil, or_false, not_or, not_false_eq_true] at hbq); refine hK _ _ ?_; clear hK K) | (refine ⟨?_, hK _ _ ?_⟩ <;> clear hK K; focus (try (first | omega | exact ⟨rfl, by decide⟩ | exact rfl))) | (refine ⟨_, ?_, hK _ _ ?_⟩ <;> clear hK K) | (refine ⟨?_, fun bq hbq => hK _ _ ?_⟩ <;> clear hK K) | skip))
            | (refine VCo.gstep rfl rfl rfl rfl rfl ?_; try simp only [gsplit_true, gsplit_false, sameB, cond_true, cond_false, updO])
            | (refine VCo.nil ?_; simp only [thenQ, blockQ, Nat.reduceBEq, cond_true, cond_false, beq_self_eq_true])
            | refine VC.region ?_
            | refine VC.seq' ?_
            | refine VC.block ?_
            | (refine VC.skip ?_; simp only [thenQ, blockQ, Nat.reduceBEq, cond_true, cond_false, beq_self_eq_true])
            | (refine VC.ret ?_; (try simp only [thenQ, blockQ, Nat.reduceBEq, cond_true, cond_false, beq_self_eq_true]))
            | (refine VC.exit ?_; simp only [thenQ, blockQ, Nat.reduceBEq, cond_true, cond_false, beq_self_eq_true])
            | (refine ret1 T (List.nil_sublist _) ?_; (try simp only [upd, Nat.reduceBEq, cond_true, cond_false, and_true]))
            | (refine VC.cond rfl ?_; (try simp only [hb, d1, d2, gsplit_true, gsplit_false]))
            | (refine gsplit_intro (fun hc => ?_) (fun hc => ?_) <;> (simp only [gsplit_true, gsplit_false, sameB, cond_true, cond_false, updO]))
          rfl
    · have hb : Nat.blt k s.size = false := by rw [Bool.eq_false_iff]; simp; omega
      obtain rfl : k = s.size := by omega
      have ht : s.data.toList.take s.size = s.data.toList := List.take_of_length_le (by omega)
      rw [ht] at hdg ⊢
      have h7 : s.size ≤ 6 := by omega
      have hv := valL_lt _ hdg (by omega)
      have hall : s.data.toList.all dig = true := by rw [List.all_eq_true]; exact hdg
      have h7' : decide (s.size ≤ 6) = true := by simpa using h7
      by_cases he : dec6 (valL s.data.toList : Nat) = s
      · have he' : decide (dec6 (valL s.data.toList : Nat) = s) = true := by simpa using he
        have hn : numberS s = valL s.data.toList := by unfold numberS; rw [hall, h7']; simp only [Bool.and_self]; rw [he']
        rw [hn]
        repeat' first
          | (refine VCo.step T rfl rfl (fun K hK => ?_); (try simp (disch := omega) only [opC, lookD, cConvS, cRange, cNext, kdElem, numsOf, List.append_eq, evD, constD, updO, upd, argE, kdT, cPick, cBin, cInt, cStr, kTag, cUn, cLoad, fieldAt, cFieldAddr, cField, cIndexAddr, cIndex, cExtract, cNil, cBuild, cAlloc, cBox, cStore, cBuildSlice, cMake, cSlice, cLen, cAppS, cAppend, dC, dV, gsplit_true, gsplit_false, sameB, fillD, cellsD, setL, hget_eq, hget_ne, hset_eq, hset_ne, oneD, Value.oneCell', rowsOf, srcOk, Nat.reduceBEq, Nat.reduceAdd, Nat.reduceMul, Nat.reduceSub, Nat.reduceLeDiff, cond_true, cond_false, beq_self_eq_true, Nat.ble_eq, Bool.and_true, Bool.true_and, Bool.and_self, Nat.beq_eq_true_eq, List.map_cons, List.map_nil, List.length_cons, List.length_nil, List.set_cons_zero, List.set_cons_succ, List.getElem?_cons_zero, List.getElem?_cons_succ, List.all_cons, List.all_nil, List.drop_succ_cons, List.drop_zero, List.take_succ_cons, List.take_zero, List.take_nil, List.drop_nil, Option.map_some, Option.map_none, Option.some.injEq, exists_eq_left', true_and, and_true, List.replicate_succ, List.replicate_zero, List.flatten_cons, List.flatten_nil, List.append_nil, List.nil_append, List.cons_append, Nat.zero_mul, Int.toNat_natCast, Int.reduceToNat, List.length_map, List.getElem?_map, Nat.zero_add, Nat.add_zero, T3, T5, T9, T21, T24, T29, T37, T43, T44, hb, he', Bool.not_true]); (first | (refine hK _ _ ?_; clear hK K) | (refine ⟨_, _, _, _, (by repeat (first | exact Sp.here | exact Sp.nil | apply Sp.cons | apply Sp.over)), ?_, (by first | exact ⟨rfl, rfl⟩ | exact ⟨rfl, rfl, rfl⟩), ⟨by decide, by decide, ?_⟩, fun g' hg' => hK _ _ ?_⟩ <;> clear hK K) | (intro bq hbq; (try simp only [Heap.blocks, List.map_cons, List.map_nil, List.mem_cons, List.not_mem_nil, or_false, not_or, not_false_eq_true] at hbq); refine hK _ _ ?_; clear hK K) | (refine ⟨?_, hK _ _ ?_⟩ <;> clear hK K; focus (try (first | omega | exact ⟨rfl, by decide⟩ | exact rfl))) | (refine ⟨_, ?_, hK _ _ ?_⟩ <;> clear hK K) | (refine ⟨?_, fun bq hbq => hK _ _ ?_⟩ <;> clear hK K) | (refine Op1.callp rfl rfl (decimal6_ok _ (by omega)) rfl ?_; refine hK _ _ ?_; clear hK K) | skip))
          | (refine VCr.step T rfl (fun K hK => ?_); (try simp (disch := omega) only [opC, lookD, cConvS, cRange, cNext, kdElem, numsOf, List.append_eq, evD, constD, updO, upd, argE, kdT, cPick, cBin, cInt, cStr, kTag, cUn, cLoad, fieldAt, cFieldAddr, cField, cIndexAddr, cIndex, cExtract, cNil, cBuild, cAlloc, cBox, cStore, cBuildSlice, cMake, cSlice, cLen, cAppS, cAppend, dC, dV, gsplit_true, gsplit_false, sameB, fillD, cellsD, setL, hget_eq, hget_ne, hset_eq, hset_ne, oneD, Value.oneCell', rowsOf, srcOk, Nat.reduceBEq, Nat.reduceAdd, Nat.reduceMul, Nat.reduceSub, Nat.reduceLeDiff, cond_true, cond_false, beq_self_eq_true, Nat.ble_eq, Bool.and_true, Bool.true_and, Bool.and_self, Nat.beq_eq_true_eq, List.map_cons, List.map_nil, List.length_cons, List.length_nil, List.set_cons_zero, List.set_cons_succ, List.getElem?_cons_zero, List.getElem?_cons_succ, List.all_cons, List.all_nil, List.drop_succ_cons, List.drop_zero, List.take_succ_cons, List.take_zero, List.take_nil, List.drop_nil, Option.map_some, Option.map_none, Option.some.injEq, exists_eq_left', true_and, and_true, List.replicate_succ, List.replicate_zero, List.flatten_cons, List.flatten_nil, List.append_nil, List.nil_append, List.cons_append, Nat.zero_mul, Int.toNat_natCast, Int.reduceToNat, List.length_map, List.getElem?_map, Nat.zero_add, Nat.add_zero, T3, T5, T9, T21, T24, T29, T37, T43, T44, hb, he', Bool.not_true]); (first | (refine hK _ _ ?_; clear hK K) | (refine ⟨_, _, _, _, (by repeat (first | exact Sp.here | exact Sp.nil | apply Sp.cons | apply Sp.over)), ?_, (by first | exact ⟨rfl, rfl⟩ | exact ⟨rfl, rfl, rfl⟩), ⟨by decide, by decide, ?_⟩, fun g' hg' => hK _ _ ?_⟩ <;> clear hK K) | (intro bq hbq; (try simp only [Heap.blocks, List.map_cons, List.map_nil, List.mem_cons, List.not_mem_nil, or_false, not_or, not_false_eq_true] at hbq); refine hK _ _ ?_; clear hK K) | (refine ⟨?_, hK _ _ ?_⟩ <;> clear hK K; focus (try (first | omega | exact ⟨rfl, by decide⟩ | exact rfl))) | (refine ⟨_, ?_, hK _ _ ?_⟩ <;> clear hK K) | (refine ⟨?_, fun bq hbq => hK _ _ ?_⟩ <;> clear hK K) | (refine Op1.callp rfl rfl (decimal6_ok _ (by omega)) rfl ?_; refine hK _ _ ?_; clear hK K) | skip))
          | (refine VCo.gstep rfl rfl rfl rfl rfl ?_; try simp only [gsplit_true, gsplit_false, sameB, cond_true, cond_false, updO])
          | (refine VCo.nil ?_; simp only [thenQ, blockQ, Nat.reduceBEq, cond_true, cond_false, beq_self_eq_true])
          | refine VC.region ?_
          | refine VC.seq' ?_
          | refine VC.block ?_
          | (refine VC.skip ?_; simp only [thenQ, blockQ, Nat.reduceBEq, cond_true, cond_false, beq_self_eq_true])
          | (refine VC.ret ?_; (try simp only [thenQ, blockQ, Nat.reduceBEq, cond_true, cond_false, beq_self_eq_true]))
          | (refine VC.exit ?_; simp only [thenQ, blockQ, Nat.reduceBEq, cond_true, cond_false, beq_self_eq_true])
          | (refine ret1 T (List.nil_sublist _) ?_; (try simp only [upd, Nat.reduceBEq, cond_true, cond_false, and_true]))
          | (refine VC.cond rfl ?_; (try simp only [hb, he', Bool.not_true, gsplit_true, gsplit_false]))
          | (refine gsplit_intro (fun hc => ?_) (fun hc => ?_) <;> (simp only [gsplit_true, gsplit_false, sameB, cond_true, cond_false, updO]))
        all_goals rfl
      · have he' : decide (dec6 (valL s.data.toList : Nat) = s) = false := by simpa using he
        have hn : numberS s = 0 := by unfold numberS; rw [hall, h7']; simp only [Bool.and_self]; rw [he']
        rw [hn]
        repeat' first
          | (refine VCo.step T rfl rfl (fun K hK => ?_); (try simp (disch := omega) only [opC, lookD, cConvS, cRange, cNext, kdElem, numsOf, List.append_eq, evD, constD, updO, upd, argE, kdT, cPick, cBin, cInt, cStr, kTag, cUn, cLoad, fieldAt, cFieldAddr, cField, cIndexAddr, cIndex, cExtract, cNil, cBuild, cAlloc, cBox, cStore, cBuildSlice, cMake, cSlice, cLen, cAppS, cAppend, dC, dV, gsplit_true, gsplit_false, sameB, fillD, cellsD, setL, hget_eq, hget_ne, hset_eq, hset_ne, oneD, Value.oneCell', rowsOf, srcOk, Nat.reduceBEq, Nat.reduceAdd, Nat.reduceMul, Nat.reduceSub, Nat.reduceLeDiff, cond_true, cond_false, beq_self_eq_true, Nat.ble_eq, Bool.and_true, Bool.true_and, Bool.and_self, Nat.beq_eq_true_eq, List.map_cons, List.map_nil, List.length_cons, List.length_nil, List.set_cons_zero, List.set_cons_succ, List.getElem?_cons_zero, List.getElem?_cons_succ, List.all_cons, List.all_nil, List.drop_succ_cons, List.drop_zero, List.take_succ_cons, List.take_zero, List.take_nil, List.drop_nil, Option.map_some, Option.map_none, Option.some.injEq, exists_eq_left', true_and, and_true, List.replicate_succ, List.replicate_zero, List.flatten_cons, List.flatten_nil, List.append_nil, List.nil_append, List.cons_append, Nat.zero_mul, Int.toNat_natCast, Int.reduceToNat, List.length_map, List.getElem?_map, Nat.zero_add, Nat.add_zero, T3, T5, T9, T21, T24, T29, T37, T43, T44, hb, he', Bool.not_false]); (first | (refine hK _ _ ?_; clear hK K) | (refine ⟨_, _, _, _, (by repeat (first | exact Sp.here | exact Sp.nil | apply Sp.cons | apply Sp.over)), ?_, (by first | exact ⟨rfl, rfl⟩ | exact ⟨rfl, rfl, rfl⟩), ⟨by decide, by decide, ?_⟩, fun g' hg' => hK _ _ ?_⟩ <;> clear hK K) | (intro bq hbq; (try simp only [Heap.blocks, List.map_cons, List.map_nil, List.mem_cons, List.not_mem_nil, or_false, not_or, not_false_eq_true] at hbq); refine hK _ _ ?_; clear hK K) | (refine ⟨?_, hK _ _ ?_⟩ <;> clear hK K; focus (try (first | omega | exact ⟨rfl, by decide⟩ | exact rfl))) | (refine ⟨_, ?_, hK _ _ ?_⟩ <;> clear hK K) | (refine ⟨?_, fun bq hbq => hK _ _ ?_⟩ <;> clear hK K) | (refine Op1.callp rfl rfl (decimal6_ok _ (by omega)) rfl ?_; refine hK _ _ ?_; clear hK K) | skip))
          | (refine VCr.step T rfl (fun K hK => ?_); (try simp (disch := omega) only [opC, lookD, cConvS, cRange, cNext, kdElem, numsOf, List.append_eq, evD, constD, updO, upd, argE, kdT, cPick, cBin, cInt, cStr, kTag, cUn, cLoad, fieldAt, cFieldAddr, cField, cIndexAddr, cIndex, cExtract, cNil, cBuild, cAlloc, cBox, cStore, cBuildSlice, cMake, cSlice, cLen, cAppS, cAppend, dC, dV, gsplit_true, gsplit_false, sameB, fillD, cellsD, setL, hget_eq, hget_ne, hset_eq, hset_ne, oneD, Value.oneCell', rowsOf, srcOk, Nat.reduceBEq, Nat.reduceAdd, Nat.reduceMul, Nat.reduceSub, Nat.reduceLeDiff, cond_true, cond_false, beq_self_eq_true, Nat.ble_eq, Bool.and_true, Bool.true_and, Bool.and_self, Nat.beq_eq_true_eq, List.map_cons, List.map_nil, List.length_cons, List.length_nil, List.set_cons_zero, List.set_cons_succ, List.getElem?_cons_zero, List.getElem?_cons_succ, List.all_cons, List.all_nil, List.drop_succ_cons, List.drop_zero, List.take_succ_cons, List.take_zero, List.take_nil, List.drop_nil, Option.map_some, Option.map_none, Option.some.injEq, exists_eq_left', true_and, and_true, List.replicate_succ, List.replicate_zero, List.flatten_cons, List.flatten_nil, List.append_nil, List.nil_append, List.cons_append, Nat.zero_mul, Int.toNat_natCast, Int.reduceToNat, List.length_map, List.getElem?_map, Nat.zero_add, Nat.add_zero, T3, T5, T9, T21, T24, T29, T37, T43, T44, hb, he', Bool.not_false]); (first | (refine hK _ _ ?_; clear hK K) | (refine ⟨_, _, _, _, (by repeat (first | exact Sp.here | exact Sp.nil | apply Sp.cons | apply Sp.over)), ?_, (by first | exact ⟨rfl, rfl⟩ | exact ⟨rfl, rfl, rfl⟩), ⟨by decide, by decide, ?_⟩, fun g' hg' => hK _ _ ?_⟩ <;> clear hK K) | (intro bq hbq; (try simp only [Heap.blocks, List.map_cons, List.map_nil, List.mem_cons, List.not_mem_nil, or_false, not_or, not_false_eq_true] at hbq); refine hK _ _ ?_; clear hK K) | (refine ⟨?_, hK _ _ ?_⟩ <;> clear hK K; focus (try (first | omega | exact ⟨rfl, by decide⟩ | exact rfl))) | (refine ⟨_, ?_, hK _ _ ?_⟩ <;> clear hK K) | (refine ⟨?_, fun bq hbq => hK _ _ ?_⟩ <;> clear hK K) | (refine Op1.callp rfl rfl (decimal6_ok _ (by omega)) rfl ?_; refine hK _ _ ?_; clear hK K) | skip))
          | (refine VCo.gstep rfl rfl rfl rfl rfl ?_; try simp only [gsplit_true, gsplit_false, sameB, cond_true, cond_false, updO])
          | (refine VCo.nil ?_; simp only [thenQ, blockQ, Nat.reduceBEq, cond_true, cond_false, beq_self_eq_true])
          | refine VC.region ?_
          | refine VC.seq' ?_
          | refine VC.block ?_
          | (refine VC.skip ?_; simp only [thenQ, blockQ, Nat.reduceBEq, cond_true, cond_false, beq_self_eq_true])
          | (refine VC.ret ?_; (try simp only [thenQ, blockQ, Nat.reduceBEq, cond_true, cond_false, beq_self_eq_true]))
          | (refine VC.exit ?_; simp only [thenQ, blockQ, Nat.reduceBEq, cond_true, cond_false, beq_self_eq_true])
          | (refine ret1 T (List.nil_sublist _) ?_; (try simp only [upd, Nat.reduceBEq, cond_true, cond_false, and_true]))
          | (refine VC.cond rfl ?_; (try simp only [hb, he', Bool.not_false, gsplit_true, gsplit_false]))
          | (refine gsplit_intro (fun hc => ?_) (fun hc => ?_) <;> (simp only [gsplit_true, gsplit_false, sameB, cond_true, cond_false, updO]))
        all_goals rfl

/-! ### The numbers at a text's end -/

/-- How many letters at the end are digits. -/
def tailN (l : List UInt8) : Nat := (l.reverse.takeWhile dig).length
/-- The number at a text's end, if it has at most six digits. -/
def lastS (s : ByteArray) : Nat := match decide (tailN s.data.toList ≤ 6) with
  | true => valL (s.data.toList.drop (s.size - tailN s.data.toList))
  | false => 0

theorem tailN_le (l : List UInt8) : tailN l ≤ l.length := by
  unfold tailN
  have := List.takeWhile_prefix (l := l.reverse) dig
  have := this.length_le
  simpa using this
theorem drop_tail (l : List UInt8) (c : UInt8) (k : Nat) (hk : k ≤ tailN l) (h0 : 0 < k) (hc : l[l.length - k]? = some c) : dig c = true := by
  have hle := tailN_le l
  have h1 : (l.reverse.takeWhile dig)[k - 1]? = some c := by
    have hp := List.takeWhile_prefix (l := l.reverse) dig
    obtain ⟨r, hr⟩ := hp
    have h2 : l.reverse[k - 1]? = some c := by
      rw [List.getElem?_reverse (by omega)]
      rw [show l.length - 1 - (k - 1) = l.length - k by omega]; exact hc
    rw [← hr, List.getElem?_append_left (by unfold tailN at hk; omega)] at h2
    exact h2
  have := List.mem_of_getElem? h1
  exact List.all_takeWhile |> fun h => (List.all_eq_true.1 h) c this
theorem tail_stop (l : List UInt8) (c : UInt8) (hc : l[l.length - (tailN l + 1)]? = some c) (hlt : tailN l < l.length) : dig c = false := by
  have h2 : l.reverse[tailN l]? = some c := by
    rw [List.getElem?_reverse (by omega)]
    rw [show l.length - 1 - tailN l = l.length - (tailN l + 1) by omega]; exact hc
  have key : ∀ (m : List UInt8) (c : UInt8), m[(m.takeWhile dig).length]? = some c → dig c = false := by
    intro m
    induction m with
    | nil => intro c h; simp at h
    | cons x m ih =>
      intro c h
      by_cases hx : dig x = true
      · rw [List.takeWhile_cons_of_pos hx, List.length_cons, List.getElem?_cons_succ] at h
        exact ih c h
      · rw [List.takeWhile_cons_of_neg hx] at h
        simp at h
        rw [← h]; simpa using hx
  exact key _ c h2
end Go.Proofs.Ytfldmapafdgpaaa
