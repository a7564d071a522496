/- Contracts: numbers in digits. No condition. -/
import Derived.Test.YtomcmfbpmkklmaaGreatWb
import Derived.Test.YtomcmfbpmkklmaaGreatWa
import Derived.Test.YtomcmfbpmkklmaaGreatXe
namespace Go.Proofs.YtomcmfbpmkklmaaGreat
set_option linter.unusedSimpArgs false
set_option linter.unusedVariables false
open Go Go.Proofs Go.Vc
attribute [local irreducible] retQ VCg VCw VCx
def decF : Nat → Nat → List UInt8
 | 0, n => [UInt8.ofNat (48 + n % 10)]
 | k + 1, n => if n < 10 then [UInt8.ofNat (48 + n)] else decF k (n / 10) ++ [UInt8.ofNat (48 + n % 10)]
theorem decF_small (k n : Nat) (h : n < 10) : decF k n = [UInt8.ofNat (48 + n)] := by
 cases k with
 | zero => rw [decF, Nat.mod_eq_of_lt h]
 | succ k => rw [decF, if_pos h]
theorem decF_step (k n : Nat) (h : ¬ n < 10) : decF (k + 1) n = decF k (n / 10) ++ [UInt8.ofNat (48 + n % 10)] := by rw [decF, if_neg h]
theorem bytes_append (a b : List UInt8) : (⟨a.toArray⟩ : ByteArray) ++ ⟨b.toArray⟩ = ⟨(a ++ b).toArray⟩ := by
 apply ByteArray.ext
 simp
theorem decF_len : ∀ k n, (decF k n).length ≤ k + 1
 | 0, n => by simp [decF]
 | k + 1, n => by
  rw [decF]
  split
  ·simp
  ·have := decF_len k (n / 10)
   simp; omega
theorem u8_digit {n : Int} (h0 : 0 ≤ n) (h : n < 10) : bytesS [IntKind.u8.wrap (IntKind.i64.wrap (48 + n))] = ⟨[UInt8.ofNat (48 + n.toNat)].toArray⟩ := by
 rw [w64 (by omega), wu8 (by omega), bytesS_one]
 congr 4
 omega
theorem digits_ok : ∀ (k : Nat) (n : Int), 0 ≤ n → n < 10 ^ (k + 1) → k ≤ 17 → Pure Tryz.prog 119 [iD n] (sD ⟨(decF k n.toNat).toArray⟩) := by
 intro k
 induction k with
 | zero =>
  intro n h0 h1 _
  refine Fun.of T [.tmp 2] Tryz.func119 rfl Tryz.ntmps119 Tryz.results119 rfl (by kernel_rfl) ?_
  repeat' first
   | (refine dr (id := 3) T 9 (by kernel_rfl) ?_)
   | (refine gn ?_)
   | (refine VCg.nil T ?_; simp only [allK, WB, Nat.reduceAdd]; try (refine fun (bq : Nat) hbq => ?_; (try simp only [HB] at hbq)))
   | (apply VCg.step T rfl rfl; focus ((try simp (disch := omega) only [go_sem, Nat.reduceBEq, Nat.reduceAdd, Nat.reduceMul, Nat.reduceSub, Nat.reduceLeDiff, Int.reduceToNat]); (first | exact rfl | exact ⟨rfl, rfl⟩ | (refine ⟨?_, rfl⟩; try (first | omega | exact ⟨rfl, by decide⟩ | exact rfl)))))
   | (refine vs T rfl fun K hK => ?_; (try simp (disch := omega) only [go_sem, Nat.reduceBEq, Nat.reduceAdd, Nat.reduceMul, Nat.reduceSub, Nat.reduceLeDiff, Int.reduceToNat]); (first | (refine hK _ _ ?_; clear hK K) | (refine ⟨?_, hK _ _ ?_⟩ <;> clear hK K; focus (try (first | omega | exact ⟨rfl, by decide⟩ | exact rfl))) | (refine ⟨_, ?_, hK _ _ ?_⟩ <;> clear hK K) | skip))
   | (refine st rfl ?_)
   | (refine sc rfl ?_)
   | (refine nl ?_)
   | (refine ov ?_)
   | (exact ret1 T (List.nil_sublist _) rfl)
   | (exact ret1 T (List.nil_sublist _) ⟨rfl, rfl⟩)
   | (refine ret1 T (List.nil_sublist _) ?_; (try simp only [upd, Nat.reduceBEq, cond_true, cond_false, and_true]))
   | (with_reducible refine gt ?_ ?_; focus (simp (disch := omega) only [go_sem, Nat.reduceBEq, Nat.reduceAdd, Nat.reduceMul, Nat.reduceSub, Nat.reduceLeDiff, Int.reduceToNat]; done))
   | (with_reducible refine gf ?_ ?_; focus (simp (disch := omega) only [go_sem, Nat.reduceBEq, Nat.reduceAdd, Nat.reduceMul, Nat.reduceSub, Nat.reduceLeDiff, Int.reduceToNat]; done))
   | (with_reducible refine gsplit_intro (fun hc => ?_) (fun hc => ?_))
  ·rw [u8_digit h0 (by omega), decF_small _ _ (by omega)]
  ·simp at hc; omega
 | succ k ih =>
  intro n h0 h1 hk
  have hb : n ≤ 1000000000000000000 := by
   have h2 : (10 : Nat) ^ (k + 1 + 1) ≤ 10 ^ 18 := Nat.pow_le_pow_right (by omega) (by omega)
   have h3 : ((10 ^ (k + 1 + 1) : Nat) : Int) ≤ ((10 ^ 18 : Nat) : Int) := by exact_mod_cast h2
   simp only [Int.natCast_pow] at h3
   have h4 : n < ((10 : Nat) : Int) ^ (k + 1 + 1) := h1
   have : (((10 : Nat) : Int) ^ 18) = 1000000000000000000 := by decide
   omega
  have hd : n / 10 < 10 ^ (k + 1) := by
   have : (10 : Int) ^ (k + 1 + 1) = 10 ^ (k + 1) * 10 := Int.pow_succ ..
   omega
  have hq := quo64 (n := n) (k := 10) h0 (by omega) (by omega)
  have hr := rem_pos (n := n) (k := 10) h0
  have hl := decF_len k (n / 10).toNat
  have hm : 0 ≤ n % 10 ∧ n % 10 < 10 := by omega
  have hg := u8_digit hm.1 hm.2
  clear h1
  refine Fun.of T [.tmp 2] Tryz.func119 rfl Tryz.ntmps119 Tryz.results119 rfl (by kernel_rfl) ?_
  repeat' first
   | (refine dr (id := 3) T 9 (by kernel_rfl) ?_)
   | (refine gn ?_)
   | (refine VCg.nil T ?_; simp only [allK, WB, Nat.reduceAdd]; try (refine fun (bq : Nat) hbq => ?_; (try simp only [HB] at hbq)))
   | (apply VCg.step T rfl rfl; focus ((try simp (disch := omega) only [go_sem, Nat.reduceBEq, Nat.reduceAdd, Nat.reduceMul, Nat.reduceSub, Nat.reduceLeDiff, Int.reduceToNat, hq, hr, hg]); (first | exact rfl | exact ⟨rfl, rfl⟩ | (refine ⟨?_, rfl⟩; try (first | omega | exact ⟨rfl, by decide⟩ | exact rfl)) | (refine Op1.callp rfl rfl (ih _ (by omega) (by omega) (by omega)) rfl ?_; exact ⟨rfl, rfl⟩))))
   | (refine vs T rfl fun K hK => ?_; (try simp (disch := omega) only [go_sem, Nat.reduceBEq, Nat.reduceAdd, Nat.reduceMul, Nat.reduceSub, Nat.reduceLeDiff, Int.reduceToNat, hq, hr, hg]); (first | (refine hK _ _ ?_; clear hK K) | (refine ⟨?_, hK _ _ ?_⟩ <;> clear hK K; focus (try (first | omega | exact ⟨rfl, by decide⟩ | exact rfl))) | (refine ⟨_, ?_, hK _ _ ?_⟩ <;> clear hK K) | (refine Op1.callp rfl rfl (ih _ (by omega) (by omega) (by omega)) rfl ?_; refine hK _ _ ?_; clear hK K) | skip))
   | (refine st rfl ?_)
   | (refine sc rfl ?_)
   | (refine nl ?_)
   | (refine ov ?_)
   | (exact ret1 T (List.nil_sublist _) rfl)
   | (exact ret1 T (List.nil_sublist _) ⟨rfl, rfl⟩)
   | (refine ret1 T (List.nil_sublist _) ?_; (try simp only [upd, Nat.reduceBEq, cond_true, cond_false, and_true, hq, hr, hg]))
   | (with_reducible refine gt ?_ ?_; focus (simp (disch := omega) only [go_sem, Nat.reduceBEq, Nat.reduceAdd, Nat.reduceMul, Nat.reduceSub, Nat.reduceLeDiff, Int.reduceToNat, hq, hr, hg]; done))
   | (with_reducible refine gf ?_ ?_; focus (simp (disch := omega) only [go_sem, Nat.reduceBEq, Nat.reduceAdd, Nat.reduceMul, Nat.reduceSub, Nat.reduceLeDiff, Int.reduceToNat, hq, hr, hg]; done))
   | (with_reducible refine gsplit_intro (fun hc => ?_) (fun hc => ?_))
  ·have hn : n < 10 := by simpa using hc
   rw [u8_digit h0 hn, decF_small _ _ (by omega)]
  ·simp [ByteArray.size]; omega
  ·have hn : ¬ n < 10 := by simpa using hc
   rw [show (⟨#[UInt8.ofNat (48 + (n % 10).toNat)]⟩ : ByteArray) = ⟨[UInt8.ofNat (48 + (n % 10).toNat)].toArray⟩ from rfl, bytes_append, decF_step _ _ (by omega)]
   rw [show (n / 10).toNat = n.toNat / 10 by omega, show (n % 10).toNat = n.toNat % 10 by omega]
theorem decimalM_ok : ∀ (k : Nat) (n : Int), 0 ≤ n → n < 10 ^ (k + 1) → k ≤ 17 → Pure Tryz.prog 212 [iD n] (sD ⟨(decF k n.toNat).toArray⟩) := by
 intro k
 induction k with
 | zero =>
  intro n h0 h1 _
  refine Fun.of T [.tmp 2] Tryz.func212 rfl Tryz.ntmps212 Tryz.results212 rfl (by kernel_rfl) ?_
  repeat' first
   | (refine dr (id := 3) T 9 (by kernel_rfl) ?_)
   | (refine gn ?_)
   | (refine VCg.nil T ?_; simp only [allK, WB, Nat.reduceAdd]; try (refine fun (bq : Nat) hbq => ?_; (try simp only [HB] at hbq)))
   | (apply VCg.step T rfl rfl; focus ((try simp (disch := omega) only [go_sem, Nat.reduceBEq, Nat.reduceAdd, Nat.reduceMul, Nat.reduceSub, Nat.reduceLeDiff, Int.reduceToNat]); (first | exact rfl | exact ⟨rfl, rfl⟩ | (refine ⟨?_, rfl⟩; try (first | omega | exact ⟨rfl, by decide⟩ | exact rfl)))))
   | (refine vs T rfl fun K hK => ?_; (try simp (disch := omega) only [go_sem, Nat.reduceBEq, Nat.reduceAdd, Nat.reduceMul, Nat.reduceSub, Nat.reduceLeDiff, Int.reduceToNat]); (first | (refine hK _ _ ?_; clear hK K) | (refine ⟨?_, hK _ _ ?_⟩ <;> clear hK K; focus (try (first | omega | exact ⟨rfl, by decide⟩ | exact rfl))) | (refine ⟨_, ?_, hK _ _ ?_⟩ <;> clear hK K) | skip))
   | (refine st rfl ?_)
   | (refine sc rfl ?_)
   | (refine nl ?_)
   | (refine ov ?_)
   | (exact ret1 T (List.nil_sublist _) rfl)
   | (exact ret1 T (List.nil_sublist _) ⟨rfl, rfl⟩)
   | (refine ret1 T (List.nil_sublist _) ?_; (try simp only [upd, Nat.reduceBEq, cond_true, cond_false, and_true]))
   | (with_reducible refine gt ?_ ?_; focus (simp (disch := omega) only [go_sem, Nat.reduceBEq, Nat.reduceAdd, Nat.reduceMul, Nat.reduceSub, Nat.reduceLeDiff, Int.reduceToNat]; done))
   | (with_reducible refine gf ?_ ?_; focus (simp (disch := omega) only [go_sem, Nat.reduceBEq, Nat.reduceAdd, Nat.reduceMul, Nat.reduceSub, Nat.reduceLeDiff, Int.reduceToNat]; done))
   | (with_reducible refine gsplit_intro (fun hc => ?_) (fun hc => ?_))
  ·rw [u8_digit h0 (by omega), decF_small _ _ (by omega)]
  ·simp at hc; omega
 | succ k ih =>
  intro n h0 h1 hk
  have hb : n ≤ 1000000000000000000 := by
   have h2 : (10 : Nat) ^ (k + 1 + 1) ≤ 10 ^ 18 := Nat.pow_le_pow_right (by omega) (by omega)
   have h3 : ((10 ^ (k + 1 + 1) : Nat) : Int) ≤ ((10 ^ 18 : Nat) : Int) := by exact_mod_cast h2
   simp only [Int.natCast_pow] at h3
   have h4 : n < ((10 : Nat) : Int) ^ (k + 1 + 1) := h1
   have : (((10 : Nat) : Int) ^ 18) = 1000000000000000000 := by decide
   omega
  have hd : n / 10 < 10 ^ (k + 1) := by
   have : (10 : Int) ^ (k + 1 + 1) = 10 ^ (k + 1) * 10 := Int.pow_succ ..
   omega
  have hq := quo64 (n := n) (k := 10) h0 (by omega) (by omega)
  have hr := rem_pos (n := n) (k := 10) h0
  have hl := decF_len k (n / 10).toNat
  have hm : 0 ≤ n % 10 ∧ n % 10 < 10 := by omega
  have hg := u8_digit hm.1 hm.2
  clear h1
  refine Fun.of T [.tmp 2] Tryz.func212 rfl Tryz.ntmps212 Tryz.results212 rfl (by kernel_rfl) ?_
  repeat' first
   | (refine dr (id := 3) T 9 (by kernel_rfl) ?_)
   | (refine gn ?_)
   | (refine VCg.nil T ?_; simp only [allK, WB, Nat.reduceAdd]; try (refine fun (bq : Nat) hbq => ?_; (try simp only [HB] at hbq)))
   | (apply VCg.step T rfl rfl; focus ((try simp (disch := omega) only [go_sem, Nat.reduceBEq, Nat.reduceAdd, Nat.reduceMul, Nat.reduceSub, Nat.reduceLeDiff, Int.reduceToNat, hq, hr, hg]); (first | exact rfl | exact ⟨rfl, rfl⟩ | (refine ⟨?_, rfl⟩; try (first | omega | exact ⟨rfl, by decide⟩ | exact rfl)) | (refine Op1.callp rfl rfl (ih _ (by omega) (by omega) (by omega)) rfl ?_; exact ⟨rfl, rfl⟩))))
   | (refine vs T rfl fun K hK => ?_; (try simp (disch := omega) only [go_sem, Nat.reduceBEq, Nat.reduceAdd, Nat.reduceMul, Nat.reduceSub, Nat.reduceLeDiff, Int.reduceToNat, hq, hr, hg]); (first | (refine hK _ _ ?_; clear hK K) | (refine ⟨?_, hK _ _ ?_⟩ <;> clear hK K; focus (try (first | omega | exact ⟨rfl, by decide⟩ | exact rfl))) | (refine ⟨_, ?_, hK _ _ ?_⟩ <;> clear hK K) | (refine Op1.callp rfl rfl (ih _ (by omega) (by omega) (by omega)) rfl ?_; refine hK _ _ ?_; clear hK K) | skip))
   | (refine st rfl ?_)
   | (refine sc rfl ?_)
   | (refine nl ?_)
   | (refine ov ?_)
   | (exact ret1 T (List.nil_sublist _) rfl)
   | (exact ret1 T (List.nil_sublist _) ⟨rfl, rfl⟩)
   | (refine ret1 T (List.nil_sublist _) ?_; (try simp only [upd, Nat.reduceBEq, cond_true, cond_false, and_true, hq, hr, hg]))
   | (with_reducible refine gt ?_ ?_; focus (simp (disch := omega) only [go_sem, Nat.reduceBEq, Nat.reduceAdd, Nat.reduceMul, Nat.reduceSub, Nat.reduceLeDiff, Int.reduceToNat, hq, hr, hg]; done))
   | (with_reducible refine gf ?_ ?_; focus (simp (disch := omega) only [go_sem, Nat.reduceBEq, Nat.reduceAdd, Nat.reduceMul, Nat.reduceSub, Nat.reduceLeDiff, Int.reduceToNat, hq, hr, hg]; done))
   | (with_reducible refine gsplit_intro (fun hc => ?_) (fun hc => ?_))
  ·have hn : n < 10 := by simpa using hc
   rw [u8_digit h0 hn, decF_small _ _ (by omega)]
  ·simp [ByteArray.size]; omega
  ·have hn : ¬ n < 10 := by simpa using hc
   rw [show (⟨#[UInt8.ofNat (48 + (n % 10).toNat)]⟩ : ByteArray) = ⟨[UInt8.ofNat (48 + (n % 10).toNat)].toArray⟩ from rfl, bytes_append, decF_step _ _ (by omega)]
   rw [show (n / 10).toNat = n.toNat / 10 by omega, show (n % 10).toNat = n.toNat % 10 by omega]
def dec6 (n : Int) : ByteArray := ⟨(decF 5 n.toNat).toArray⟩
theorem dec6_size (n : Int) : (dec6 n).size ≤ 6 := by
 have := decF_len 5 n.toNat
 simpa [dec6, ByteArray.size] using this
theorem decimal6_ok (n : Int) (h : 0 ≤ n ∧ n < 1000000) : Pure Tryz.prog 212 [iD n] (sD (dec6 n)) := decimalM_ok 5 n h.1 (by omega) (by omega)
theorem digits6_ok (n : Int) (h : 0 ≤ n ∧ n < 1000000) : Pure Tryz.prog 119 [iD n] (sD (dec6 n)) := digits_ok 5 n h.1 (by omega) (by omega)
end Go.Proofs.YtomcmfbpmkklmaaGreat
/- Calls through interfaces. No condition. -/
namespace Go.Vc
set_option linter.unusedSimpArgs false
set_option linter.unusedVariables false
open Go
def methI (P : Program) (t : TypeId) (name : String) : Option FuncId :=
 match P.info? t, P.underlying t with
 | some i, some d => (match d with
  | .pointer _ => none
  | _ => match i.methods.find? (·.name == name) with
   | some m => (match m.path.toList, m.func with
    | [], some (f, false) => some f
    | _, _ => none)
   | none => none)
 | _, _ => none
theorem run_typeInfo {P : Program} {t : TypeId} {i : TypeInfo} (h : P.info? t = some i) (w : World) : (typeInfo t).run P w = .ok i w := by
 unfold typeInfo
 rw [run_bind (a := P) (w' := w) rfl]
 simp only [h]
 rfl
theorem run_method {P : Program} {t : TypeId} {name : String} {f : FuncId} (h : methI P t name = some f) (n : Nat) (v : Value) (w : World) : (method (n + 1) t v name).run P w = .ok (f, v) w := by
 unfold methI at h
 split at h
 ·rename_i i d hi hd
  split at h
  ·cases h
  rename_i hnp
  split at h
  ·rename_i m hm
   split at h
   ·rename_i f' hp hf
    cases h
    unfold method
    rw [run_bind (run_typeInfo hi w)]
    simp only [hm]
    rw [hp]
    simp only [follow]
    rw [run_bind (a := (t, Place.val v)) (w' := w) rfl]
    simp only [hf]
    unfold receiverAt
    refine (run_bind (a := v) (w' := w) ?_).trans rfl
    rw [run_bind (run_underlying hd w)]
    split
    all_goals first | rfl | (exfalso; simp_all; done) | skip
   ·cases h
  ·cases h
 ·cases h
theorem Op1.enterG {P : Program} {o : Oper} {E : Operand → D} {f : FuncId} {args : List D} {H : Heap} {fr : Bool} {Φ : D → Heap → Prop} {K : D → Heap → Prop} (h : Fun P f args [] fr Φ)
  (hrun : ∀ (w : World) (L : Nat → Prop) (ε : Operand → Value), (∀ fn, P.funcs[f]? = some fn → fn.body.isSome = true → (fn.name == "runtime.NumGoroutine") = false → ∀ (xs : Array Value) (w : World), (callFunc f xs).run P w = .ok (.enter f xs) w) →
   (∀ y, y ∈ o.op.operands → Rel w L (E y) (ε y)) → ∃ vs : List Value, (execOp ε o).run P w = .ok (.enter f vs.toArray) w ∧ RelL w L args vs)
  (hk : ∀ d H', Φ d H' → K d (H' ++ H)) : Op1 P o E H K := by
 refine ⟨fun d H' => ∃ Hp', Φ d Hp' ∧ H' = Hp' ++ H, ?_, fun d H' ⟨Hp', h1, h2⟩ => h2 ▸ hk d Hp' h1⟩
 intro w L0 ε hi hx
 obtain ⟨⟨fn, hf, hbody, hname⟩, h⟩ := h
 obtain ⟨vs, hr, hargs⟩ := hrun w _ ε (fun fn hf hb hn xs w => run_callFunc hf hb hn xs w) hx
 rw [hr]
 have same : ∀ b, live [] (live H L0) b ↔ live H L0 b := fun b => by simp [live, Heap.blocks]
 have hlt : ∀ b, b ∈ H.blocks → b < w.heap.size := fun b hb => hi.lt hb
 have hi1 : HInv w (live H L0) [] :=
  {rel := fun b c hm => by cases hm
   nodup := List.nodup_nil
   apart := fun b hb => by cases hb
   old := fun b hl => by
    rcases hl with hl | hl
    ·exact hi.old b hl
    ·exact hlt b hl }
 have hk1 : Keeps w (live H L0) w (live [] (live H L0)) := Keeps.less fun b _ hl => (same b).1 hl
 refine (h w (live H L0) _ hi1 (RelL.mono hk1 _ _ hargs)).mono ?_
 rintro e w' ⟨v, rfl, d, Hp', hΦ, hrel, hi', he⟩
 have hmem' : ∀ b, b ∈ (Hp' ++ H).blocks ↔ b ∈ Hp'.blocks ∨ b ∈ H.blocks := fun b => by simp [Heap.blocks]
 have hevo : Evo w H w' (Hp' ++ H) :=
  ⟨he.os, he.tape, he.output, he.size, fun b hb hn => he.block b hb (fun h => by cases h), fun b hb => by
   rcases (hmem' b).1 hb with h | h
   ·exact (he.fresh b h).imp (fun h => by cases h) id
   ·exact .inl h⟩
 refine ⟨v, rfl, d, Hp' ++ H, ⟨Hp', hΦ, rfl⟩, ?_, ?_, hevo⟩
 ·refine Rel.mono (Keeps.less fun b _ hl => ?_) _ _ hrel
  rcases hl with hl | hl
  ·exact .inl (.inl (.inl hl))
  ·rcases (hmem' b).1 hl with hl | hl
   ·exact .inr hl
   ·exact .inl (.inl (.inr hl))
 ·exact
   {rel := fun b c hm => by
     rcases List.mem_append.1 hm with hm | hm
     ·refine (hi'.rel b c hm).mono (Keeps.less fun b _ hl => ?_) rfl
      rcases hl with hl | hl
      ·exact .inl (.inl hl)
      ·rcases (hmem' b).1 hl with hl | hl
       ·exact .inr hl
       ·exact .inl (.inr hl)
     ·have hbr : b ∈ H.blocks := List.mem_map.2 ⟨(b, c), hm, rfl⟩
      exact (hi.rel b c hm).mono hevo.keeps (he.block b (hlt b hbr) (fun h => by cases h))
    nodup := by
     simp only [Heap.blocks, List.map_append]
     refine List.nodup_append.2 ⟨hi'.nodup, hi.nodup, fun a ha b hb hab => ?_⟩
     subst hab
     rcases he.fresh a ha with h | h
     ·cases h
     ·have := hlt a hb; omega
    apart := fun b hb hl => by
     rcases (hmem' b).1 hb with h | h
     ·exact hi'.apart b h (.inl hl)
     ·exact hi.apart b h hl
    old := fun b hl => Nat.lt_of_lt_of_le (hi.old b hl) he.size }
theorem Op1.invoke {P : Program} {o : Oper} {E : Operand → D} {f : FuncId} {x : Operand} {name : String} {xs : Array Operand} {tys : Array TypeId} {t : TypeId} {dv : D} {args : List D} {H : Heap} {fr : Bool} {Φ : D → Heap → Prop} {K : D → Heap → Prop}
  (ho : o.op = .call ⟨.invoke x name, xs, tys⟩) (hE : E x = .ifc t dv) (hm : methI P t name = some f) (h : Fun P f args [] fr Φ) (ha : dv :: xs.toList.map E = args) (hk : ∀ d H', Φ d H' → K d (H' ++ H)) : Op1 P o E H K := by
 subst ha
 have hF := h.1
 obtain ⟨fn, hf, hb, hn⟩ := hF
 refine Op1.enterG h (fun w L ε hc hx => ?_) hk
 have hr := hx x (by simp [ho, Op.operands, Call.operands])
 rw [hE] at hr
 obtain ⟨y, hy, hrel⟩ := hr
 refine ⟨y :: xs.toList.map ε, ?_, y, _, rfl, hrel, ?_⟩
 ·have e : (y :: xs.toList.map ε).toArray = #[y] ++ xs.map ε := by
   rw [← Array.toList_map]
   apply Array.ext'
   simp
  rw [e, ← hc fn hf hb hn (#[y] ++ xs.map ε) w]
  have hmr := run_method hm (P.types.size + 99) y w
  have hex : (#[ε x] ++ xs.map ε).extract 1 (#[ε x] ++ xs.map ε).size = xs.map ε := by
   apply Array.ext'
   simp
   exact List.take_of_length_le (by simp)
  have h0 : (#[ε x] ++ xs.map ε)[0]? = some (ε x) := by
   rw [Array.getElem?_append_left (by simp)]
   rfl
  rw [hy] at h0 hex
  simp only [execOp, ho, resolve]
  rw [run_bind (a := { target := .fn (.method name) #[], args := #[ε x] ++ xs.map ε }) (w' := w) rfl]
  simp only [Go.invoke, h0, hex, hy, callMethod]
  rw [run_bind (a := P) (w' := w) rfl]
  have hmr' : (method (P.types.size + Made.depth) t y name).run P w = .ok (f, y) w := hmr
  rw [run_bind hmr']
 ·have : ∀ l : List Operand, (∀ x ∈ l, x ∈ xs.toList) → RelL w L (l.map E) (l.map ε) := by
   intro l
   induction l with
   | nil => intro _; rfl
   | cons x l ih =>
    intro hl
    refine ⟨ε x, l.map ε, rfl, hx x ?_, ih fun y hy => hl y (List.mem_cons_of_mem _ hy)⟩
    have := hl x (List.mem_cons_self ..)
    simp only [ho, Op.operands, Call.operands]
    exact Array.mem_append.2 (.inr (Array.mem_toList_iff.1 this))
  exact this _ fun _ h => h
theorem Op1.invokep {P : Program} {o : Oper} {E : Operand → D} {f : FuncId} {x : Operand} {name : String} {xs : Array Operand} {tys : Array TypeId} {t : TypeId} {dv d0 : D} {args : List D} {H : Heap} {fr : Bool} {K : D → Heap → Prop}
  (ho : o.op = .call ⟨.invoke x name, xs, tys⟩) (hE : E x = .ifc t dv) (hm : methI P t name = some f) (h : Fun P f args [] fr (fun d H' => d = d0 ∧ H' = [])) (ha : dv :: xs.toList.map E = args) (hk : K d0 H) : Op1 P o E H K :=
 Op1.invoke ho hE hm h ha fun d H' ⟨h1, h2⟩ => by subst h1; subst h2; exact hk
end Go.Vc
/- Contracts: whether a thread is at its end (chapter 11). No condition. -/
namespace Go.Proofs.YtomcmfbpmkklmaaGreat
set_option linter.unusedSimpArgs false
set_option linter.unusedVariables false
set_option maxRecDepth 20000
open Go Go.Proofs Go.Vc
attribute [local irreducible] retQ VCg VCw VCx
end Go.Proofs.YtomcmfbpmkklmaaGreat
