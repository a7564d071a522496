/- Contracts: how much two configurations differ, both sides. No condition. -/
import Derived.Test.YtomcmfbpmkklmaaGreatFa
import Derived.Test.YtomcmfbpmkklmaaGreatDd
import Derived.Test.YtomcmfbpmkklmaaGreatDf
import Derived.Test.YtomcmfbpmkklmaaGreatXg
namespace Go.Proofs.YtomcmfbpmkklmaaGreat
set_option maxHeartbeats 16000000
set_option linter.unusedSimpArgs false
set_option linter.unusedVariables false
set_option maxRecDepth 20000
open Go Go.Proofs Go.Vc
attribute [local irreducible] retQ VCg VCw VCx
theorem ix_ens {e eb : Nat} {ea full : Bool} {ez : List Value} {l : List En} {k : IntKind} {n : Int} {K : D → Prop} :
  cIndexAddr (.slice e 2 eb ea ez) (.sl full 2 (eRs l)) (.is (.int k n)) K = ((0 ≤ n ∧ n < l.length) ∧ K (.pt (eR (l.getD n.toNat (0, 0))))) := ix_map eR (0, 0)
theorem ix_rows {e eb : Nat} {ea full : Bool} {ez : List Value} {l : List (List Int)} {k : IntKind} {n : Int} {K : D → Prop} :
  cIndexAddr (.slice e 1 eb ea ez) (.sl full 1 (rowsI l)) (.is (.int k n)) K = ((0 ≤ n ∧ n < l.length) ∧ K (.pt [ints (l.getD n.toNat [])])) := ix_map (fun r => [ints r]) []
theorem ix_bufs {e eb : Nat} {ea full : Bool} {ez : List Value} {l : List (List En)} {k : IntKind} {n : Int} {K : D → Prop} :
  cIndexAddr (.slice e 1 eb ea ez) (.sl full 1 (bufsR l)) (.is (.int k n)) K = ((0 ≤ n ∧ n < l.length) ∧ K (.pt [buf (l.getD n.toNat [])])) := ix_map (fun r => [buf r]) []
theorem eqEn (x y : En) : EqS Tryz.prog 127 [.int .i64 x.1, .int .i64 x.2] [.int .i64 y.1, .int .i64 y.2] (decide (x = y)) := by
 refine ⟨by kernel_rfl, fun w => ?_⟩
 obtain ⟨a, b⟩ := x
 obtain ⟨a', b'⟩ := y
 have u3 := Tryz.underlying3
 have a3 := Tryz.isAgg3
 have z3 := Tryz.sizeOf3
 have hS : Tryz.prog.underlying 127 = some (.struct (Tryz.prog.fieldsOf 127)) := by kernel_rfl
 have hp : Tryz.prog.stoodInHeld 127 = false := by kernel_rfl
 rw [show (10000 : Nat) = 9999 + 1 from rfl, run_equalIn_agg w 9999 127 _ _ hS hp]
 simp only [Program.fieldsOf, Tryz.underlying127]
 go_simp
 by_cases h1 : a = a' <;> by_cases h2 : b = b' <;> simp [h1, h2]
theorem difK_eq {α : Type} [DecidableEq α] {a b : List α} {k : Nat} {d : α} (h1 : k < a.length) (h2 : k < b.length) (h : a.getD k d = b.getD k d) : difK a b (k + 1) = difK a b k := by
 rw [difK, if_pos (by rw [getD_at (d := d) h1, getD_at (d := d) h2, h])]
theorem difK_ne {α : Type} [DecidableEq α] {a b : List α} {k : Nat} {d : α} (h1 : k < a.length) (h2 : k < b.length) (h : ¬ a.getD k d = b.getD k d) : difK a b (k + 1) = difK a b k + 1 := by
 rw [difK, if_neg (by rw [getD_at (d := d) h1, getD_at (d := d) h2]; exact fun e => h (Option.some.inj e))]
theorem differI_ok (a b : List Int) (ha : a.length ≤ 1000000) (hb : b.length ≤ 1000000) : Pure Tryz.prog 108 [ints a, ints b] (iD (difN a b : Nat)) := by
 refine Fun.of T [.tmp 4] Tryz.func108 rfl Tryz.ntmps108 Tryz.results108 rfl (by kernel_rfl) ?_
 repeat' first | refine vs T rfl fun K hK => ?_; (try simp (disch := omega) only [go_sem, Nat.reduceBEq, iRs_len]); (refine hK _ _ ?_; clear hK K) | refine st rfl ?_ | refine sc rfl ?_ | refine nl ?_ | with_reducible refine gsplit_intro (fun hc => ?_) (fun hc => ?_) <;> (try simp only [decide_eq_true_eq, decide_eq_false_iff_not, gt_iff_lt, Int.not_lt] at hc)
 ·refine VC.loop {k : Nat // k ≤ b.length} (fun p => ⟨lookD [(0, ints b), (1, ints a), (5, iD ((a.length - b.length + difK b a p.1 : Nat))), (20, iD (b.length : Nat)), (21, iD (p.1 : Nat))], []⟩) (fun p => b.length - p.1) ⟨0, by omega⟩ ?_ ?_
  ·refine Weak_subEq rfl ?_
   simp [sub, upd, difK, iRs_len]
   rw [w64 (by omega)]; omega
  rintro ⟨k, hk⟩
  have hd := difK_le b a k
  dsimp only at hk ⊢
  repeat' first | refine dr (id := 7) T 8 (by kernel_rfl) ?_ | refine gn ?_ | apply VCg.step T rfl rfl; focus ((try simp (disch := omega) only [go_sem, Nat.reduceBEq, ix_ints, Int.toNat_natCast]); (first | exact rfl | refine ⟨?_, rfl⟩; try omega)) | refine vs T rfl fun K hK => ?_; (try simp (disch := omega) only [go_sem, Nat.reduceBEq, w64]); (refine hK _ _ ?_; clear hK K) | refine st rfl ?_ | refine sc rfl ?_ | refine nl ?_ | refine ret1 T (List.nil_sublist _) ?_; (try simp only [upd, Nat.reduceBEq, cond_true, cond_false, and_true]) | with_reducible refine gsplit_intro (fun hc => ?_) (fun hc => ?_) <;> (try simp only [decide_eq_true_eq, decide_eq_false_iff_not, bne_iff_ne, bne_eq_false_iff_eq, ne_eq, Int.not_lt] at hc)
  ·refine ⟨⟨k + 1, by omega⟩, Weak_subEq rfl ?_, by dsimp only; omega⟩
   rename_i hc
   simp [sub, upd, difK_ne (a := b) (b := a) (k := k) (d := 0) (by omega) (by omega) (by simpa using hc), -List.getD_eq_getElem?_getD]
   try omega
  ·refine ⟨⟨k + 1, by omega⟩, Weak_subEq rfl ?_, by dsimp only; omega⟩
   rename_i hc
   simp [sub, upd, difK_eq (a := b) (b := a) (k := k) (d := 0) (by omega) (by omega) (by simpa using hc), -List.getD_eq_getElem?_getD]
  ·obtain rfl : k = b.length := by omega
   exact congrArg iD (by rw [difN_symm a b, difN_of b a (by omega)]; omega)
 ·refine VC.loop {k : Nat // k ≤ a.length} (fun p => ⟨lookD [(0, ints a), (1, ints b), (5, iD ((b.length - a.length + difK a b p.1 : Nat))), (20, iD (a.length : Nat)), (21, iD (p.1 : Nat))], []⟩) (fun p => a.length - p.1) ⟨0, by omega⟩ ?_ ?_
  ·refine Weak_subEq rfl ?_
   simp [sub, upd, difK, iRs_len]
   rw [w64 (by omega)]; omega
  rintro ⟨k, hk⟩
  have hd := difK_le a b k
  dsimp only at hk ⊢
  repeat' first | refine dr (id := 7) T 8 (by kernel_rfl) ?_ | refine gn ?_ | apply VCg.step T rfl rfl; focus ((try simp (disch := omega) only [go_sem, Nat.reduceBEq, ix_ints, Int.toNat_natCast]); (first | exact rfl | refine ⟨?_, rfl⟩; try omega)) | refine vs T rfl fun K hK => ?_; (try simp (disch := omega) only [go_sem, Nat.reduceBEq, w64]); (refine hK _ _ ?_; clear hK K) | refine st rfl ?_ | refine sc rfl ?_ | refine nl ?_ | refine ret1 T (List.nil_sublist _) ?_; (try simp only [upd, Nat.reduceBEq, cond_true, cond_false, and_true]) | with_reducible refine gsplit_intro (fun hc => ?_) (fun hc => ?_) <;> (try simp only [decide_eq_true_eq, decide_eq_false_iff_not, bne_iff_ne, bne_eq_false_iff_eq, ne_eq, Int.not_lt] at hc)
  ·refine ⟨⟨k + 1, by omega⟩, Weak_subEq rfl ?_, by dsimp only; omega⟩
   rename_i hc
   simp [sub, upd, difK_ne (a := a) (b := b) (k := k) (d := 0) (by omega) (by omega) (by simpa using hc), -List.getD_eq_getElem?_getD]
   try omega
  ·refine ⟨⟨k + 1, by omega⟩, Weak_subEq rfl ?_, by dsimp only; omega⟩
   rename_i hc
   simp [sub, upd, difK_eq (a := a) (b := b) (k := k) (d := 0) (by omega) (by omega) (by simpa using hc), -List.getD_eq_getElem?_getD]
  ·obtain rfl : k = a.length := by omega
   exact congrArg iD (by rw [difN_of a b (by omega)]; omega)
theorem differE_ok (a b : List En) (ha : a.length ≤ 1000000) (hb : b.length ≤ 1000000) : Pure Tryz.prog 150 [buf a, buf b] (iD (difN a b : Nat)) := by
 refine Fun.of T [.tmp 4] Tryz.func150 rfl Tryz.ntmps150 Tryz.results150 rfl (by kernel_rfl) ?_
 repeat' first | refine vs T rfl fun K hK => ?_; (try simp (disch := omega) only [go_sem, Nat.reduceBEq, eRs_len]); (refine hK _ _ ?_; clear hK K) | refine st rfl ?_ | refine sc rfl ?_ | refine nl ?_ | with_reducible refine gsplit_intro (fun hc => ?_) (fun hc => ?_) <;> (try simp only [decide_eq_true_eq, decide_eq_false_iff_not, gt_iff_lt, Int.not_lt] at hc)
 ·refine VC.loop {k : Nat // k ≤ b.length} (fun p => ⟨lookD [(0, buf b), (1, buf a), (5, iD ((a.length - b.length + difK b a p.1 : Nat))), (20, iD (b.length : Nat)), (21, iD (p.1 : Nat))], []⟩) (fun p => b.length - p.1) ⟨0, by omega⟩ ?_ ?_
  ·refine Weak_subEq rfl ?_
   simp [sub, upd, difK, eRs_len]
   rw [w64 (by omega)]; omega
  rintro ⟨k, hk⟩
  have hd := difK_le b a k
  dsimp only at hk ⊢
  repeat' first | refine dr (id := 7) T 8 (by kernel_rfl) ?_ | refine gn ?_ | apply VCg.step T rfl rfl; focus ((try simp (disch := omega) only [go_sem, Nat.reduceBEq, Nat.reduceAdd, Nat.reduceLeDiff, ix_ens, eR, Int.toNat_natCast]); (first | exact rfl | refine ⟨?_, rfl⟩; try omega)) | refine vs T rfl fun K hK => ?_; (try simp (disch := omega) only [go_sem, Nat.reduceBEq, w64]); (first | refine hK _ _ ?_; clear hK K | refine Op1.eqS rfl (eqEn _ _) rfl rfl rfl ?_; refine hK _ _ ?_; clear hK K) | refine st rfl ?_ | refine sc rfl ?_ | refine nl ?_ | refine ret1 T (List.nil_sublist _) ?_; (try simp only [upd, Nat.reduceBEq, cond_true, cond_false, and_true]) | with_reducible refine gsplit_intro (fun hc => ?_) (fun hc => ?_) <;> (try simp only [decide_eq_true_eq, decide_eq_false_iff_not, Bool.not_eq_true', Bool.not_eq_false', Int.not_lt] at hc)
  ·refine ⟨⟨k + 1, by omega⟩, Weak_subEq rfl ?_, by dsimp only; omega⟩
   rename_i hc
   simp [sub, upd, difK_ne (a := b) (b := a) (k := k) (d := (0, 0)) (by omega) (by omega) (by simpa using hc), -List.getD_eq_getElem?_getD]
   try omega
  ·refine ⟨⟨k + 1, by omega⟩, Weak_subEq rfl ?_, by dsimp only; omega⟩
   rename_i hc
   simp [sub, upd, difK_eq (a := b) (b := a) (k := k) (d := (0, 0)) (by omega) (by omega) (by simpa using hc), -List.getD_eq_getElem?_getD]
  ·obtain rfl : k = b.length := by omega
   exact congrArg iD (by rw [difN_symm a b, difN_of b a (by omega)]; omega)
 ·refine VC.loop {k : Nat // k ≤ a.length} (fun p => ⟨lookD [(0, buf a), (1, buf b), (5, iD ((b.length - a.length + difK a b p.1 : Nat))), (20, iD (a.length : Nat)), (21, iD (p.1 : Nat))], []⟩) (fun p => a.length - p.1) ⟨0, by omega⟩ ?_ ?_
  ·refine Weak_subEq rfl ?_
   simp [sub, upd, difK, eRs_len]
   rw [w64 (by omega)]; omega
  rintro ⟨k, hk⟩
  have hd := difK_le a b k
  dsimp only at hk ⊢
  repeat' first | refine dr (id := 7) T 8 (by kernel_rfl) ?_ | refine gn ?_ | apply VCg.step T rfl rfl; focus ((try simp (disch := omega) only [go_sem, Nat.reduceBEq, Nat.reduceAdd, Nat.reduceLeDiff, ix_ens, eR, Int.toNat_natCast]); (first | exact rfl | refine ⟨?_, rfl⟩; try omega)) | refine vs T rfl fun K hK => ?_; (try simp (disch := omega) only [go_sem, Nat.reduceBEq, w64]); (first | refine hK _ _ ?_; clear hK K | refine Op1.eqS rfl (eqEn _ _) rfl rfl rfl ?_; refine hK _ _ ?_; clear hK K) | refine st rfl ?_ | refine sc rfl ?_ | refine nl ?_ | refine ret1 T (List.nil_sublist _) ?_; (try simp only [upd, Nat.reduceBEq, cond_true, cond_false, and_true]) | with_reducible refine gsplit_intro (fun hc => ?_) (fun hc => ?_) <;> (try simp only [decide_eq_true_eq, decide_eq_false_iff_not, Bool.not_eq_true', Bool.not_eq_false', Int.not_lt] at hc)
  ·refine ⟨⟨k + 1, by omega⟩, Weak_subEq rfl ?_, by dsimp only; omega⟩
   rename_i hc
   simp [sub, upd, difK_ne (a := a) (b := b) (k := k) (d := (0, 0)) (by omega) (by omega) (by simpa using hc), -List.getD_eq_getElem?_getD]
   try omega
  ·refine ⟨⟨k + 1, by omega⟩, Weak_subEq rfl ?_, by dsimp only; omega⟩
   rename_i hc
   simp [sub, upd, difK_eq (a := a) (b := b) (k := k) (d := (0, 0)) (by omega) (by omega) (by simpa using hc), -List.getD_eq_getElem?_getD]
  ·obtain rfl : k = a.length := by omega
   exact congrArg iD (by rw [difN_of a b (by omega)]; omega)
theorem row_le {α : Type} {l : List (List α)} {n : Nat} (h : ∀ r, r ∈ l → r.length ≤ n) (k : Nat) : (l.getD k []).length ≤ n := by
 rcases Nat.lt_or_ge k l.length with h1 | h1
 ·exact h _ (getD_mem h1)
 ·rw [List.getD_eq_getElem?_getD, List.getElem?_eq_none h1]; exact Nat.zero_le _
theorem getD_out {α : Type} {l : List α} {k : Nat} {d : α} (h : l.length ≤ k) : l.getD k d = d := by rw [List.getD_eq_getElem?_getD, List.getElem?_eq_none h]; rfl
theorem rowD_le {α : Type} [DecidableEq α] {a b : List (List α)} {n : Nat} (ha : ∀ r, r ∈ a → r.length ≤ n) (hb : ∀ r, r ∈ b → r.length ≤ n) : ∀ k, rowD a b k ≤ n * k
 | 0 => Nat.le_refl _
 | k + 1 => by
  have h1 := rowD_le ha hb k
  have h2 := difN_le (a.getD k []) (b.getD k [])
  have h3 := row_le ha k
  have h4 := row_le hb k
  rw [rowD, Nat.mul_succ]
  omega
theorem rowN_of {α : Type} [DecidableEq α] {a b : List (List α)} (h : a.length ≤ b.length) : rowN a b = rowD a b b.length := by rw [rowN, Nat.max_eq_right h]
theorem rowsI29_ok (a b : List (List Int)) (ha : a.length ≤ 1000) (hb : b.length ≤ 1000) (hra : ∀ r, r ∈ a → r.length ≤ 1000) (hrb : ∀ r, r ∈ b → r.length ≤ 1000) : Pure Tryz.prog 109 [.sl false 1 (rowsI a), .sl false 1 (rowsI b)] (iD (rowN a b : Nat)) := by
 refine Fun.of T [.tmp 4] Tryz.func109 rfl Tryz.ntmps109 Tryz.results109 rfl (by kernel_rfl) ?_
 repeat' first | refine vs T rfl fun K hK => ?_; (try simp (disch := omega) only [go_sem, Nat.reduceBEq, rowsI_len]); (refine hK _ _ ?_; clear hK K) | refine st rfl ?_ | refine sc rfl ?_ | refine nl ?_ | with_reducible refine gsplit_intro (fun hc => ?_) (fun hc => ?_) <;> (try simp only [decide_eq_true_eq, decide_eq_false_iff_not, gt_iff_lt, Int.not_lt] at hc)
 ·refine VC.loop {k : Nat // k ≤ a.length} (fun p => ⟨lookD [(0, .sl false 1 (rowsI b)), (5, iD (rowD b a p.1 : Nat)), (15, .sl false 1 (rowsI a)), (16, iD (a.length : Nat)), (17, iD (p.1 : Nat))], []⟩) (fun p => a.length - p.1) ⟨0, by omega⟩ ?_ ?_
  ·refine Weak_subEq rfl ?_
   simp [sub, upd, rowD, rowsI_len]
  rintro ⟨k, hk⟩
  have hd := rowD_le hrb hra k
  have l1 := row_le hrb k
  have l2 := row_le hra k
  have l3 := difN_le (b.getD k []) (a.getD k [])
  have c1 := differI_ok (b.getD k []) (a.getD k []) (by omega) (by omega)
  dsimp only at hk ⊢
  repeat' first | refine vs T rfl fun K hK => ?_; (try simp (disch := omega) only [go_sem, Nat.reduceBEq, ix_rows, rowsI_len, iRs_len, w64, Int.toNat_natCast]); (first | refine hK _ _ ?_; clear hK K | refine ⟨?_, hK _ _ ?_⟩ <;> clear hK K; focus (try omega) | refine Op1.callp rfl rfl (c1) rfl ?_; refine hK _ _ ?_; clear hK K) | refine st rfl ?_ | refine sc rfl ?_ | refine nl ?_ | refine ret1 T (List.nil_sublist _) ?_; (try simp only [upd, Nat.reduceBEq, cond_true, cond_false, and_true]) | with_reducible refine gsplit_intro (fun hc => ?_) (fun hc => ?_) <;> (try simp only [decide_eq_true_eq, decide_eq_false_iff_not, Int.not_lt] at hc)
  ·refine ⟨⟨k + 1, by omega⟩, Weak_subEq rfl ?_, by dsimp only; omega⟩
   simp [sub, upd, rowD, -List.getD_eq_getElem?_getD]
  ·refine ⟨⟨k + 1, by omega⟩, Weak_subEq rfl ?_, by dsimp only; omega⟩
   simp [sub, upd, rowD, getD_out (l := b) (k := k) (d := []) (by omega), difN_nil, -List.getD_eq_getElem?_getD]
  ·obtain rfl : k = a.length := by omega
   exact congrArg iD (by rw [rowN_symm a b, rowN_of (by omega)])
 ·refine VC.loop {k : Nat // k ≤ b.length} (fun p => ⟨lookD [(0, .sl false 1 (rowsI a)), (5, iD (rowD a b p.1 : Nat)), (15, .sl false 1 (rowsI b)), (16, iD (b.length : Nat)), (17, iD (p.1 : Nat))], []⟩) (fun p => b.length - p.1) ⟨0, by omega⟩ ?_ ?_
  ·refine Weak_subEq rfl ?_
   simp [sub, upd, rowD, rowsI_len]
  rintro ⟨k, hk⟩
  have hd := rowD_le hra hrb k
  have l1 := row_le hra k
  have l2 := row_le hrb k
  have l3 := difN_le (a.getD k []) (b.getD k [])
  have c1 := differI_ok (a.getD k []) (b.getD k []) (by omega) (by omega)
  dsimp only at hk ⊢
  repeat' first | refine vs T rfl fun K hK => ?_; (try simp (disch := omega) only [go_sem, Nat.reduceBEq, ix_rows, rowsI_len, iRs_len, w64, Int.toNat_natCast]); (first | refine hK _ _ ?_; clear hK K | refine ⟨?_, hK _ _ ?_⟩ <;> clear hK K; focus (try omega) | refine Op1.callp rfl rfl (c1) rfl ?_; refine hK _ _ ?_; clear hK K) | refine st rfl ?_ | refine sc rfl ?_ | refine nl ?_ | refine ret1 T (List.nil_sublist _) ?_; (try simp only [upd, Nat.reduceBEq, cond_true, cond_false, and_true]) | with_reducible refine gsplit_intro (fun hc => ?_) (fun hc => ?_) <;> (try simp only [decide_eq_true_eq, decide_eq_false_iff_not, Int.not_lt] at hc)
  ·refine ⟨⟨k + 1, by omega⟩, Weak_subEq rfl ?_, by dsimp only; omega⟩
   simp [sub, upd, rowD, -List.getD_eq_getElem?_getD]
  ·refine ⟨⟨k + 1, by omega⟩, Weak_subEq rfl ?_, by dsimp only; omega⟩
   simp [sub, upd, rowD, getD_out (l := a) (k := k) (d := []) (by omega), difN_nil, -List.getD_eq_getElem?_getD]
  ·obtain rfl : k = b.length := by omega
   exact congrArg iD (by rw [rowN_of (by omega)])
theorem rowsE29_ok (a b : List (List En)) (ha : a.length ≤ 1000) (hb : b.length ≤ 1000) (hra : ∀ r, r ∈ a → r.length ≤ 1000) (hrb : ∀ r, r ∈ b → r.length ≤ 1000) : Pure Tryz.prog 110 [.sl false 1 (bufsR a), .sl false 1 (bufsR b)] (iD (rowN a b : Nat)) := by
 refine Fun.of T [.tmp 4] Tryz.func110 rfl Tryz.ntmps110 Tryz.results110 rfl (by kernel_rfl) ?_
 repeat' first | refine vs T rfl fun K hK => ?_; (try simp (disch := omega) only [go_sem, Nat.reduceBEq, bufsR_len]); (refine hK _ _ ?_; clear hK K) | refine st rfl ?_ | refine sc rfl ?_ | refine nl ?_ | with_reducible refine gsplit_intro (fun hc => ?_) (fun hc => ?_) <;> (try simp only [decide_eq_true_eq, decide_eq_false_iff_not, gt_iff_lt, Int.not_lt] at hc)
 ·refine VC.loop {k : Nat // k ≤ a.length} (fun p => ⟨lookD [(0, .sl false 1 (bufsR b)), (5, iD (rowD b a p.1 : Nat)), (15, .sl false 1 (bufsR a)), (16, iD (a.length : Nat)), (17, iD (p.1 : Nat))], []⟩) (fun p => a.length - p.1) ⟨0, by omega⟩ ?_ ?_
  ·refine Weak_subEq rfl ?_
   simp [sub, upd, rowD, bufsR_len]
  rintro ⟨k, hk⟩
  have hd := rowD_le hrb hra k
  have l1 := row_le hrb k
  have l2 := row_le hra k
  have l3 := difN_le (b.getD k []) (a.getD k [])
  have c1 := differE_ok (b.getD k []) (a.getD k []) (by omega) (by omega)
  dsimp only at hk ⊢
  repeat' first | refine vs T rfl fun K hK => ?_; (try simp (disch := omega) only [go_sem, Nat.reduceBEq, ix_bufs, bufsR_len, eRs_len, w64, Int.toNat_natCast]); (first | refine hK _ _ ?_; clear hK K | refine ⟨?_, hK _ _ ?_⟩ <;> clear hK K; focus (try omega) | refine Op1.callp rfl rfl (c1) rfl ?_; refine hK _ _ ?_; clear hK K) | refine st rfl ?_ | refine sc rfl ?_ | refine nl ?_ | refine ret1 T (List.nil_sublist _) ?_; (try simp only [upd, Nat.reduceBEq, cond_true, cond_false, and_true]) | with_reducible refine gsplit_intro (fun hc => ?_) (fun hc => ?_) <;> (try simp only [decide_eq_true_eq, decide_eq_false_iff_not, Int.not_lt] at hc)
  ·refine ⟨⟨k + 1, by omega⟩, Weak_subEq rfl ?_, by dsimp only; omega⟩
   simp [sub, upd, rowD, -List.getD_eq_getElem?_getD]
  ·refine ⟨⟨k + 1, by omega⟩, Weak_subEq rfl ?_, by dsimp only; omega⟩
   simp [sub, upd, rowD, getD_out (l := b) (k := k) (d := []) (by omega), difN_nil, -List.getD_eq_getElem?_getD]
  ·obtain rfl : k = a.length := by omega
   exact congrArg iD (by rw [rowN_symm a b, rowN_of (by omega)])
 ·refine VC.loop {k : Nat // k ≤ b.length} (fun p => ⟨lookD [(0, .sl false 1 (bufsR a)), (5, iD (rowD a b p.1 : Nat)), (15, .sl false 1 (bufsR b)), (16, iD (b.length : Nat)), (17, iD (p.1 : Nat))], []⟩) (fun p => b.length - p.1) ⟨0, by omega⟩ ?_ ?_
  ·refine Weak_subEq rfl ?_
   simp [sub, upd, rowD, bufsR_len]
  rintro ⟨k, hk⟩
  have hd := rowD_le hra hrb k
  have l1 := row_le hra k
  have l2 := row_le hrb k
  have l3 := difN_le (a.getD k []) (b.getD k [])
  have c1 := differE_ok (a.getD k []) (b.getD k []) (by omega) (by omega)
  dsimp only at hk ⊢
  repeat' first | refine vs T rfl fun K hK => ?_; (try simp (disch := omega) only [go_sem, Nat.reduceBEq, ix_bufs, bufsR_len, eRs_len, w64, Int.toNat_natCast]); (first | refine hK _ _ ?_; clear hK K | refine ⟨?_, hK _ _ ?_⟩ <;> clear hK K; focus (try omega) | refine Op1.callp rfl rfl (c1) rfl ?_; refine hK _ _ ?_; clear hK K) | refine st rfl ?_ | refine sc rfl ?_ | refine nl ?_ | refine ret1 T (List.nil_sublist _) ?_; (try simp only [upd, Nat.reduceBEq, cond_true, cond_false, and_true]) | with_reducible refine gsplit_intro (fun hc => ?_) (fun hc => ?_) <;> (try simp only [decide_eq_true_eq, decide_eq_false_iff_not, Int.not_lt] at hc)
  ·refine ⟨⟨k + 1, by omega⟩, Weak_subEq rfl ?_, by dsimp only; omega⟩
   simp [sub, upd, rowD, -List.getD_eq_getElem?_getD]
  ·refine ⟨⟨k + 1, by omega⟩, Weak_subEq rfl ?_, by dsimp only; omega⟩
   simp [sub, upd, rowD, getD_out (l := a) (k := k) (d := []) (by omega), difN_nil, -List.getD_eq_getElem?_getD]
  ·obtain rfl : k = b.length := by omega
   exact congrArg iD (by rw [rowN_of (by omega)])
theorem changes_ok (a b : Cf) (ha : OkC a) (hb : OkC b) : Pure Tryz.prog 58 [.agg (cfC a), .agg (cfC b)] (iD (chgF a b : Nat)) := by
 have a1 := ha.pc
 have b1 := hb.pc
 have a2 := ha.mem
 have b2 := hb.mem
 have a3 := ha.regs
 have b3 := hb.regs
 have a4 := ha.bufs
 have b4 := hb.bufs
 have d1 := difN_le a.pc b.pc
 have d2 := difN_le a.mem b.mem
 have d3 := rowD_le ha.row hb.row (max a.regs.length b.regs.length)
 have d4 := rowD_le ha.buf hb.buf (max a.bufs.length b.bufs.length)
 have d5 : rowN a.regs b.regs = rowD a.regs b.regs (max a.regs.length b.regs.length) := rfl
 have d6 : rowN a.bufs b.bufs = rowD a.bufs b.bufs (max a.bufs.length b.bufs.length) := rfl
 have c1 := differI_ok a.pc b.pc (by omega) (by omega)
 have c2 := differI_ok a.mem b.mem (by omega) (by omega)
 have c3 := rowsI29_ok a.regs b.regs (by omega) (by omega) ha.row hb.row
 have c4 := rowsE29_ok a.bufs b.bufs (by omega) (by omega) ha.buf hb.buf
 refine Fun.of T [.tmp 4] Tryz.func58 rfl Tryz.ntmps58 Tryz.results58 rfl (by kernel_rfl) ?_
 repeat' first | refine vb (t := 43) rfl rfl rfl rfl ?_ | refine dr (id := 1) T 22 (by kernel_rfl) ?_ | refine gn ?_ | apply VCg.step T rfl rfl; focus ((try simp (disch := omega) only [go_sem, Nat.reduceBEq, w64]); (first | exact rfl | refine Op1.callp rfl rfl (c1) rfl ?_; exact ⟨rfl, rfl⟩ | refine Op1.callp rfl rfl (c2) rfl ?_; exact ⟨rfl, rfl⟩ | refine Op1.callp rfl rfl (c3) rfl ?_; exact ⟨rfl, rfl⟩ | refine Op1.callp rfl rfl (c4) rfl ?_; exact ⟨rfl, rfl⟩)) | refine vs T rfl fun K hK => ?_; (try simp (disch := omega) only [go_sem, Nat.reduceBEq, w64]); (refine hK _ _ ?_; clear hK K) | refine st rfl ?_ | refine nl ?_ | exact ret1 T (List.nil_sublist _) ⟨rfl, rfl⟩
end Go.Proofs.YtomcmfbpmkklmaaGreat
