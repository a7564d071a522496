/- Contracts: a path as text. No condition. -/
import Derived.Test.YtomcmfbpmkklmaaGreatDj
import Derived.Test.YtomcmfbpmkklmaaGreatRj
namespace Go.Proofs.YtomcmfbpmkklmaaGreat
set_option maxHeartbeats 16000000
set_option linter.unusedSimpArgs false
set_option linter.unusedVariables false
set_option maxRecDepth 20000
open Go Go.Proofs Go.Vc
attribute [local irreducible] retQ VCg VCw VCx
abbrev b0 : ByteArray := ⟨#[]⟩
abbrev bB : ByteArray := ⟨#[32]⟩
abbrev bQ : ByteArray := ⟨#[63]⟩
def tokF (u : Un) (m a : Int) : ByteArray := match decide (nameM u m a = b0) with | true => bQ | false => nameM u m a
def txtK (u : Un) (m : Int) (p : List Int) : Nat → ByteArray
 | 0 => b0
 | k + 1 => (match decide (0 < k) with | true => txtK u m p k ++ bB | false => txtK u m p k) ++ tokF u m (p.getD k 0)
theorem nameA_size (a : Ag) : (nameA a).size ≤ 14 := by
 cases a with
 | th t =>
  have hs := dec6_size (t : Nat)
  have z1 : bT.size = 1 := rfl
  simp only [nameA, ByteArray.size_append]
  omega
 | fl t l =>
  have hs := dec6_size (t : Nat)
  have hs2 := dec6_size l
  have z1 : bF.size = 1 := rfl
  have z2 : bP.size = 1 := rfl
  simp only [nameA]
  split <;> simp only [ByteArray.size_append] <;> omega
theorem nameM_size (u : Un) (m a : Int) : (nameM u m a).size ≤ 14 := by
 unfold nameM
 split
 ·exact nameA_size _
 ·exact Nat.zero_le _
theorem tokF_size (u : Un) (m a : Int) : (tokF u m a).size ≤ 14 := by
 unfold tokF
 split
 ·decide
 ·exact nameM_size ..
theorem txtK_size (u : Un) (m : Int) (p : List Int) : ∀ k, (txtK u m p k).size ≤ 15 * k
 | 0 => Nat.le_refl _
 | k + 1 => by
  have := txtK_size u m p k
  have h2 := tokF_size u m (p.getD k 0)
  have z2 : bB.size = 1 := rfl
  unfold txtK
  split <;> simp only [ByteArray.size_append] <;> omega
theorem text_ok (u : Un) (hu : OkU u) (m : Int) (p : List Int) (hp : p.length ≤ 1000000) : Pure Tryz.prog 32 [.agg (unC u), iD m, ints p] (sD (txtK u m p p.length)) := by
 refine Fun.of T [.tmp 6] Tryz.func32 rfl Tryz.ntmps32 Tryz.results32 rfl (by kernel_rfl) ?_
 repeat' first | refine vb (t := 25) rfl rfl rfl rfl ?_ | refine vs T rfl fun K hK => ?_; (try simp (disch := omega) only [go_sem, Nat.reduceBEq, Nat.reduceAdd]); (refine hK _ _ ?_; clear hK K) | refine st rfl ?_ | refine nl ?_
 refine VC.loop {k : Nat // k ≤ p.length} (fun q => ⟨lookD [(1, iD m), (3, .pt (unC u)), (7, sD (txtK u m p q.1)), (11, ints p), (12, iD (p.length : Nat)), (13, iD (q.1 : Nat))], []⟩) (fun q => p.length - q.1) ⟨0, by omega⟩ ?_ ?_
 ·refine Weak_subEq rfl ?_
  simp [sub, upd, iRs_len, txtK]
 rintro ⟨k, hk⟩
 dsimp only at hk ⊢
 have cn := nameM_ok u hu m (p.getD k 0)
 have s1 := nameM_size u m (p.getD k 0)
 have s2 := txtK_size u m p k
 have z2 : (#[32] : Array UInt8).size = 1 := rfl
 have z3 : (#[63] : Array UInt8).size = 1 := rfl
 rcases Nat.lt_or_ge k p.length with hlt | hge
 ·cases h1 : decide (nameM u m (p.getD k 0) = b0)
  case' true => have ht : tokF u m (p.getD k 0) = bQ := by simp only [tokF, h1]
  case' false => have ht : tokF u m (p.getD k 0) = nameM u m (p.getD k 0) := by simp only [tokF, h1]
  all_goals
   simp only [decide_eq_true_eq, decide_eq_false_iff_not] at h1
   repeat' first | refine vs T rfl fun K hK => ?_; (try simp (disch := omega) only [go_sem, Nat.reduceBEq, Nat.reduceAdd, Nat.reduceLeDiff, ix_ints, Int.toNat_natCast, h1, w64]); (first | refine hK _ _ ?_; clear hK K | refine ⟨?_, hK _ _ ?_⟩ <;> clear hK K; focus (try omega) | refine Op1.callp rfl rfl (cn) rfl ?_; refine hK _ _ ?_; clear hK K) | refine st rfl ?_ | refine sc rfl ?_ | refine nl ?_ | with_reducible refine gsplit_intro (fun hc => ?_) (fun hc => ?_) <;> (try simp only [decide_eq_true_eq, decide_eq_false_iff_not, gt_iff_lt, Int.not_lt] at hc) <;> (try (exfalso; omega))
  all_goals try (first | omega | (rw [ByteArray.size_append]; omega))
  all_goals
   refine ⟨⟨k + 1, by omega⟩, Weak_subEq rfl ?_, by dsimp only; omega⟩
   first | simp [sub, upd, txtK, ht, -List.getD_eq_getElem?_getD, show decide (0 < k) = true from decide_eq_true (by omega)] | simp [sub, upd, txtK, ht, -List.getD_eq_getElem?_getD, show decide (0 < k) = false from decide_eq_false (by omega)]
 ·obtain rfl : k = p.length := by omega
  repeat' first | refine vs T rfl fun K hK => ?_; (try simp (disch := omega) only [go_sem, Nat.reduceBEq]); (refine hK _ _ ?_; clear hK K) | refine st rfl ?_ | refine sc rfl ?_ | refine nl ?_ | with_reducible refine gsplit_intro (fun hc => ?_) (fun hc => ?_) <;> (try simp only [decide_eq_true_eq, decide_eq_false_iff_not, Int.not_lt] at hc) <;> (try (exfalso; omega))
  exact ret1 T (List.nil_sublist _) ⟨rfl, rfl⟩
abbrev byS (s : ByteArray) (k : Nat) : Int := ((s.data.toList.getD k 0).toNat : Nat)
def cutAt (s : ByteArray) (k : Nat) : Bool := match decide (k < s.size) with | true => decide (byS s k = 32) | false => true
def parK (u : Un) (m : Int) (s : ByteArray) : Nat → Option (Nat × List Int)
 | 0 => some (0, [])
 | k + 1 => match parK u m s k with
  | none => none
  | some (f, o) => match cutAt s k with
   | true => match decide (numF (agsF u m) (s.extract f k) < 0) with
    | true => none
    | false => some (k + 1, o ++ [numF (agsF u m) (s.extract f k)])
   | false => some (f, o)
def parF (u : Un) (m : Int) (s : ByteArray) : Option (List Int) := match decide (s = b0) with
 | true => some []
 | false => (parK u m s (s.size + 1)).map (·.2)
def parD : Option (List Int) → D
 | some p => .tup [ints p, iD 0]
 | none => .tup [ints [], iD 8]
theorem parK_no {u : Un} {m : Int} {s : ByteArray} : ∀ {d k : Nat}, parK u m s k = none → parK u m s (k + d) = none
 | 0, k, h => h
 | d + 1, k, h => by rw [← Nat.add_assoc]; unfold parK; rw [parK_no (d := d) h]
theorem parK_at {u : Un} {m : Int} {s : ByteArray} : ∀ {k f : Nat} {o : List Int}, parK u m s k = some (f, o) → f ≤ k ∧ o.length ≤ k
 | 0, f, o, h => by cases h; exact ⟨Nat.le_refl _, Nat.le_refl _⟩
 | k + 1, f, o, h => by
  unfold parK at h
  cases hp : parK u m s k with
  | none => rw [hp] at h; cases h
  | some x =>
   obtain ⟨f', o'⟩ := x
   have := parK_at hp
   rw [hp] at h
   dsimp only at h
   split at h
   ·split at h
    ·cases h
    ·cases h
     simp only [List.length_append, List.length_cons, List.length_nil]
     omega
   ·cases h
    omega
theorem numF_ge (l : List Ag) (s : ByteArray) : -1 ≤ numF l s := by
 unfold numF
 split <;> omega
theorem parK_cut {u : Un} {m : Int} {s : ByteArray} {k f : Nat} {o : List Int} (h : parK u m s k = some (f, o)) (hc : cutAt s k = true) :
  parK u m s (k + 1) = match decide (numF (agsF u m) (s.extract f k) = -1) with | true => none | false => some (k + 1, o ++ [numF (agsF u m) (s.extract f k)]) := by
 have := numF_ge (agsF u m) (s.extract f k)
 rw [show decide (numF (agsF u m) (s.extract f k) = -1) = decide (numF (agsF u m) (s.extract f k) < 0) by rw [decide_eq_decide]; omega]
 unfold parK
 rw [h]
 dsimp only
 rw [hc]
theorem parK_go {u : Un} {m : Int} {s : ByteArray} {k f : Nat} {o : List Int} (h : parK u m s k = some (f, o)) (hc : cutAt s k = false) : parK u m s (k + 1) = some (f, o) := by
 unfold parK
 rw [h]
 dsimp only
 rw [hc]
theorem cutAt_1 {s : ByteArray} {k : Nat} (hk : k < s.size) (h : byS s k = 32) : cutAt s k = true := by simp only [cutAt, decide_eq_true hk, decide_eq_true h]
theorem cutAt_0 {s : ByteArray} {k : Nat} (hk : k < s.size) (h : byS s k ≠ 32) : cutAt s k = false := by simp only [cutAt, decide_eq_true hk, decide_eq_false h]
theorem cutAt_e {s : ByteArray} {k : Nat} (hk : s.size ≤ k) : cutAt s k = true := by simp only [cutAt, decide_eq_false (Nat.not_lt.2 hk)]
theorem parF_no {u : Un} {m : Int} {s : ByteArray} {k : Nat} (h0 : s ≠ b0) (hk : k ≤ s.size + 1) (h : parK u m s k = none) : parF u m s = none := by
 unfold parF
 rw [decide_eq_false h0]
 dsimp only
 rw [show s.size + 1 = k + (s.size + 1 - k) by omega, parK_no h]
 rfl
theorem parF_yes {u : Un} {m : Int} {s : ByteArray} {f : Nat} {o : List Int} (h0 : s ≠ b0) (h : parK u m s (s.size + 1) = some (f, o)) : parF u m s = some o := by
 unfold parF
 rw [decide_eq_false h0]
 dsimp only
 rw [h]
 rfl
theorem fz_int2 {g : Option (Nat × Nat)} {e : TypeId} {s : List Int} {H : Heap} {a : D} (hg : gOk g s.length) (hm : ∀ b cap, g = some (b, cap) → (b, HC.cells e (cap * 1) (s.map iD)) ∈ H) : Fz H (.tup [ints s, a]) (.tup [.gs g s.length, a]) :=
 ⟨_, rfl, fz_cons (Fz_ints hg hm) (FzL.refl _ _)⟩
theorem fz_int0 {H : Heap} {a : D} : Fz H (.tup [ints [], a]) (.tup [.gs none 0, a]) := fz_int2 (e := 0) (s := []) rfl (fun _ _ e => nomatch e)
abbrev pcH (bf bo bs bm bu : Nat) (f : Int) (g : Option (Nat × Nat)) (o : List Int) (s : ByteArray) (m : Int) (u : Un) : Heap :=
 (bf, .cells 3 1 [iD f]) :: (bo, .cells 22 1 [.gs g o.length]) :: (bs, .cells 9 1 [sD s]) :: (bm, .cells 3 1 [iD m]) :: (bu, .cells 25 4 (unC u)) :: shp g 3 1 (o.map iD) []
theorem parse1_ok (u : Un) (hu : OkU u) (m : Int) (s : ByteArray) (hs : s.size ≤ 1000000) (k f : Nat) (hk : k ≤ s.size) (hf : f ≤ k) (o : List Int) (ho : o.length ≤ 1000000) (g : Option (Nat × Nat)) (bf bo bs bm bu : Nat) :
  Fun Tryz.prog 74 [iD (k : Nat), pD bu, pD bm, pD bs, pD bf, pD bo] (pcH bf bo bs bm bu (f : Nat) g o s m u) false
  (fun d H' => ∃ g' : Option (Nat × Nat), gOk g' (o.length + 1) ∧ d = bD (!decide (numF (agsF u m) (s.extract f k) = -1)) ∧ H' = pcH bf bo bs bm bu ((k : Int) + 1) g' (o ++ [numF (agsF u m) (s.extract f k)]) s m u) := by
 have cn := numM_ok u hu m (s.extract f k)
 generalize hn : numF (agsF u m) (s.extract f k) = n at *
 refine Fun.of T [.tmp 7] Tryz.func74 rfl Tryz.ntmps74 Tryz.results74 rfl (by kernel_rfl) ?_
 refine VC.nodup fun hn => ?_
 simp only [Heap.blocks, List.map_cons, List.nodup_cons, List.mem_cons, not_or] at hn
 obtain ⟨⟨q1, q2, q3, q4, _⟩, ⟨q5, q6, q7, _⟩, ⟨q8, q9, _⟩, ⟨q10, _⟩, _⟩ := hn
 repeat' first | refine dr (id := 1) T 6 (by kernel_rfl) ?_ | refine gn ?_ | apply VCg.step T rfl rfl; focus ((try simp (disch := omega) only [go_sem, Nat.reduceBEq, Nat.reduceAdd, Nat.reduceLeDiff, Int.toNat_natCast]); (first | exact rfl | refine ⟨?_, rfl⟩; try omega)) | refine vs T rfl fun K hK => ?_; (try simp (disch := omega) only [go_sem, Nat.reduceBEq, Nat.reduceAdd, Nat.reduceMul, Nat.reduceLeDiff, w64]); (first | refine hK _ _ ?_; clear hK K | refine ⟨_, _, _, _, (by repeat (first | exact Sp.here | apply Sp.cons)), ?_, (by exact ⟨rfl, rfl⟩), ⟨by decide, ?_⟩, fun g' hg' => hK _ _ ?_⟩ <;> clear hK K | refine Op1.callp rfl rfl (cn) rfl ?_; refine hK _ _ ?_; clear hK K) | refine st rfl ?_ | refine nl ?_
 ·simp
 ·omega
 ·exact ret1 T (List.Sublist.refl _) ⟨g', hg', by by_cases h : n = -1 <;> simp [upd, h], by simp only [pcH, List.map_append, List.length_append, List.length_cons, List.length_nil, Nat.zero_add]; rfl⟩
abbrev pcF (bf bo bs bm bu : Nat) : D := .is (.func (.func 74) #[] #[.pointer (some ⟨bu, 0, none⟩), .pointer (some ⟨bm, 0, none⟩), .pointer (some ⟨bs, 0, none⟩), .pointer (some ⟨bf, 0, none⟩), .pointer (some ⟨bo, 0, none⟩)])
theorem parse_ok16 (u : Un) (hu : OkU u) (m : Int) (s : ByteArray) (hs : s.size ≤ 1000000) : Pure Tryz.prog 33 [.agg (unC u), iD m, sD s] (parD (parF u m s)) := by
 refine Fun.fz ?_
 refine Fun.of T [.tmp 6, .tmp 7] Tryz.func33 rfl Tryz.ntmps33 Tryz.results33 rfl (by kernel_rfl) ?_
 cases h0 : decide (s = b0) with
 | true =>
  have hF : parF u m s = some [] := by simp only [parF, h0]
  rw [hF]
  simp only [decide_eq_true_eq] at h0
  repeat' first | refine vs T rfl fun K hK => ?_; (try simp (disch := omega) only [go_sem, Nat.reduceBEq, Nat.reduceAdd, h0]); (first | refine hK _ _ ?_; clear hK K | intro bq hbq; (try simp only [HB] at hbq); refine hK _ _ ?_; clear hK K) | refine st rfl ?_ | refine sc rfl ?_ | refine nl ?_
  exact ret2 T (List.nil_sublist _) fz_int0
 | false =>
 simp only [decide_eq_false_iff_not] at h0
 repeat' first | refine vs T rfl fun K hK => ?_; (try simp (disch := omega) only [go_sem, Nat.reduceBEq, Nat.reduceAdd, Nat.reduceLeDiff, h0]); (first | refine hK _ _ ?_; clear hK K | intro bq hbq; (try simp only [HB] at hbq); refine hK _ _ ?_; clear hK K | skip) | refine st rfl ?_ | refine sc rfl ?_ | refine nl ?_
 rename_i b3 _ b4 _ b5 _ b8 _
 refine r_mkFunc (cs := [.tmp 3, .tmp 4, .tmp 5, .tmp 9, .tmp 8]) (us := [.pointer (some ⟨b3, 0, none⟩), .pointer (some ⟨b4, 0, none⟩), .pointer (some ⟨b5, 0, none⟩), .pointer (some ⟨bq, 0, none⟩), .pointer (some ⟨b8, 0, none⟩)]) rfl rfl ?_
 refine hK _ _ ?_
 clear hK K
 repeat' first | refine vs T rfl fun K hK => ?_; (try simp (disch := omega) only [go_sem, Nat.reduceBEq]); (refine hK _ _ ?_; clear hK K) | refine st rfl ?_ | refine nl ?_
 refine VC.loop {p : Nat × Nat × List Int × Option (Nat × Nat) // p.1 ≤ s.size ∧ parK u m s p.1 = some (p.2.1, p.2.2.1)} (fun p => ⟨lookD [(5, pD b5), (8, pD b8), (10, pcF bq b8 b5 b4 b3), (16, iD (s.size : Nat)), (17, iD (p.1.1 : Nat))], pcH bq b8 b5 b4 b3 (p.1.2.1 : Nat) p.1.2.2.2 p.1.2.2.1 s m u⟩) (fun p => s.size - p.1.1) ⟨(0, 0, [], none), by dsimp only; exact ⟨by omega, rfl⟩⟩ ?_ ?_
 ·refine Weak_subEq rfl ?_
  simp [sub, upd]
 rintro ⟨⟨k, f, o, g⟩, hk, hp⟩
 dsimp only at hk hp ⊢
 have hf := parK_at hp
 refine VC.nodup fun hn => ?_
 simp only [Heap.blocks, List.map_cons, List.nodup_cons, List.mem_cons, not_or] at hn
 obtain ⟨⟨q1, q2, q3, q4, _⟩, ⟨q5, q6, q7, _⟩, ⟨q8, q9, _⟩, ⟨q10, _⟩, _⟩ := hn
 have c1 := parse1_ok u hu m s hs k f hk hf.1 o (by omega) g bq b8 b5 b4 b3
 repeat' first | refine vs T rfl fun K hK => ?_; (try simp (disch := omega) only [go_sem, Nat.reduceBEq, Int.toNat_natCast, w64]); (first | refine hK _ _ ?_; clear hK K | refine ⟨?_, hK _ _ ?_⟩ <;> clear hK K; focus (try omega) | skip) | refine st rfl ?_ | refine sc rfl ?_ | refine nl ?_ | refine gs rfl rfl ?_ | with_reducible refine gsplit_intro (fun hc => ?_) (fun hc => ?_) <;> (try simp only [decide_eq_true_eq, decide_eq_false_iff_not, beq_iff_eq, beq_eq_false_iff_ne, ne_eq, Int.not_lt] at hc)
 ·refine Op1.callG (Hr := []) rfl rfl rfl c1 (by rw [List.append_nil]) (fun d H' h => ?_)
  obtain ⟨g', hg', rfl, rfl⟩ := h
  refine hK _ _ ?_
  clear hK K
  rw [List.append_nil]
  have h1 := parK_cut hp (cutAt_1 (by omega) (by assumption))
  cases hd : decide (numF (agsF u m) (s.extract f k) = -1) with
  | true =>
   rw [hd] at h1
   repeat' first | refine vs T rfl fun K hK => ?_; (try simp (disch := omega) only [go_sem, Nat.reduceBEq, Bool.not_true, Bool.not_false]); (refine hK _ _ ?_; clear hK K) | refine st rfl ?_ | refine sc rfl ?_ | refine nl ?_ | refine gs rfl rfl ?_
   rw [parF_no h0 (by omega) h1]
   exact ret2 T (List.nil_sublist _) fz_int0
  | false =>
   rw [hd] at h1
   repeat' first | refine vs T rfl fun K hK => ?_; (try simp (disch := omega) only [go_sem, Nat.reduceBEq, Bool.not_true, Bool.not_false, w64]); (refine hK _ _ ?_; clear hK K) | refine st rfl ?_ | refine sc rfl ?_ | refine nl ?_ | refine gs rfl rfl ?_
   refine ⟨⟨(k + 1, k + 1, o ++ [numF (agsF u m) (s.extract f k)], g'), by dsimp only; exact ⟨by omega, h1⟩⟩, Weak_subEq rfl ?_, by dsimp only; omega⟩
   simp [sub, upd]
 ·refine ⟨⟨(k + 1, f, o, g), by dsimp only; exact ⟨by omega, parK_go hp (cutAt_0 (by omega) hc)⟩⟩, Weak_subEq rfl ?_, by dsimp only; omega⟩
  simp [sub, upd]
 ·obtain rfl : k = s.size := by omega
  refine Op1.callG (Hr := []) rfl rfl rfl c1 (by rw [List.append_nil]) (fun d H' h => ?_)
  obtain ⟨g', hg', rfl, rfl⟩ := h
  refine hK _ _ ?_
  clear hK K
  rw [List.append_nil]
  have h1 := parK_cut hp (cutAt_e (by omega))
  cases hd : decide (numF (agsF u m) (s.extract f s.size) = -1) with
  | true =>
   rw [hd] at h1
   repeat' first | refine vs T rfl fun K hK => ?_; (try simp (disch := omega) only [go_sem, Nat.reduceBEq, Bool.not_true, Bool.not_false]); (refine hK _ _ ?_; clear hK K) | refine st rfl ?_ | refine sc rfl ?_ | refine nl ?_
   rw [parF_no h0 (by omega) h1]
   exact ret2 T (List.nil_sublist _) fz_int0
  | false =>
   rw [hd] at h1
   repeat' first | refine vs T rfl fun K hK => ?_; (try simp (disch := omega) only [go_sem, Nat.reduceBEq, Bool.not_true, Bool.not_false]); (refine hK _ _ ?_; clear hK K) | refine st rfl ?_ | refine sc rfl ?_ | refine nl ?_
   rw [parF_yes h0 h1]
   exact ret2 T (List.Sublist.refl _) (fz_int2 (e := 3) (by rw [List.length_append]; exact hg') fun b cap e => by subst e; exact List.mem_cons_of_mem _ (List.mem_cons_of_mem _ (List.mem_cons_of_mem _ (List.mem_cons_of_mem _ (List.mem_cons_of_mem _ mem_shp0)))))
end Go.Proofs.YtomcmfbpmkklmaaGreat
