/- Contracts: store. No condition. -/
import Derived.Test.YtfifcjgcajpnoaaWb
namespace Go.Proofs.Ytfifcjgcajpnoaa
set_option linter.unusedSimpArgs false
set_option linter.unusedVariables false
open Go Go.Proofs Go.Vc
attribute [local irreducible] retQ VCg VCw

theorem Weak_subEq {env : Nat → D} {env' : List (Nat × D)} {H H' : Heap} (hh : H = H') (h : Vc.sub env env') : Weak ⟨env, H⟩ ⟨lookD env', H'⟩ := hh ▸ Weak.sub h
theorem Weak_subH {env : Nat → D} {env' : List (Nat × D)} {x : Nat × HC} {H H' : Heap} (hh : H = H') (h : Vc.sub env env') : Weak ⟨env, x :: H⟩ ⟨lookD env', H'⟩ := Weak.subH (hh ▸ List.sublist_cons_self _ _) h
theorem VC_gok {P : Program} {n : Nat} {c : Code} {s : St} {Q : Exit → St → Prop} {t m : Nat} {g : Option (Nat × Nat)} (ht : s.env t = .gs g m) (h : gOk g m → VC P n c s Q) : VC P n c s Q := fun x a w hn hs =>
  h (by have := hs.env t; rw [ht, Rel] at this; exact this.2) x a w hn hs

theorem eq25 (a b a' b' : Int) : EqS Try.prog 70 [.int .i64 a, .int .i64 b] [.int .i64 a', .int .i64 b'] (a == a' && b == b') := by
  refine ⟨by kernel_rfl, fun w => ?_⟩
  have u3 := Try.underlying3
  have a3 := Try.isAgg3
  have z3 := Try.sizeOf3
  have hS : Try.prog.underlying 70 = some (.struct (Try.prog.fieldsOf 70)) := by kernel_rfl
  have hp : Try.prog.stoodInHeld 70 = false := by kernel_rfl
  rw [show (10000 : Nat) = 9999 + 1 from rfl, run_equalIn_agg w 9999 70 _ _ hS hp]
  simp only [Program.fieldsOf, Try.underlying70]
  go_simp
  by_cases h1 : a = a' <;> by_cases h2 : b = b' <;> simp [h1, h2]

theorem fstI_at {loc : Int} : ∀ {b : List En} {k : Nat} {x : En}, b[k]? = some x → x.1 = loc → (∀ i y, i < k → b[i]? = some y → y.1 ≠ loc) → fstI loc b = some k
  | x0 :: r, 0, x, h, hx, _ => by
    obtain rfl : x0 = x := by simpa using h
    simp [fstI, hx]
  | x0 :: r, k + 1, x, h, hx, hno => by
    have h0 : x0.1 ≠ loc := hno 0 x0 (by omega) rfl
    have := fstI_at (b := r) (k := k) (by simpa using h) hx fun i y hi hy => hno (i + 1) y (by omega) (by simpa using hy)
    simp [fstI, h0, this]
theorem fstI_no {loc : Int} : ∀ {b : List En}, (∀ (i : Nat) (y : En), b[i]? = some y → y.1 ≠ loc) → fstI loc b = none
  | [], _ => rfl
  | x0 :: r, hno => by
    have h0 : x0.1 ≠ loc := hno 0 x0 rfl
    have := fstI_no (b := r) fun i y hy => hno (i + 1) y (by simpa using hy)
    simp [fstI, h0, this]

def idxI : Option Nat → Int
  | some k => k
  | none => -1
theorem first_ok (b : List En) (hb : b.length ≤ 1000000) (loc : Int) : Pure Try.prog 115 [buf b, iD loc] (iD (idxI (fstI loc b))) := by
  refine Fun.of T [.tmp 4] Try.func115 rfl Try.ntmps115 Try.results115 rfl (by kernel_rfl) ?_
  repeat' first | refine vs T rfl fun K hK => ?_; (try simp (disch := omega) only [go_sem, Nat.reduceBEq]); (refine hK _ _ ?_; clear hK K) | refine st rfl ?_ | refine nl ?_
  refine VC.loop {k : Nat // k ≤ b.length ∧ ∀ i y, i < k → b[i]? = some y → y.1 ≠ loc} (fun p => ⟨lookD [(1, iD loc), (7, buf b), (8, iD (b.length : Nat)), (9, iD (p.1 : Nat))], []⟩) (fun p => b.length - p.1) ⟨0, by omega, fun i y hi => by omega⟩ ?_ ?_
  · refine Weak.sub ?_
    simp [sub, upd, eRs]
  · rintro ⟨k, hk, hno⟩
    dsimp only
    rcases Nat.lt_or_ge k b.length with hlt | hge
    · have hd : decide ((k : Int) < (b.length : Int)) = true := by simp; omega
      have hw : IntKind.i64.wrap ((k : Int) + 1) = ((k + 1 : Nat) : Int) := by rw [w64 (by omega)]; omega
      obtain ⟨x, hx⟩ : ∃ x, b[k]? = some x := ⟨_, List.getElem?_eq_getElem hlt⟩
      have hrow : (eRs b)[k]? = some [iD x.1, iD x.2] := by rw [eRs_at, hx]; rfl
      by_cases he : x.1 = loc
      · have he' : (x.1 == loc) = true := by simpa using he
        have hf := fstI_at hx he hno
        repeat' first | refine vs T rfl fun K hK => ?_; (try simp (disch := omega) only [go_sem, Nat.reduceBEq, Nat.reduceAdd, Nat.reduceLeDiff, hd, hrow, he', eRs_len]); (first | refine hK _ _ ?_; clear hK K | intro bq hbq; (try simp only [HB] at hbq); refine hK _ _ ?_; clear hK K | refine ⟨?_, hK _ _ ?_⟩ <;> clear hK K; focus (try omega)) | refine st rfl ?_ | refine sc rfl ?_ | refine nl ?_ | refine ret1 T (List.nil_sublist _) ?_; (try simp only [upd, Nat.reduceBEq, cond_true, cond_false, and_true, hf, idxI])
      · have he' : (x.1 == loc) = false := by simpa using he
        repeat' first | refine vs T rfl fun K hK => ?_; (try simp (disch := omega) only [go_sem, Nat.reduceBEq, Nat.reduceAdd, Nat.reduceLeDiff, hd, hw, hrow, he', eRs_len]); (first | refine hK _ _ ?_; clear hK K | intro bq hbq; (try simp only [HB] at hbq); refine hK _ _ ?_; clear hK K | refine ⟨?_, hK _ _ ?_⟩ <;> clear hK K; focus (try omega)) | refine st rfl ?_ | refine sc rfl ?_ | refine nl ?_
        refine ⟨⟨k + 1, by omega, fun i y hi hy => ?_⟩, Weak_subH rfl ?_, by simp only []; omega⟩
        · rcases Nat.lt_or_ge i k with h' | h'
          · exact hno i y h' hy
          · obtain rfl : i = k := by omega
            rw [hx] at hy; cases hy; exact he
        · simp [sub, upd]
    · have hd : decide ((k : Int) < (b.length : Int)) = false := by simp; omega
      have hf : fstI loc b = none := fstI_no fun i y hy => hno i y (by have := (List.getElem?_eq_some_iff.1 hy).1; omega) hy
      repeat' first | refine vs T rfl fun K hK => ?_; (try simp (disch := omega) only [go_sem, Nat.reduceBEq, hd]); (refine hK _ _ ?_; clear hK K) | refine st rfl ?_ | refine sc rfl ?_ | refine nl ?_ | refine ret1 T (List.nil_sublist _) ?_; (try simp only [upd, Nat.reduceBEq, cond_true, cond_false, and_true, hf, idxI])

theorem count_ok (b : List En) (hb : b.length ≤ 1000000) (loc : Int) : Pure Try.prog 101 [buf b, iD loc] (iD (cntF loc b : Nat)) := by
  refine Fun.of T [.tmp 4] Try.func101 rfl Try.ntmps101 Try.results101 rfl (by kernel_rfl) ?_
  repeat' first | refine vs T rfl fun K hK => ?_; (try simp (disch := omega) only [go_sem, Nat.reduceBEq]); (refine hK _ _ ?_; clear hK K) | refine st rfl ?_ | refine nl ?_
  refine VC.loop {k : Nat // k ≤ b.length} (fun p => ⟨lookD [(1, iD loc), (5, iD (cntF loc (b.take p.1) : Nat)), (8, buf b), (9, iD (b.length : Nat)), (10, iD (p.1 : Nat))], []⟩) (fun p => b.length - p.1) ⟨0, by omega⟩ ?_ ?_
  · refine Weak.sub ?_
    simp [sub, upd, eRs, cntF]
  · rintro ⟨k, hk⟩
    dsimp only
    have hc : cntF loc (b.take k) ≤ b.length := Nat.le_trans List.countP_le_length (by rw [List.length_take]; omega)
    rcases Nat.lt_or_ge k b.length with hlt | hge
    · have hd : decide ((k : Int) < (b.length : Int)) = true := by simp; omega
      have hw : IntKind.i64.wrap ((k : Int) + 1) = ((k + 1 : Nat) : Int) := by rw [w64 (by omega)]; omega
      have hw2 : IntKind.i64.wrap ((cntF loc (b.take k) : Nat) + 1 : Int) = ((cntF loc (b.take k) + 1 : Nat) : Int) := by rw [w64 (by omega)]; omega
      obtain ⟨x, hx⟩ : ∃ x, b[k]? = some x := ⟨_, List.getElem?_eq_getElem hlt⟩
      have hrow : (eRs b)[k]? = some [iD x.1, iD x.2] := by rw [eRs_at, hx]; rfl
      have ht : b.take (k + 1) = b.take k ++ [x] := by rw [List.take_add_one, hx]; rfl
      by_cases he : x.1 = loc
      · have he' : (x.1 == loc) = true := by simpa using he
        have hn : cntF loc (b.take (k + 1)) = cntF loc (b.take k) + 1 := by rw [ht, cntF, List.countP_append]; simp [he, cntF]
        repeat' first | refine vs T rfl fun K hK => ?_; (try simp (disch := omega) only [go_sem, Nat.reduceBEq, Nat.reduceAdd, Nat.reduceLeDiff, hd, hw, hw2, hrow, he', eRs_len]); (first | refine hK _ _ ?_; clear hK K | intro bq hbq; (try simp only [HB] at hbq); refine hK _ _ ?_; clear hK K | refine ⟨?_, hK _ _ ?_⟩ <;> clear hK K; focus (try omega)) | refine st rfl ?_ | refine sc rfl ?_ | refine nl ?_
        refine ⟨⟨k + 1, by omega⟩, Weak_subH rfl ?_, by simp only []; omega⟩
        simp [sub, upd, hn]
      · have he' : (x.1 == loc) = false := by simpa using he
        have hn : cntF loc (b.take (k + 1)) = cntF loc (b.take k) := by rw [ht, cntF, List.countP_append]; simp [he, cntF]
        repeat' first | refine vs T rfl fun K hK => ?_; (try simp (disch := omega) only [go_sem, Nat.reduceBEq, Nat.reduceAdd, Nat.reduceLeDiff, hd, hw, hrow, he', eRs_len]); (first | refine hK _ _ ?_; clear hK K | intro bq hbq; (try simp only [HB] at hbq); refine hK _ _ ?_; clear hK K | refine ⟨?_, hK _ _ ?_⟩ <;> clear hK K; focus (try omega)) | refine st rfl ?_ | refine sc rfl ?_ | refine nl ?_
        refine ⟨⟨k + 1, by omega⟩, Weak_subH rfl ?_, by simp only []; omega⟩
        simp [sub, upd, hn]
    · have hd : decide ((k : Int) < (b.length : Int)) = false := by simp; omega
      have ht : b.take k = b := List.take_of_length_le hge
      repeat' first | refine vs T rfl fun K hK => ?_; (try simp (disch := omega) only [go_sem, Nat.reduceBEq, hd, ht]); (refine hK _ _ ?_; clear hK K) | refine st rfl ?_ | refine sc rfl ?_ | refine nl ?_ | exact ret1 T (List.nil_sublist _) ⟨rfl, rfl⟩

def roomF (m r loc : Int) (b : List En) : Bool := if m = 2 then decide ((b.length : Int) < r) else if m = 3 then decide (((cntF loc b : Nat) : Int) < r) else false
theorem room_ok (b : List En) (hb : b.length ≤ 1000000) (m r loc : Int) : Pure Try.prog 94 [buf b, iD m, iD r, iD loc] (bD (roomF m r loc b)) := by
  refine Fun.of T [.tmp 8] Try.func94 rfl Try.ntmps94 Try.results94 rfl (by kernel_rfl) ?_
  by_cases h2 : m = 2
  · subst h2
    repeat' first | refine vs T rfl fun K hK => ?_; (try simp (disch := omega) only [go_sem, Nat.reduceBEq, Nat.reduceAdd, eRs_len]); (refine hK _ _ ?_; clear hK K) | refine st rfl ?_ | refine sc rfl ?_ | refine nl ?_ | exact ret1 T (List.nil_sublist _) ⟨rfl, rfl⟩
  · have e2 : (m == 2) = false := by simpa using h2
    by_cases h3 : m = 3
    · subst h3
      repeat' first | refine vs T rfl fun K hK => ?_; (try simp (disch := omega) only [go_sem, Nat.reduceBEq, Nat.reduceAdd]); (first | refine hK _ _ ?_; clear hK K | refine Op1.callp rfl rfl (count_ok b hb _) rfl ?_; refine hK _ _ ?_; clear hK K) | refine st rfl ?_ | refine sc rfl ?_ | refine nl ?_ | exact ret1 T (List.nil_sublist _) ⟨rfl, rfl⟩
    · have e3 : (m == 3) = false := by simpa using h3
      repeat' first | refine vs T rfl fun K hK => ?_; (try simp (disch := omega) only [go_sem, Nat.reduceBEq, Nat.reduceAdd, e2, e3]); (refine hK _ _ ?_; clear hK K) | refine st rfl ?_ | refine sc rfl ?_ | refine nl ?_ | refine ret1 T (List.nil_sublist _) ?_; (try simp only [upd, Nat.reduceBEq, cond_true, cond_false, and_true])
      simp [roomF, h2, h3]

def zE (n : Nat) : List En := List.replicate n (0, 0)
theorem zE_len (n : Nat) : (zE n).length = n := List.length_replicate
theorem zeros2 (n : Nat) : zerosD n [.int .i64 0, .int .i64 0] = (eRs (zE n)).flatten := by
  unfold zerosD eRs zE
  rw [List.map_replicate]
  rfl
theorem eRs_append (a b : List En) : eRs (a ++ b) = eRs a ++ eRs b := List.map_append ..
theorem setL_nil (l : List D) (o : Nat) : setL l o [] = l := by rw [setL]
theorem setL_app : ∀ (p c q r : List D), q.length = c.length → setL (p ++ q ++ r) p.length c = p ++ c ++ r
  | p, [], q, r, h => by
    have : q = [] := List.eq_nil_of_length_eq_zero h
    subst this
    rw [setL_nil]
  | p, x :: c, [], r, h => by simp at h
  | p, x :: c, y :: q, r, h => by
    rw [setL]
    have e1 : (p ++ y :: q ++ r).set p.length x = (p ++ [x]) ++ q ++ r := by
      rw [List.append_assoc, List.set_append_right _ _ (Nat.le_refl _), Nat.sub_self, List.cons_append, List.set_cons_zero]
      simp
    rw [e1, show p.length + 1 = (p ++ [x]).length by simp, setL_app (p ++ [x]) c q r (by simpa using h)]
    simp
/-- Entries written over others. -/
theorem setL_eRs (b c : List En) (k : Nat) (h : k + c.length ≤ b.length) : setL (eRs b).flatten (k * 2) (eRs c).flatten = (eRs (b.take k ++ c ++ b.drop (k + c.length))).flatten := by
  have e : b = b.take k ++ (b.drop k).take c.length ++ b.drop (k + c.length) := by
    rw [List.append_assoc, ← List.drop_drop, List.take_append_drop, List.take_append_drop]
  have hk : (eRs (b.take k)).flatten.length = k * 2 := by rw [eRs_flat, List.length_take]; rw [Nat.min_eq_left (by omega)]
  conv => lhs; rw [e]
  rw [eRs_append, eRs_append, List.flatten_append, List.flatten_append, ← hk, setL_app _ _ _ _ (by rw [eRs_flat, eRs_flat, List.length_take, List.length_drop]; rw [Nat.min_eq_left (by omega)])]
  rw [eRs_append, eRs_append, List.flatten_append, List.flatten_append]

theorem own_ok (b : List En) (hb : b.length ≤ 1000000) : Pure Try.prog 105 [buf b] (buf b) := by
  refine Fun.freeze (eRs_row b) ?_
  have h1 : (eRs b).flatten.take (b.length * 2) = (eRs b).flatten := List.take_of_length_le (by rw [eRs_flat]; exact Nat.le_refl _)
  refine Fun.of T [.tmp 2] Try.func105 rfl Try.ntmps105 Try.results105 rfl (by kernel_rfl) ?_
  repeat' first | refine vs T rfl fun K hK => ?_; (try simp (disch := omega) only [go_sem, Nat.reduceBEq, eRs_len, zeros2]); (first | refine hK _ _ ?_; clear hK K | refine ⟨?_, fun bq hbq => ?_⟩; rotate_left; (try simp only [HB] at hbq); refine hK _ _ ?_; all_goals clear hK K | refine r_copy T rfl ?_; (simp (disch := omega) only [go_sem, Nat.reduceBEq, eRs_len, Nat.min_self, h1]); (refine ⟨?_, hK _ _ ?_⟩ <;> clear hK K)) | refine st rfl ?_ | refine nl ?_
  · rw [eRs_flat, zE_len]; exact Nat.le_refl _
  · have h2 : setL (eRs (zE b.length)).flatten 0 (eRs b).flatten = (eRs b).flatten := by
      have := setL_eRs (zE b.length) b 0 (by rw [zE_len]; omega)
      simpa [zE] using this
    rw [h2]
    exact ret1 T (List.Sublist.refl _) ⟨some (bq, b.length), 70, by rw [eRs_len]; rfl, rfl⟩
  · omega

theorem eRs_tk (b : List En) (k : Nat) : (eRs b).take k = eRs (b.take k) := by rw [eRs, eRs, List.map_take]
theorem eRs_dr (b : List En) (k : Nat) : (eRs b).drop k = eRs (b.drop k) := by rw [eRs, eRs, List.map_drop]
theorem eRs_all (b : List En) (n : Nat) (h : n = b.length) : (eRs b).flatten.take (n * 2) = (eRs b).flatten := List.take_of_length_le (by rw [eRs_flat, h]; exact Nat.le_refl _)
def putF (k : Nat) (e : En) (b : List En) : List En := b.take k ++ e :: b.drop k
theorem putF_len (k : Nat) (e : En) (b : List En) (hk : k ≤ b.length) : (putF k e b).length = b.length + 1 := by
  simp [putF]; omega
theorem put_ok (b : List En) (hb : b.length ≤ 1000000) (k : Nat) (hk : k ≤ b.length) (e1 e2 : Int) : Pure Try.prog 104 [buf b, iD (k : Nat), .agg [iD e1, iD e2]] (buf (putF k (e1, e2) b)) := by
  refine Fun.freeze (eRs_row _) ?_
  have hw : IntKind.i64.wrap ((b.length : Int) + 1) = ((b.length + 1 : Nat) : Int) := by rw [w64 (by omega)]; omega
  have hw2 : IntKind.i64.wrap ((k : Int) + 1) = ((k + 1 : Nat) : Int) := by rw [w64 (by omega)]; omega
  have hl : (b.take k).length = k := by rw [List.length_take]; omega
  have m1 : Nat.min (b.take k).length (b.length + 1) = k := by rw [hl]; exact Nat.min_eq_left (by omega)
  have t1 := eRs_all (b.take k) k hl.symm
  have hz : ∀ n m, (zE n).drop m = zE (n - m) := fun n m => List.drop_replicate ..
  have h1 : setL (eRs (zE (b.length + 1))).flatten 0 (eRs (b.take k)).flatten = (eRs (b.take k ++ zE (b.length + 1 - k))).flatten := by
    have := setL_eRs (zE (b.length + 1)) (b.take k) 0 (by rw [zE_len]; omega)
    rw [Nat.zero_mul, Nat.zero_add, List.take_zero, List.nil_append, hl, hz] at this
    exact this
  have h2 : ((eRs (b.take k ++ zE (b.length + 1 - k))).flatten.set (k * 2) (iD e1)).set (k * 2 + 1) (iD e2) = (eRs (b.take k ++ [(e1, e2)] ++ zE (b.length - k))).flatten := by
    have := setL_eRs (b.take k ++ zE (b.length + 1 - k)) [(e1, e2)] k (by rw [List.length_append, hl, zE_len]; simp; omega)
    have e1' : (b.take k ++ zE (b.length + 1 - k)).take k = b.take k := List.take_left' hl
    have e2' : (b.take k ++ zE (b.length + 1 - k)).drop (k + [((e1, e2) : En)].length) = zE (b.length - k) := by
      rw [← List.drop_drop, List.drop_left' hl, hz]; congr 1; simp; omega
    rw [e1', e2'] at this
    exact this
  have hl2 : (b.drop k).length = b.length - k := List.length_drop
  have m2 : Nat.min (b.drop k).length (b.length + 1 - (k + 1)) = b.length - k := by rw [hl2, show b.length + 1 - (k + 1) = b.length - k by omega]; exact Nat.min_self _
  have t2 := eRs_all (b.drop k) (b.length - k) hl2.symm
  have hl3 : (b.take k ++ [((e1, e2) : En)]).length = k + 1 := by rw [List.length_append, hl]; rfl
  have h3 : setL (eRs (b.take k ++ [(e1, e2)] ++ zE (b.length - k))).flatten ((k + 1) * 2) (eRs (b.drop k)).flatten = (eRs (putF k (e1, e2) b)).flatten := by
    have := setL_eRs (b.take k ++ [(e1, e2)] ++ zE (b.length - k)) (b.drop k) (k + 1) (by rw [List.length_append, hl3, zE_len, hl2]; omega)
    rw [List.take_left' hl3, hl2, ← List.drop_drop, List.drop_left' hl3, hz, Nat.sub_self] at this
    rw [this]
    congr 2
    simp [putF, zE]
  refine Fun.of T [.tmp 6] Try.func104 rfl Try.ntmps104 Try.results104 rfl (by kernel_rfl) ?_
  repeat' first | refine dr (id := 4) T 7 (by kernel_rfl) ?_ | refine gn ?_ | apply VCg.step T rfl rfl; focus ((try simp (disch := omega) only [go_sem, Nat.reduceBEq, eRs_len, hw2, eRs_dr]); (first | exact rfl | refine ⟨?_, rfl⟩; try omega)) | refine vs T rfl fun K hK => ?_; (try simp (disch := omega) only [go_sem, Nat.reduceBEq, Nat.reduceAdd, Nat.reduceLeDiff, eRs_len, hw, h2, zeros2, eRs_tk, eRs_dr]); (first | refine hK _ _ ?_; clear hK K | intro bq hbq; (try simp only [HB] at hbq); refine hK _ _ ?_; clear hK K | refine ⟨?_, hK _ _ ?_⟩ <;> clear hK K; focus (try omega) | refine ⟨?_, fun bq hbq => ?_⟩; rotate_left; (try simp only [HB] at hbq); refine hK _ _ ?_; all_goals clear hK K | refine r_copy T rfl ?_; (simp (disch := omega) only [go_sem, Nat.reduceBEq, eRs_len, m1, t1, h1, m2, t2, h3]); (refine ⟨?_, hK _ _ ?_⟩ <;> clear hK K)) | refine st rfl ?_ | refine nl ?_
  · rw [eRs_flat, zE_len]; omega
  · rw [eRs_flat, List.length_append, hl, zE_len]; omega
  · rw [eRs_flat, List.length_append, hl3, zE_len]; omega
  · refine ret1 T ((List.nil_sublist _).cons_cons _) ⟨some (bq, b.length + 1), 70, ?_, rfl⟩
    rw [eRs_len, putF_len k _ b hk]
    rfl
  · omega

theorem insF_at (e : En) : ∀ (b : List En) (k : Nat) (x : En), b[k]? = some x → x.1 > e.1 → (∀ (i : Nat) (y : En), i < k → b[i]? = some y → ¬ y.1 > e.1) → insF e b = putF k e b
  | x0 :: r, 0, x, h, hx, _ => by
    obtain rfl : x0 = x := by simpa using h
    simp [insF, putF, hx]
  | x0 :: r, k + 1, x, h, hx, hno => by
    have h0 : ¬ x0.1 > e.1 := hno 0 x0 (by omega) rfl
    have := insF_at e r k x (by simpa using h) hx fun i y hi hy => hno (i + 1) y (by omega) (by simpa using hy)
    unfold insF
    simp only [h0, decide_false, this, putF]
    simp
theorem insF_end (e : En) : ∀ (b : List En), (∀ (i : Nat) (y : En), b[i]? = some y → ¬ y.1 > e.1) → insF e b = putF b.length e b
  | [], _ => rfl
  | x0 :: r, hno => by
    have h0 : ¬ x0.1 > e.1 := hno 0 x0 rfl
    have := insF_end e r fun i y hy => hno (i + 1) y (by simpa using hy)
    unfold insF
    simp only [h0, decide_false, this, putF]
    simp
theorem put_end (e : En) (b : List En) : putF b.length e b = b ++ [e] := by simp [putF]

theorem push_ok (b : List En) (hb : b.length ≤ 1000000) (m e1 e2 : Int) : Pure Try.prog 99 [buf b, iD m, .agg [iD e1, iD e2]] (buf (pushF m (e1, e2) b)) := by
  have cEnd := put_ok b hb b.length (Nat.le_refl _) e1 e2
  refine Fun.of T [.tmp 6] Try.func99 rfl Try.ntmps99 Try.results99 rfl (by kernel_rfl) ?_
  by_cases h2 : m = 2
  · subst h2
    have hp : pushF 2 (e1, e2) b = putF b.length (e1, e2) b := by rw [put_end]; rfl
    rw [hp]
    repeat' first | refine vs T rfl fun K hK => ?_; (try simp (disch := omega) only [go_sem, Nat.reduceBEq, Nat.reduceAdd, Nat.reduceLeDiff, eRs_len, beq_self_eq_true]); (first | refine hK _ _ ?_; clear hK K | intro bq hbq; (try simp only [HB] at hbq); refine hK _ _ ?_; clear hK K | refine Op1.callp rfl rfl (cEnd) rfl ?_; refine hK _ _ ?_; clear hK K) | refine st rfl ?_ | refine sc rfl ?_ | refine nl ?_ | exact ret1 T (List.nil_sublist _) ⟨rfl, rfl⟩
  · have e2' : (m == 2) = false := by simpa using h2
    by_cases h3 : m = 3
    · subst h3
      have hp : pushF 3 (e1, e2) b = insF (e1, e2) b := rfl
      rw [hp]
      repeat' first | refine vs T rfl fun K hK => ?_; (try simp (disch := omega) only [go_sem, Nat.reduceBEq, Nat.reduceAdd, eRs_len, e2', beq_self_eq_true]); (first | refine hK _ _ ?_; clear hK K | intro bq hbq; (try simp only [HB] at hbq); refine hK _ _ ?_; clear hK K) | refine st rfl ?_ | refine sc rfl ?_ | refine nl ?_
      refine VC.loop {k : Nat // k ≤ b.length ∧ ∀ (i : Nat) (y : En), i < k → b[i]? = some y → ¬ y.1 > e1} (fun p => ⟨lookD [(0, buf b), (5, .is (.pointer (some ⟨bq, 0, none⟩))), (19, buf b), (20, iD (b.length : Nat)), (21, iD (p.1 : Nat))], [(bq, .cells 70 2 [iD e1, iD e2])]⟩) (fun p => b.length - p.1) ⟨0, by omega, fun i y hi => by omega⟩ ?_ ?_
      · refine Weak.sub ?_
        simp [sub, upd]
      · rintro ⟨k, hk, hno⟩
        dsimp only
        rcases Nat.lt_or_ge k b.length with hlt | hge
        · have hd : decide ((k : Int) < (b.length : Int)) = true := by simp; omega
          have hw : IntKind.i64.wrap ((k : Int) + 1) = ((k + 1 : Nat) : Int) := by rw [w64 (by omega)]; omega
          obtain ⟨x, hx⟩ : ∃ x, b[k]? = some x := ⟨_, List.getElem?_eq_getElem hlt⟩
          have hrow : (eRs b)[k]? = some [iD x.1, iD x.2] := by rw [eRs_at, hx]; rfl
          by_cases he : x.1 > e1
          · have he' : decide (x.1 > e1) = true := by simpa using he
            have hf := insF_at (e1, e2) b k x hx he hno
            have cAt := put_ok b hb k hk e1 e2
            rw [hf]
            repeat' first | refine vs T rfl fun K hK => ?_; (try simp (disch := omega) only [go_sem, Nat.reduceBEq, Nat.reduceAdd, Nat.reduceLeDiff, hd, hrow, he', eRs_len]); (first | refine hK _ _ ?_; clear hK K | intro bq hbq; (try simp only [HB] at hbq); refine hK _ _ ?_; clear hK K | refine ⟨?_, hK _ _ ?_⟩ <;> clear hK K; focus (try omega) | refine Op1.callp rfl rfl (cAt) rfl ?_; refine hK _ _ ?_; clear hK K) | refine st rfl ?_ | refine sc rfl ?_ | refine nl ?_ | exact ret1 T (List.nil_sublist _) ⟨rfl, rfl⟩
          · have he' : decide (x.1 > e1) = false := by simpa using he
            repeat' first | refine vs T rfl fun K hK => ?_; (try simp (disch := omega) only [go_sem, Nat.reduceBEq, Nat.reduceAdd, Nat.reduceLeDiff, hd, hw, hrow, he', eRs_len]); (first | refine hK _ _ ?_; clear hK K | intro bq hbq; (try simp only [HB] at hbq); refine hK _ _ ?_; clear hK K | refine ⟨?_, hK _ _ ?_⟩ <;> clear hK K; focus (try omega)) | refine st rfl ?_ | refine sc rfl ?_ | refine nl ?_
            refine ⟨⟨k + 1, by omega, fun i y hi hy => ?_⟩, Weak_subH rfl ?_, by simp only []; omega⟩
            · rcases Nat.lt_or_ge i k with h' | h'
              · exact hno i y h' hy
              · obtain rfl : i = k := by omega
                rw [hx] at hy; cases hy; exact he
            · simp [sub, upd]
        · have hd : decide ((k : Int) < (b.length : Int)) = false := by simp; omega
          have hf := insF_end (e1, e2) b fun i y hy => hno i y (by have := (List.getElem?_eq_some_iff.1 hy).1; omega) hy
          rw [hf]
          repeat' first | refine vs T rfl fun K hK => ?_; (try simp (disch := omega) only [go_sem, Nat.reduceBEq, Nat.reduceAdd, Nat.reduceLeDiff, hd, eRs_len]); (first | refine hK _ _ ?_; clear hK K | refine Op1.callp rfl rfl (cEnd) rfl ?_; refine hK _ _ ?_; clear hK K) | refine st rfl ?_ | refine sc rfl ?_ | refine nl ?_ | exact ret1 T (List.nil_sublist _) ⟨rfl, rfl⟩
    · have e3 : (m == 3) = false := by simpa using h3
      have hp : pushF m (e1, e2) b = b := by simp [pushF, h2, h3]
      rw [hp]
      repeat' first | refine vs T rfl fun K hK => ?_; (try simp (disch := omega) only [go_sem, Nat.reduceBEq, Nat.reduceAdd, e2', e3]); (first | refine hK _ _ ?_; clear hK K | intro bq hbq; (try simp only [HB] at hbq); refine hK _ _ ?_; clear hK K | refine Op1.callp rfl rfl (own_ok b hb) rfl ?_; refine hK _ _ ?_; clear hK K) | refine st rfl ?_ | refine sc rfl ?_ | refine nl ?_ | exact ret1 T (List.nil_sublist _) ⟨rfl, rfl⟩
end Go.Proofs.Ytfifcjgcajpnoaa
