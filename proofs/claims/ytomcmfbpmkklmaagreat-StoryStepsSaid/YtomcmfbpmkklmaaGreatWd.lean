/- Contracts: store, more. No condition. -/
import Derived.Test.YtomcmfbpmkklmaaGreatWb
namespace Go.Proofs.YtomcmfbpmkklmaaGreat
set_option linter.unusedSimpArgs false
set_option linter.unusedVariables false
set_option maxRecDepth 20000
open Go Go.Proofs Go.Vc
attribute [local irreducible] retQ VCg VCw VCx
def cutF (k : Nat) (b : List En) : List En := b.take k ++ b.drop (k + 1)
theorem cut_ok (b : List En) (hb : b.length ≤ 1000000) (k : Nat) (hk : k < b.length) : Pure Tryz.prog 243 [buf b, iD (k : Nat)] (buf (cutF k b)) := by
 refine Fun.fz ?_
 have hw2 : IntKind.i64.wrap ((k : Int) + 1) = ((k + 1 : Nat) : Int) := by rw [w64 (by omega)]; omega
 have hl : (b.take k).length = k := by rw [List.length_take]; omega
 have hl2 : (b.drop (k + 1)).length = b.length - (k + 1) := List.length_drop
 refine Fun.of T [.tmp 4] Tryz.func243 rfl Tryz.ntmps243 Tryz.results243 rfl (by kernel_rfl) ?_
 have hkb : Nat.beq k k = true := Nat.beq_refl k
 repeat' first | refine dr (id := 1) T 8 (by kernel_rfl) ?_ | refine gn ?_ | apply VCg.step T rfl rfl; focus ((try simp (disch := omega) only [go_sem, Nat.reduceBEq, eRs_len, hw2, eRs_tk, eRs_dr, hkb]); (first | exact rfl | refine ⟨?_, rfl⟩; try omega)) | refine vs T rfl fun K hK => ?_; (try simp (disch := omega) only [go_sem, Nat.reduceBEq, eRs_len]); (first | refine hK _ _ ?_; clear hK K | skip) | refine st rfl ?_ | refine nl ?_
 refine ⟨_, _, ⟨rfl, rfl⟩, by rw [hl, hl2]; omega, fun h0 => hK _ _ ?_, fun h0 b' cap' hb' hcap => hK _ _ ?_⟩ <;> clear hK K
 ·repeat' first | refine vs T rfl fun K hK => ?_; (try simp (disch := omega) only [go_sem, Nat.reduceBEq]); (refine hK _ _ ?_; clear hK K) | refine st rfl ?_ | refine nl ?_
  refine ret1 T (List.Sublist.refl _) (.inr ⟨rfl, .inl ⟨true, ?_⟩⟩)
  have : b.drop (k + 1) = [] := List.eq_nil_of_length_eq_zero h0
  rw [cutF, this, List.append_nil]
  rfl
 ·repeat' first | refine vs T rfl fun K hK => ?_; (try simp (disch := omega) only [go_sem, Nat.reduceBEq]); (refine hK _ _ ?_; clear hK K) | refine st rfl ?_ | refine nl ?_
  have hrows : (eRs (b.take k)).flatten ++ (eRs (b.drop (k + 1))).flatten = (eRs (cutF k b)).flatten := by rw [cutF, eRs_append, List.flatten_append]
  rw [hrows]
  refine ret1 T (List.Sublist.refl _) (.inr ⟨rfl, .inr (.inr ⟨b', 0, _, cap', .inl ⟨rfl, rfl⟩, ?_, _, _, _, List.mem_cons_self .., FzR.refl _ _ (eRs_row _)⟩)⟩)
  rw [eRs_len, cutF, List.length_append]
def nextI (m loc : Int) (b : List En) : Int := idxI (nextF m loc b)
theorem next_ok (b : List En) (hb : b.length ≤ 1000000) (m loc : Int) : Pure Tryz.prog 242 [buf b, iD m, iD loc] (iD (nextI m loc b)) := by
 refine Fun.of T [.tmp 6] Tryz.func242 rfl Tryz.ntmps242 Tryz.results242 rfl (by kernel_rfl) ?_
 by_cases h3 : m = 3
 ·subst h3
  have hp : nextI 3 loc b = idxI (fstI loc b) := rfl
  rw [hp]
  repeat' first | refine vs T rfl fun K hK => ?_; (try simp (disch := omega) only [go_sem, Nat.reduceBEq, Nat.reduceAdd, beq_self_eq_true]); (first | refine hK _ _ ?_; clear hK K | refine Op1.callp rfl rfl (first_ok b hb _) rfl ?_; refine hK _ _ ?_; clear hK K) | refine st rfl ?_ | refine sc rfl ?_ | refine nl ?_ | exact ret1 T (List.nil_sublist _) ⟨rfl, rfl⟩
 ·have e3 : (m == 3) = false := by simpa using h3
  by_cases h2 : m = 2
  ·subst h2
   rcases Nat.eq_zero_or_pos b.length with hz | hpos
   ·have hb0 : b = [] := List.eq_nil_of_length_eq_zero hz
    have hp : nextI 2 loc b = -1 := by subst hb0; simp [nextI, nextF, idxI]
    have hd : decide ((b.length : Int) > 0) = false := by rw [hz]; rfl
    rw [hp]
    repeat' first | refine vs T rfl fun K hK => ?_; (try simp (disch := omega) only [go_sem, Nat.reduceBEq, Nat.reduceAdd, e3, beq_self_eq_true, hd, eRs_len]); (refine hK _ _ ?_; clear hK K) | refine st rfl ?_ | refine sc rfl ?_ | refine nl ?_ | refine gs rfl rfl ?_ | refine gu rfl rfl ?_ | exact ret1 T (List.nil_sublist _) ⟨rfl, rfl⟩
   ·obtain ⟨x, hx0⟩ : ∃ x, b[0]? = some x := ⟨_, List.getElem?_eq_getElem hpos⟩
    have hne : b ≠ [] := fun h => by rw [h] at hpos; simp at hpos
    have hh : b.head? = some x := by rw [List.head?_eq_getElem?]; exact hx0
    have hd : decide ((b.length : Int) > 0) = true := by simp; omega
    have hrow : (eRs b)[0]? = some [iD x.1, iD x.2] := by rw [eRs_at, hx0]; rfl
    by_cases h0 : loc < 0
    ·have h0' : decide (loc < 0) = true := by simpa using h0
     have hp : nextI 2 loc b = 0 := by simp [nextI, nextF, h0, idxI, hne]
     rw [hp]
     repeat' first | refine vs T rfl fun K hK => ?_; (try simp (disch := omega) only [go_sem, Nat.reduceBEq, Nat.reduceAdd, e3, beq_self_eq_true, hd, h0', eRs_len]); (refine hK _ _ ?_; clear hK K) | refine st rfl ?_ | refine sc rfl ?_ | refine nl ?_ | refine gs rfl rfl ?_ | exact ret1 T (List.nil_sublist _) ⟨rfl, rfl⟩
    ·have h0' : decide (loc < 0) = false := by simpa using h0
     by_cases hx : x.1 = loc
     ·have hx' : (x.1 == loc) = true := by simpa using hx
      have hp : nextI 2 loc b = 0 := by simp [nextI, nextF, hh, hx, idxI, hne]
      rw [hp]
      repeat' first | refine vs T rfl fun K hK => ?_; (try simp (disch := omega) only [go_sem, Nat.reduceBEq, Nat.reduceAdd, Int.reduceToNat, e3, beq_self_eq_true, hd, h0', hx', hrow, eRs_len]); (first | refine hK _ _ ?_; clear hK K | refine ⟨?_, hK _ _ ?_⟩ <;> clear hK K; focus (try omega)) | refine st rfl ?_ | refine sc rfl ?_ | refine nl ?_ | refine gs rfl rfl ?_ | exact ret1 T (List.nil_sublist _) ⟨rfl, rfl⟩
     ·have hx' : (x.1 == loc) = false := by simpa using hx
      have hp : nextI 2 loc b = -1 := by simp [nextI, nextF, h0, hh, hx, idxI]
      rw [hp]
      repeat' first | refine vs T rfl fun K hK => ?_; (try simp (disch := omega) only [go_sem, Nat.reduceBEq, Nat.reduceAdd, Int.reduceToNat, e3, beq_self_eq_true, hd, h0', hx', hrow, eRs_len]); (first | refine hK _ _ ?_; clear hK K | refine ⟨?_, hK _ _ ?_⟩ <;> clear hK K; focus (try omega)) | refine st rfl ?_ | refine sc rfl ?_ | refine nl ?_ | refine gs rfl rfl ?_ | exact ret1 T (List.nil_sublist _) ⟨rfl, rfl⟩
  ·have e2 : (m == 2) = false := by simpa using h2
   have hp : nextI m loc b = -1 := by simp [nextI, nextF, h2, h3, idxI]
   rw [hp]
   repeat' first | refine vs T rfl fun K hK => ?_; (try simp (disch := omega) only [go_sem, Nat.reduceBEq, Nat.reduceAdd, e3, e2]); (refine hK _ _ ?_; clear hK K) | refine st rfl ?_ | refine sc rfl ?_ | refine nl ?_ | refine gs rfl rfl ?_ | refine gu rfl rfl ?_ | exact ret1 T (List.nil_sublist _) ⟨rfl, rfl⟩
theorem nextF_lt {m loc : Int} {b : List En} {k : Nat} (h : nextF m loc b = some k) : k < b.length := by
 unfold nextF at h
 split at h
 ·exact fstI_lt h
 ·split at h
  ·rename_i hc
   obtain rfl := Option.some.inj h
   have := hc.2.1
   rcases b with _ | ⟨x, r⟩
   ·exact absurd rfl this
   ·simp
  ·cases h
def popF (m loc : Int) (b : List En) : List En × En × Bool := match nextF m loc b with
 | none => (b, (0, 0), false)
 | some k => (cutF k b, (b[k]?).getD (0, 0), true)
def popD (p : List En × En × Bool) : D := .tup [buf p.1, .agg [iD p.2.1.1, iD p.2.1.2], bD p.2.2]
theorem ret_tct {P : Program} (T : Tab P) {E : Nat → D} {H : Heap} {u a v : Tmp} {ty : TypeId} {Φ : D → Heap → Prop} {H' : Heap} {b n : Nat} {ty' : TypeId} {l : List D} (ha : E a = .is (.pointer (some ⟨b, 0, none⟩))) (hb : hget H b = some (.cells ty' n l))
  (hk : (T.get ty).known = true) (hz : (T.get ty).size = l.length) (hag : (T.get ty).agg = true) (hs : H'.Sublist H) (h : Φ (.tup [E u, .agg l, E v]) H') : retQ T [.tmp u, .cell a ty, .tmp v] Φ .ret ⟨E, H⟩ :=
 by unfold retQ; exact ⟨[E u, .agg l, E v], H', ⟨_, rfl, b, ty', n, l, _, ha, hget_mem hb, hk, hz, by rw [hag], _, rfl, rfl⟩, hs, h⟩
theorem pop_ok (b : List En) (hb : b.length ≤ 1000000) (m loc : Int) : Pure Tryz.prog 241 [buf b, iD m, iD loc] (popD (popF m loc b)) := by
 have c0 := next_ok b hb m loc
 unfold nextI at c0
 refine Fun.of T [.tmp 6, .cell 7 127, .tmp 8] Tryz.func241 rfl Tryz.ntmps241 Tryz.results241 rfl (by kernel_rfl) ?_
 cases hn : nextF m loc b with
 | none =>
  have hp : popF m loc b = (b, (0, 0), false) := by simp [popF, hn]
  rw [hn] at c0
  rw [hp]
  repeat' first | refine vs T rfl fun K hK => ?_; (try simp (disch := omega) only [go_sem, Nat.reduceBEq, Nat.reduceAdd, Nat.reduceLeDiff, idxI, beq_self_eq_true]); (first | refine hK _ _ ?_; clear hK K | intro bq hbq; (try simp only [HB] at hbq); refine hK _ _ ?_; clear hK K | refine Op1.callp rfl rfl (c0) rfl ?_; refine hK _ _ ?_; clear hK K | refine Op1.callp rfl rfl (own_ok b hb) rfl ?_; refine hK _ _ ?_; clear hK K) | refine st rfl ?_ | refine sc rfl ?_ | refine nl ?_
  exact ret_tct T rfl (hget_eq) rfl rfl rfl (List.nil_sublist _) ⟨rfl, rfl⟩
 | some k =>
  have hk := nextF_lt hn
  obtain ⟨x, hx⟩ : ∃ x, b[k]? = some x := ⟨_, List.getElem?_eq_getElem hk⟩
  have hp : popF m loc b = (cutF k b, x, true) := by simp [popF, hn, hx]
  have hrow : (eRs b)[k]? = some [iD x.1, iD x.2] := by rw [eRs_at, hx]; rfl
  have hne : ((k : Int) == -1) = false := by rw [beq_eq_false_iff_ne]; omega
  rw [hn] at c0
  rw [hp]
  repeat' first | refine dr (id := 4) T 9 (by kernel_rfl) ?_ | refine gn ?_ | apply VCg.step T rfl rfl; focus ((try simp (disch := omega) only [go_sem, Nat.reduceBEq, Nat.reduceAdd, Nat.reduceLeDiff, hrow, eRs_len]); (first | exact rfl | refine ⟨?_, rfl⟩; try omega | refine Op1.callp rfl rfl (own_ok b hb) rfl ?_; exact ⟨rfl, rfl⟩ | refine Op1.callp rfl rfl (cut_ok b hb k hk) rfl ?_; exact ⟨rfl, rfl⟩)) | refine vs T rfl fun K hK => ?_; (try simp (disch := omega) only [go_sem, Nat.reduceBEq, Nat.reduceAdd, Nat.reduceLeDiff, idxI, hne]); (first | refine hK _ _ ?_; clear hK K | intro bq hbq; (try simp only [HB] at hbq); refine hK _ _ ?_; clear hK K | refine Op1.callp rfl rfl (c0) rfl ?_; refine hK _ _ ?_; clear hK K) | refine st rfl ?_ | refine sc rfl ?_ | refine nl ?_
  exact ret_tct T rfl (hget_eq) rfl rfl rfl (List.nil_sublist _) ⟨rfl, rfl⟩
theorem lastF_at {loc : Int} : ∀ {b : List En} {k : Nat} {x : En}, b[k]? = some x → x.1 = loc → (∀ (i : Nat) (y : En), k < i → b[i]? = some y → y.1 ≠ loc) → lastF loc b = some x.2
 | x0 :: r, 0, x, h, hx, hno => by
  obtain rfl : x0 = x := by simpa using h
  have : lastF loc r = none := lastF_no fun i y hy => hno (i + 1) y (by omega) (by simpa using hy)
  simp [lastF, this, hx]
 | x0 :: r, k + 1, x, h, hx, hno => by
  have := lastF_at (b := r) (k := k) (by simpa using h) hx fun i y hi hy => hno (i + 1) y (by omega) (by simpa using hy)
  simp [lastF, this]
where
 lastF_no {loc : Int} : ∀ {b : List En}, (∀ (i : Nat) (y : En), b[i]? = some y → y.1 ≠ loc) → lastF loc b = none
 | [], _ => rfl
 | x0 :: r, hno => by
  have h0 : x0.1 ≠ loc := hno 0 x0 rfl
  have := lastF_no (b := r) fun i y hy => hno (i + 1) y (by simpa using hy)
  simp [lastF, h0, this]
def lastD (o : Option Int) : D := .tup [iD (o.getD 0), bD o.isSome]
theorem last_ok (b : List En) (hb : b.length ≤ 1000000) (loc : Int) : Pure Tryz.prog 231 [buf b, iD loc] (lastD (lastF loc b)) := by
 have hw0 : IntKind.i64.wrap ((b.length : Int) - 1) = (b.length : Int) - 1 := by rw [w64 (by omega)]
 refine Fun.of T [.tmp 4, .tmp 5] Tryz.func231 rfl Tryz.ntmps231 Tryz.results231 rfl (by kernel_rfl) ?_
 repeat' first | refine vs T rfl fun K hK => ?_; (try simp (disch := omega) only [go_sem, Nat.reduceBEq, eRs_len, hw0]); (refine hK _ _ ?_; clear hK K) | refine st rfl ?_ | refine nl ?_
 refine VC.loop {k : Nat // k ≤ b.length ∧ ∀ (i : Nat) (y : En), k ≤ i → b[i]? = some y → y.1 ≠ loc} (fun p => ⟨lookD [(0, buf b), (1, iD loc), (6, iD ((p.1 : Nat) - 1 : Int))], []⟩) (fun p => p.1) ⟨b.length, by omega, fun i y hi hy => by have := (List.getElem?_eq_some_iff.1 hy).1; omega⟩ ?_ ?_
 ·refine Weak.sub ?_
  simp [sub, upd]
 ·rintro ⟨k, hk, hno⟩
  dsimp only
  rcases k with _ | k
  ·have hd : decide (((0 : Nat) : Int) - 1 ≥ 0) = false := by decide
   have hf : lastF loc b = none := lastF_at.lastF_no fun i y hy => hno i y (by omega) hy
   rw [hf]
   repeat' first | refine vs T rfl fun K hK => ?_; (try simp (disch := omega) only [go_sem, Nat.reduceBEq, hd]); (refine hK _ _ ?_; clear hK K) | refine st rfl ?_ | refine sc rfl ?_ | refine nl ?_ | exact ret2 T (List.nil_sublist _) ⟨rfl, rfl⟩
  ·have hd : decide (((k + 1 : Nat) : Int) - 1 ≥ 0) = true := by rw [decide_eq_true_eq]; omega
   have hi : ((k + 1 : Nat) : Int) - 1 = (k : Int) := by omega
   have hw : IntKind.i64.wrap ((k : Int) - 1) = (k : Int) - 1 := by rw [w64 (by omega)]
   obtain ⟨x, hx⟩ : ∃ x, b[k]? = some x := ⟨_, List.getElem?_eq_getElem (by omega)⟩
   have hrow : (eRs b)[k]? = some [iD x.1, iD x.2] := by rw [eRs_at, hx]; rfl
   rw [hi] at hd ⊢
   by_cases he : x.1 = loc
   ·have he' : (x.1 == loc) = true := by simpa using he
    have hf := lastF_at hx he fun i y h1 h2 => hno i y (by omega) h2
    rw [hf]
    repeat' first | refine vs T rfl fun K hK => ?_; (try simp (disch := omega) only [go_sem, Nat.reduceBEq, hd, hrow, he', eRs_len]); (first | refine hK _ _ ?_; clear hK K | refine ⟨?_, hK _ _ ?_⟩ <;> clear hK K; focus (try omega)) | refine st rfl ?_ | refine sc rfl ?_ | refine nl ?_ | exact ret2 T (List.nil_sublist _) ⟨rfl, rfl⟩
   ·have he' : (x.1 == loc) = false := by simpa using he
    repeat' first | refine vs T rfl fun K hK => ?_; (try simp (disch := omega) only [go_sem, Nat.reduceBEq, hd, hw, hrow, he', eRs_len]); (first | refine hK _ _ ?_; clear hK K | refine ⟨?_, hK _ _ ?_⟩ <;> clear hK K; focus (try omega)) | refine st rfl ?_ | refine sc rfl ?_ | refine nl ?_
    refine ⟨⟨k, by omega, fun i y h1 h2 => ?_⟩, Weak.sub ?_, by simp only []; omega⟩
    ·rcases Nat.eq_or_lt_of_le h1 with rfl | h'
     ·rw [hx] at h2; cases h2; exact he
     ·exact hno i y (by omega) h2
    ·simp [sub, upd]
theorem same_ok (a b : List En) (ha : a.length ≤ 1000000) (hb : b.length ≤ 1000000) : Pure Tryz.prog 65 [buf a, buf b] (bD (decide (a = b))) := by
 refine Fun.of T [.tmp 4] Tryz.func65 rfl Tryz.ntmps65 Tryz.results65 rfl (by kernel_rfl) ?_
 by_cases hl : a.length = b.length
 ·have hl' : ((a.length : Int) != (b.length : Int)) = false := by simp [hl]
  repeat' first | refine vs T rfl fun K hK => ?_; (try simp (disch := omega) only [go_sem, Nat.reduceBEq, eRs_len, hl']); (refine hK _ _ ?_; clear hK K) | refine st rfl ?_ | refine sc rfl ?_ | refine nl ?_
  refine VC.loop {k : Nat // k ≤ a.length ∧ ∀ i, i < k → a[i]? = b[i]?} (fun p => ⟨lookD [(0, buf a), (1, buf b), (5, iD (p.1 : Nat))], []⟩) (fun p => a.length - p.1) ⟨0, by omega, fun i hi => by omega⟩ ?_ ?_
  ·refine Weak.sub ?_
   simp [sub, upd]
  ·rintro ⟨k, hk, hs⟩
   dsimp only
   rcases Nat.lt_or_ge k a.length with hlt | hge
   ·have hd : decide ((k : Int) < (a.length : Int)) = true := by simp; omega
    have hw : IntKind.i64.wrap ((k : Int) + 1) = ((k + 1 : Nat) : Int) := by rw [w64 (by omega)]; omega
    have hkb : k < b.length := by omega
    obtain ⟨x, hx⟩ : ∃ x, a[k]? = some x := ⟨_, List.getElem?_eq_getElem hlt⟩
    obtain ⟨y, hy⟩ : ∃ y, b[k]? = some y := ⟨_, List.getElem?_eq_getElem hkb⟩
    have hrx : (eRs a)[k]? = some [iD x.1, iD x.2] := by rw [eRs_at, hx]; rfl
    have hry : (eRs b)[k]? = some [iD y.1, iD y.2] := by rw [eRs_at, hy]; rfl
    by_cases he : x = y
    ·subst he
     repeat' first | refine dr (id := 6) T 8 (by kernel_rfl) ?_ | refine gn ?_ | apply VCg.step T rfl rfl; focus ((try simp (disch := omega) only [go_sem, Nat.reduceBEq, Nat.reduceAdd, Nat.reduceLeDiff, hrx, hry, eRs_len, beq_self_eq_true]); (first | exact rfl | refine ⟨?_, rfl⟩; try omega)) | refine vs T rfl fun K hK => ?_; (try simp (disch := omega) only [go_sem, Nat.reduceBEq, hd, hw, eRs_len, beq_self_eq_true, Bool.not_true]); (first | refine hK _ _ ?_; clear hK K | refine Op1.eqS rfl (eq25 _ _ _ _) rfl rfl rfl ?_; refine hK _ _ ?_; clear hK K) | refine st rfl ?_ | refine sc rfl ?_ | refine nl ?_ | with_reducible refine gf ?_ ?_; focus (simp (disch := omega) only [go_sem, beq_self_eq_true, Bool.not_true]; done)
     refine ⟨⟨k + 1, by omega, fun i hi => ?_⟩, Weak.sub ?_, by simp only []; omega⟩
     ·rcases Nat.lt_or_ge i k with h' | h'
      ·exact hs i h'
      ·obtain rfl : i = k := by omega
       rw [hx, hy]
     ·simp [sub, upd]
    ·have hne : (x.1 == y.1 && x.2 == y.2) = false := by
      rw [Bool.eq_false_iff]
      simp only [Bool.and_eq_true, beq_iff_eq, ne_eq]
      exact fun h => he (Prod.ext h.1 h.2)
     have hab : decide (a = b) = false := by
      rw [decide_eq_false_iff_not]
      intro h
      rw [h, hy] at hx
      exact he (Option.some.inj hx).symm
     rw [hab]
     repeat' first | refine dr (id := 6) T 8 (by kernel_rfl) ?_ | refine gn ?_ | apply VCg.step T rfl rfl; focus ((try simp (disch := omega) only [go_sem, Nat.reduceBEq, Nat.reduceAdd, Nat.reduceLeDiff, hrx, hry, eRs_len]); (first | exact rfl | refine ⟨?_, rfl⟩; try omega)) | refine vs T rfl fun K hK => ?_; (try simp (disch := omega) only [go_sem, Nat.reduceBEq, hd, hne, eRs_len, Bool.not_false]); (first | refine hK _ _ ?_; clear hK K | refine Op1.eqS rfl (eq25 _ _ _ _) rfl rfl rfl ?_; refine hK _ _ ?_; clear hK K) | refine st rfl ?_ | refine sc rfl ?_ | refine nl ?_ | exact ret1 T (List.nil_sublist _) ⟨rfl, rfl⟩ | with_reducible refine gt ?_ ?_; focus (simp (disch := omega) only [go_sem, hne, Bool.not_false]; done)
   ·have hd : decide ((k : Int) < (a.length : Int)) = false := by simp; omega
    have hab : decide (a = b) = true := by
     rw [decide_eq_true_eq]
     apply List.ext_getElem?
     intro i
     rcases Nat.lt_or_ge i a.length with h' | h'
     ·exact hs i (by omega)
     ·rw [List.getElem?_eq_none h', List.getElem?_eq_none (by omega)]
    rw [hab]
    repeat' first | refine vs T rfl fun K hK => ?_; (try simp (disch := omega) only [go_sem, Nat.reduceBEq, hd, eRs_len]); (refine hK _ _ ?_; clear hK K) | refine st rfl ?_ | refine sc rfl ?_ | refine nl ?_ | exact ret1 T (List.nil_sublist _) ⟨rfl, rfl⟩
 ·have hl' : ((a.length : Int) != (b.length : Int)) = true := bne_iff_ne.2 (by omega)
  have hab : decide (a = b) = false := by
   rw [decide_eq_false_iff_not]
   intro h
   exact hl (by rw [h])
  rw [hab]
  repeat' first | refine vs T rfl fun K hK => ?_; (try simp (disch := omega) only [go_sem, Nat.reduceBEq, eRs_len, hl']); (refine hK _ _ ?_; clear hK K) | refine st rfl ?_ | refine sc rfl ?_ | refine nl ?_ | exact ret1 T (List.nil_sublist _) ⟨rfl, rfl⟩
theorem iRs_len (l : List Int) : (iRs l).length = l.length := List.length_map ..
theorem iRs_at (l : List Int) (i : Nat) : (iRs l)[i]? = (l[i]?).map fun n => [iD n] := List.getElem?_map ..
theorem iRs_row (l : List Int) : ∀ r, r ∈ iRs l → r.length = 1 := by
 intro r h
 obtain ⟨x, _, rfl⟩ := List.mem_map.1 h
 rfl
theorem iRs_flat (l : List Int) : (iRs l).flatten = l.map iD := by
 induction l with
 | nil => rfl
 | cons n l ih => rw [iRs, List.map_cons, List.flatten_cons]; rw [iRs] at ih; rw [ih]; rfl
theorem ints_ok (a b : List Int) (ha : a.length ≤ 1000000) (hb : b.length ≤ 1000000) : Pure Tryz.prog 17 [ints a, ints b] (bD (decide (a = b))) := by
 refine Fun.of T [.tmp 4] Tryz.func17 rfl Tryz.ntmps17 Tryz.results17 rfl (by kernel_rfl) ?_
 by_cases hl : a.length = b.length
 ·have hl' : ((a.length : Int) != (b.length : Int)) = false := by simp [hl]
  repeat' first | refine vs T rfl fun K hK => ?_; (try simp (disch := omega) only [go_sem, Nat.reduceBEq, iRs_len, hl']); (refine hK _ _ ?_; clear hK K) | refine st rfl ?_ | refine sc rfl ?_ | refine nl ?_
  refine VC.loop {k : Nat // k ≤ a.length ∧ ∀ i, i < k → a[i]? = b[i]?} (fun p => ⟨lookD [(0, ints a), (1, ints b), (5, iD (p.1 : Nat))], []⟩) (fun p => a.length - p.1) ⟨0, by omega, fun i hi => by omega⟩ ?_ ?_
  ·refine Weak.sub ?_
   simp [sub, upd]
  ·rintro ⟨k, hk, hs⟩
   dsimp only
   rcases Nat.lt_or_ge k a.length with hlt | hge
   ·have hd : decide ((k : Int) < (a.length : Int)) = true := by simp; omega
    have hw : IntKind.i64.wrap ((k : Int) + 1) = ((k + 1 : Nat) : Int) := by rw [w64 (by omega)]; omega
    have hkb : k < b.length := by omega
    obtain ⟨x, hx⟩ : ∃ x, a[k]? = some x := ⟨_, List.getElem?_eq_getElem hlt⟩
    obtain ⟨y, hy⟩ : ∃ y, b[k]? = some y := ⟨_, List.getElem?_eq_getElem hkb⟩
    have hrx : (iRs a)[k]? = some [iD x] := by rw [iRs_at, hx]; rfl
    have hry : (iRs b)[k]? = some [iD y] := by rw [iRs_at, hy]; rfl
    by_cases he : x = y
    ·have he' : (x != y) = false := by simp [he]
     repeat' first | refine dr (id := 6) T 8 (by kernel_rfl) ?_ | refine gn ?_ | apply VCg.step T rfl rfl; focus ((try simp (disch := omega) only [go_sem, Nat.reduceBEq, hrx, hry, iRs_len]); (first | exact rfl | refine ⟨?_, rfl⟩; try omega)) | refine vs T rfl fun K hK => ?_; (try simp (disch := omega) only [go_sem, Nat.reduceBEq, hd, hw, he', iRs_len]); (refine hK _ _ ?_; clear hK K) | refine st rfl ?_ | refine sc rfl ?_ | refine nl ?_
     refine ⟨⟨k + 1, by omega, fun i hi => ?_⟩, Weak.sub ?_, by simp only []; omega⟩
     ·rcases Nat.lt_or_ge i k with h' | h'
      ·exact hs i h'
      ·obtain rfl : i = k := by omega
       rw [hx, hy, he]
     ·simp [sub, upd]
    ·have he' : (x != y) = true := by simpa using he
     have hab : decide (a = b) = false := by
      rw [decide_eq_false_iff_not]
      intro h
      rw [h, hy] at hx
      exact he (Option.some.inj hx).symm
     rw [hab]
     repeat' first | refine dr (id := 6) T 8 (by kernel_rfl) ?_ | refine gn ?_ | apply VCg.step T rfl rfl; focus ((try simp (disch := omega) only [go_sem, Nat.reduceBEq, hrx, hry, iRs_len]); (first | exact rfl | refine ⟨?_, rfl⟩; try omega)) | refine vs T rfl fun K hK => ?_; (try simp (disch := omega) only [go_sem, Nat.reduceBEq, hd, he', iRs_len]); (refine hK _ _ ?_; clear hK K) | refine st rfl ?_ | refine sc rfl ?_ | refine nl ?_ | exact ret1 T (List.nil_sublist _) ⟨rfl, rfl⟩
   ·have hd : decide ((k : Int) < (a.length : Int)) = false := by simp; omega
    have hab : decide (a = b) = true := by
     rw [decide_eq_true_eq]
     apply List.ext_getElem?
     intro i
     rcases Nat.lt_or_ge i a.length with h' | h'
     ·exact hs i (by omega)
     ·rw [List.getElem?_eq_none h', List.getElem?_eq_none (by omega)]
    rw [hab]
    repeat' first | refine vs T rfl fun K hK => ?_; (try simp (disch := omega) only [go_sem, Nat.reduceBEq, hd, iRs_len]); (refine hK _ _ ?_; clear hK K) | refine st rfl ?_ | refine sc rfl ?_ | refine nl ?_ | exact ret1 T (List.nil_sublist _) ⟨rfl, rfl⟩
 ·have hl' : ((a.length : Int) != (b.length : Int)) = true := bne_iff_ne.2 (by omega)
  have hab : decide (a = b) = false := by
   rw [decide_eq_false_iff_not]
   intro h
   exact hl (by rw [h])
  rw [hab]
  repeat' first | refine vs T rfl fun K hK => ?_; (try simp (disch := omega) only [go_sem, Nat.reduceBEq, iRs_len, hl']); (refine hK _ _ ?_; clear hK K) | refine st rfl ?_ | refine sc rfl ?_ | refine nl ?_ | exact ret1 T (List.nil_sublist _) ⟨rfl, rfl⟩
theorem idx_eq (o : Option Nat) (k : Nat) : (idxI o == (k : Int)) = decide (o = some k) := by
 cases o with
 | none =>
  have : (idxI none == (k : Int)) = false := by rw [beq_eq_false_iff_ne]; simp only [idxI]; omega
  simp [this]
 | some j => simp only [idxI, Option.some.injEq]; rw [Bool.eq_iff_iff]; simp; omega
def badE (md lc : Int) (x : En) : Bool := decide (x.1 < 0) || decide (x.1 ≥ lc) || decide (x.2 < 0) || decide (x.2 ≥ md)
def badP (m r : Int) (b : List En) (i : Nat) (x : En) : Bool := decide (m = 3) && ((decide (i > 0) && decide (((b[i - 1]?).getD (0, 0)).1 > x.1)) || decide (((cntF x.1 b : Nat) : Int) > r))
def badAt (m r md lc : Int) (b : List En) (i : Nat) : Bool := badE md lc ((b[i]?).getD (0, 0)) || badP m r b i ((b[i]?).getD (0, 0))
theorem fz_end {H : Heap} : FzL H [] [] := rfl
theorem fz_cons {H : Heap} {d' d : D} {ds' ds : List D} (h : Fz H d' d) (hs : FzL H ds' ds) : FzL H (d' :: ds') (d :: ds) := ⟨d, ds, rfl, h, hs⟩
theorem fz_sl {H : Heap} {f : Bool} {esz : Nat} {rows : List (List D)} : Fz H (.sl false esz rows) (.sl f esz rows) := .inr ⟨rfl, .inl ⟨f, rfl⟩⟩
theorem fz_nil {H : Heap} {esz : Nat} : Fz H (.sl false esz []) (.gs none 0) := .inr ⟨rfl, .inr (.inl ⟨rfl, rfl⟩)⟩
theorem fz_first {H : Heap} {d' d : D} {ds : List D} (h : Fz H d' d) : FzL H (d' :: ds) (d :: ds) := fz_cons h (FzL.refl _ _)
theorem fz_second {H : Heap} {d0 d' d : D} {ds : List D} (h : Fz H d' d) : FzL H (d0 :: d' :: ds) (d0 :: d :: ds) := fz_cons (Fz.refl _ _) (fz_first h)
theorem HInv.none {w : World} {L0 : Nat → Prop} (h : HInv w L0 []) : Lets w L0 [] [] (live [] L0) := ⟨h, fun b c hm => (by cases hm), fun b _ hl => hl⟩
theorem Fun.argsW {P : Program} {f : FuncId} {args args' : List D} {d : D} (h : Pure P f args' d) (hf : FzL [] args' args) : Pure P f args d :=
 ⟨h.1, fun w L0 vs hi hr => h.2 w L0 vs hi (RelL.fz (HInv.none hi) _ _ _ hf hr)⟩
theorem VCg.stepS {P : Program} (T : Tab P) {ops : Array Oper} {H : Heap} {K : (Nat → D) → List (Tmp × NewI) → Prop} {m : Nat} {E : Nat → D} {news : List (Tmp × NewI)} {o : Oper} {l : List Oper} {d : D} {t : Tmp}
  (hg : o.guard = none) (ht : o.dst = some t) (h1 : OpS P o (evD E) H (fun d' H' => d' = d ∧ H' = H)) (h2 : VCg T ops H K m l (upd E t d) news) : VCg T ops H K (m + 1) (o :: l) E news :=
 by unfold VCg; exact ⟨.det d, ⟨.inl hg, h1⟩, by rw [newsOf_det, List.append_nil, ht]; exact h2⟩
def okEn (x : En) : Prop := (0 ≤ x.1 ∧ x.1 < 4) ∧ (0 ≤ x.2 ∧ x.2 < 8)
def InvQ (m : Int) (is b : List En) : Prop := b.length = is.length ∧ (∀ x, x ∈ b → okEn x) ∧ (m = 2 ∧ b = is ∨ m = 3 ∧ Srt b ∧ SameQ is b)
theorem InvQ.zero {m : Int} (h : m = 2 ∨ m = 3) : InvQ m [] [] := ⟨rfl, fun x h => (by cases h), h.imp (fun h => ⟨h, rfl⟩) (fun h => ⟨h, trivial, fun _ => rfl⟩)⟩
theorem InvQ.push {m : Int} {is b : List En} {e : En} (h : InvQ m is b) (he : okEn e) : InvQ m (is ++ [e]) (pushF m e b) := by
 obtain ⟨h1, h2, h3⟩ := h
 rcases h3 with ⟨rfl, rfl⟩ | ⟨rfl, h4, h5⟩
 ·have hp : pushF 2 e b = b ++ [e] := rfl
  rw [hp]
  refine ⟨rfl, fun x hx => ?_, .inl ⟨rfl, rfl⟩⟩
  rcases List.mem_append.1 hx with hx | hx
  ·exact h2 x hx
  ·rw [List.mem_singleton] at hx; subst hx; exact he
 ·have hp : pushF 3 e b = insF e b := rfl
  rw [hp]
  refine ⟨by rw [insF_len, List.length_append, h1]; rfl, fun x hx => ?_, .inr ⟨rfl, insF_srt e b h4, fun loc => ?_⟩⟩
  ·rcases (insF_mem e b x).1 hx with rfl | hx
   ·exact he
   ·exact h2 x hx
  ·rw [insF_que e loc b h4, que_append, h5 loc]
theorem Srt.le {b : List En} (h : Srt b) : ∀ (i : Nat) (x y : En), b[i]? = some x → b[i + 1]? = some y → x.1 ≤ y.1 := by
 induction b with
 | nil => intro i x y hx; simp at hx
 | cons a r ih =>
  intro i x y hx hy
  cases i with
  | zero =>
   obtain rfl : a = x := by simpa using hx
   exact h.1 y (List.mem_of_getElem? (by simpa using hy))
  | succ i => exact ih h.2 i x y (by simpa using hx) (by simpa using hy)
def Inv2 (m : Int) (is b : List En) : Prop := b.length = is.length ∧ (m = 2 ∧ b = is ∨ m = 3 ∧ SameQ is b)
theorem heads_mem {m : Int} {b : List En} {l : Int} (h : l ∈ headsF m b) : ∃ i x, b[i]? = some x ∧ x.1 = l ∧ selF m b i = true := by
 obtain ⟨i, hi, hl⟩ := List.mem_map.1 h
 obtain ⟨h1, h2⟩ := List.mem_filter.1 hi
 obtain ⟨x, hx⟩ : ∃ x, b[i]? = some x := ⟨_, List.getElem?_eq_getElem (List.mem_range.1 h1)⟩
 exact ⟨i, x, hx, by rw [← hl, hx]; rfl, h2⟩
theorem heads_two {x : En} {r : List En} : headsF 2 (x :: r) = [x.1] := by
 unfold headsF headsK
 have : ∀ n, (List.range (n + 1)).filter (selF 2 (x :: r)) = [0] := by
  intro n
  induction n with
  | zero => simp [selF]
  | succ n ih =>
   rw [List.range_succ, List.filter_append, ih]
   simp [selF]
 rw [List.length_cons, this]
 rfl
theorem Inv2.step {m : Int} {is b : List En} (h : Inv2 m is b) (hne : is ≠ []) :
  ∃ l j k x, (headsF m b)[(headsF m b).length - 1]? = some l ∧ 0 < (headsF m b).length ∧ (m = 2 → (headsF m b)[0]? = (is[0]?).map (·.1)) ∧ nextF m l b = some j ∧ fstI l is = some k ∧ b[j]? = some x ∧ is[k]? = some x ∧ Inv2 m (cutF k is) (cutF j b) := by
 obtain ⟨h1, h2⟩ := h
 have lens : ∀ (k j : Nat) , k < is.length → j < b.length → (cutF j b).length = (cutF k is).length := fun k j hk hj => by simp [cutF]; omega
 rcases h2 with ⟨rfl, rfl⟩ | ⟨rfl, hq⟩
 ·rcases b with _ | ⟨x, r⟩
  ·exact absurd rfl hne
  ·have hn : nextF 2 x.1 (x :: r) = some 0 := by simp [nextF]
   have hf : fstI x.1 (x :: r) = some 0 := by simp [fstI]
   exact ⟨x.1, 0, 0, x, by rw [heads_two]; rfl, by rw [heads_two]; exact Nat.one_pos, fun _ => by rw [heads_two]; rfl, hn, hf, rfl, rfl, rfl, .inl ⟨rfl, rfl⟩⟩
 ·rcases b with _ | ⟨y, r⟩
  ·exact absurd (List.eq_nil_of_length_eq_zero h1.symm) hne
  ·have h0 : selF 3 (y :: r) 0 = true := by simp [selF, fstI]
   have hmem : y.1 ∈ headsF 3 (y :: r) := List.mem_map.2 ⟨0, List.mem_filter.2 ⟨List.mem_range.2 (by simp), h0⟩, rfl⟩
   have hpos : 0 < (headsF 3 (y :: r)).length := List.length_pos_of_mem hmem
   obtain ⟨l, hl⟩ : ∃ l, (headsF 3 (y :: r))[(headsF 3 (y :: r)).length - 1]? = some l := ⟨_, List.getElem?_eq_getElem (by omega)⟩
   obtain ⟨i, x, hx, hxl, hs⟩ := heads_mem (List.mem_of_getElem? hl)
   have hfi : fstI l (y :: r) = some i := by
    simp only [selF, hx, Option.getD_some, hxl] at hs
    simpa using hs
   have hk : ∃ k, fstI l is = some k := by
    cases hc : fstI l is with
    | some k => exact ⟨k, rfl⟩
    | none =>
     have := hq l
     rw [fstI_none hc] at this
     obtain ⟨z, p, q, e, _, hz, _⟩ := fstI_some hfi
     rw [e, que_append] at this
     have hzq : que l (z :: q) = z :: que l q := by rw [que, List.filter_cons]; simp [hz, que]
     rw [hzq] at this
     simp at this
   obtain ⟨k, hk⟩ := hk
   obtain ⟨e1, e2⟩ := SameQ.cut hq hk hfi
   exact ⟨l, i, k, x, hl, hpos, fun h => absurd h (by decide), by simp [nextF, hfi], hk, hx, by rw [e1, hx], lens _ _ (fstI_lt hk) (fstI_lt hfi), .inr ⟨rfl, e2⟩⟩
theorem Weak.trans {s s' s'' : St} (h : Weak s s') (h' : Weak s' s'') : Weak s s'' := fun x a w hs => h' x a w (h x a w hs)
theorem Fz_shp {g : Option (Nat × Nat)} {e : TypeId} {esz n : Nat} {rows : List (List D)} (hg : gOk g n) (hn : rows.length = n) (hr : ∀ r, r ∈ rows → r.length = esz) : Fz (shp g e esz rows.flatten []) (.sl false esz rows) (.gs g n) := by
 subst hn
 cases g with
 | none =>
  have h0 : rows = [] := List.eq_nil_of_length_eq_zero hg
  subst h0
  exact .inr ⟨rfl, .inr (.inl ⟨rfl, rfl⟩)⟩
 | some p =>
  obtain ⟨b, cap⟩ := p
  exact .inr ⟨rfl, .inr (.inr ⟨b, 0, rows.length, cap, .inl ⟨rfl, rfl⟩, rfl, e, _, _, List.mem_cons_self .., FzR.refl _ _ hr⟩)⟩
end Go.Proofs.YtomcmfbpmkklmaaGreat
