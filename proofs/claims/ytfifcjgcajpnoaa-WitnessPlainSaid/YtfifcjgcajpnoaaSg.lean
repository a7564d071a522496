/- Contracts: round a circle. No condition. -/
import Derived.Test.YtfifcjgcajpnoaaSe
import Derived.Test.YtfifcjgcajpnoaaWa
import Derived.Test.YtfifcjgcajpnoaaXg
import Derived.Test.YtfifcjgcajpnoaaRj
import Derived.Test.YtfifcjgcajpnoaaTa
namespace Go.Proofs.Ytfifcjgcajpnoaa
set_option linter.unusedSimpArgs false
set_option linter.unusedVariables false
set_option maxRecDepth 20000
open Go Go.Proofs Go.Vc
attribute [local irreducible] retQ VCg VCw

/-- Where one is behind the first of a circle's agents; how often one could act ahead of them; how often it did; whether all could. -/
def cyC (u : Un) (m r : Int) (c : Cf) (p : List Int) (k : Nat) : Cf := (p.take k).foldl (fun c a => actM u c m r a) c
def cyOn (u : Un) (m r : Int) (c : Cf) (p : List Int) (k a : Nat) : Nat := (List.range k).countP fun i => enM u (cyC u m r c p i) m r (a : Nat)
def cyOk (u : Un) (m r : Int) (c : Cf) (p : List Int) (k : Nat) : Bool := (List.range k).all fun i => enM u (cyC u m r c p i) m r (p.getD i 0)
def cyAc (p : List Int) (k a : Nat) : Nat := (p.take k).count (a : Int)
def tabI (n : Nat) (f : Nat → Nat) : List Int := (List.range n).map fun a => ((f a : Nat) : Int)
theorem tabI_len (n : Nat) (f : Nat → Nat) : (tabI n f).length = n := by simp [tabI]
theorem tabI_at {n a : Nat} (f : Nat → Nat) (h : a < n) : (tabI n f)[a]? = some ((f a : Nat) : Int) := by simp [tabI, h]
theorem tabI_zero (n : Nat) : tabI n (fun _ => 0) = List.replicate n 0 := by
  apply List.ext_getElem (by simp [tabI])
  intro i h1 h2
  simp [tabI]
theorem tabI_congr {n : Nat} {f g : Nat → Nat} (h : ∀ a, a < n → f a = g a) : tabI n f = tabI n g := by
  apply List.map_congr_left
  intro a ha
  rw [h a (List.mem_range.1 ha)]
theorem cyC_zero (u : Un) (m r : Int) (c : Cf) (p : List Int) : cyC u m r c p 0 = c := by simp [cyC]
theorem cyC_succ {u : Un} {m r : Int} {c : Cf} {p : List Int} {k : Nat} {a : Int} (h : p[k]? = some a) : cyC u m r c p (k + 1) = actM u (cyC u m r c p k) m r a := by
  simp [cyC, List.take_add_one, h]
theorem cyOn_zero (u : Un) (m r : Int) (c : Cf) (p : List Int) : cyOn u m r c p 0 = fun _ => 0 := by funext a; simp [cyOn]
theorem cyOn_succ (u : Un) (m r : Int) (c : Cf) (p : List Int) (k a : Nat) : cyOn u m r c p (k + 1) a = cyOn u m r c p k a + (enM u (cyC u m r c p k) m r (a : Nat)).toNat := by
  simp only [cyOn, List.range_succ, List.countP_append, List.countP_singleton]
  cases enM u (cyC u m r c p k) m r (a : Nat) <;> rfl
theorem cyOn_le (u : Un) (m r : Int) (c : Cf) (p : List Int) (k a : Nat) : cyOn u m r c p k a ≤ k := by
  have := List.countP_le_length (p := fun i => enM u (cyC u m r c p i) m r (a : Nat)) (l := List.range k)
  rwa [List.length_range] at this
theorem cyAc_zero (p : List Int) : cyAc p 0 = fun _ => 0 := by funext a; simp [cyAc]
theorem cyAc_succ {p : List Int} {k : Nat} {x : Int} (h : p[k]? = some x) (a : Nat) : cyAc p (k + 1) a = cyAc p k a + (x == (a : Int)).toNat := by
  simp only [cyAc, List.take_add_one, h, Option.toList_some, List.count_append, List.count_singleton]
  cases x == (a : Int) <;> rfl
theorem cyAc_le (p : List Int) (k a : Nat) : cyAc p k a ≤ k := by
  have h1 := List.count_le_length (a := (a : Int)) (l := p.take k)
  rw [List.length_take] at h1
  unfold cyAc
  omega
theorem cyOk_succ {u : Un} {m r : Int} {c : Cf} {p : List Int} {k : Nat} {a : Int} (h : p[k]? = some a) : cyOk u m r c p (k + 1) = (cyOk u m r c p k && enM u (cyC u m r c p k) m r a) := by
  simp [cyOk, List.range_succ, List.getD_eq_getElem?_getD, h]
theorem cyOk_no {u : Un} {m r : Int} {c : Cf} {p : List Int} {k : Nat} {a : Int} (h : p[k]? = some a) (he : enM u (cyC u m r c p k) m r a = false) : cyOk u m r c p p.length = false := by
  obtain ⟨hk, -⟩ := List.getElem?_eq_some_iff.1 h
  cases hc : cyOk u m r c p p.length with
  | false => rfl
  | true =>
    have := List.all_eq_true.1 hc k (List.mem_range.2 hk)
    simp [List.getD_eq_getElem?_getD, h, he] at this
theorem Rt.cy {u : Un} {m r : Int} {c : Cf} (h : Rt u c m r) (p : List Int) (k : Nat) : Rt u (cyC u m r c p k) m r := by
  unfold cyC
  generalize p.take k = l
  induction l generalizing c with
  | nil => exact h
  | cons a l ih => exact ih (h.actM a)
theorem tab_look (en : Nat → Bool) (n : Nat) (f : Nat → Nat) : lookK en (tabI n f) (tabI n f).length = tabI n (fun a => f a + (en a).toNat) := by
  apply List.ext_getElem (by rw [lookK_len, tabI_len, tabI_len])
  intro i h1 h2
  rw [lookK_len, tabI_len] at h1
  simp only [lookK, tabI, List.getElem_mapIdx, List.getElem_map, List.getElem_range, List.length_map, List.length_range, h1, decide_true]
  cases en i <;> simp
theorem tab_set {n a : Nat} {f g : Nat → Nat} (h1 : ∀ b, g b = f b + ((a : Int) == (b : Int)).toNat) : (tabI n f).set a ((f a : Int) + 1) = tabI n g := by
  apply List.ext_getElem (by rw [List.length_set, tabI_len, tabI_len])
  intro i h3 h4
  rw [List.getElem_set]
  simp only [tabI, List.getElem_map, List.getElem_range, h1]
  by_cases e : a = i
  · subst e; simp
  · have : ((a : Int) == (i : Int)) = false := by rw [beq_eq_false_iff_ne]; omega
    rw [if_neg e, this]; rfl
theorem enM_lt {u : Un} {c : Cf} {m r a : Int} (h : enM u c m r a = true) : 0 ≤ a ∧ a.toNat < (agsF u m).length := by
  unfold enM at h
  cases hO : oneF u m a with
  | none => rw [hO] at h; cases h
  | some ag =>
    unfold oneF at hO
    split at hO
    · rename_i h0
      simp only [decide_eq_true_eq] at h0
      exact ⟨h0, (List.getElem?_eq_some_iff.1 hO).1⟩
    · cases hO
/-- A new slice of numbers, all 0. -/
theorem op_makeI {o : Oper} {E : Operand → D} {H : Heap} {l c : Operand} {n : Nat} (ho : o.op = .makeSlice 22 l c) (hl : E l = iD (n : Nat)) (hc : E c = iD (n : Nat)) (hn : n ≤ 1000000) :
    Op1 Try.prog o E H (fun d H' => ∃ Hk, (∃ b : Nat, d = .gs (some (b, n)) n ∧ Hk = [(b, .cells 3 (n * 1) ((List.replicate n 0).map iD))]) ∧ H' = Hk ++ H) := by
  refine r_make T ho ?_
  rw [hl, hc]
  show cMake (.slice 3 1 8 false [.int .i64 0]) _ _ _ _
  refine ⟨⟨by omega, rfl, by rw [Int.toNat_natCast]; omega, by omega, rfl⟩, fun k hk => ?_⟩
  rw [Int.toNat_natCast]
  refine ⟨[_], ⟨k, rfl, rfl⟩, ?_⟩
  have : zerosD n [.int .i64 0] = (List.replicate n (0 : Int)).map iD := by
    show (List.replicate n [iD 0]).flatten = _
    rw [List.map_replicate]
    clear hn hl hc
    induction n with
    | zero => rfl
    | succ n ih => rw [List.replicate_succ, List.flatten_cons, ih, List.replicate_succ]; rfl
  rw [this]
  rfl
set_option maxHeartbeats 16000000 in
theorem round_ok {u : Un} {c : Cf} {m r : Int} (h : Rt u c m r) (br : Nat) (p : List Int) (hp : p.length ≤ 1000) :
    Fun Try.prog 14 [pD br, ints p] (rW br u m r c) false (fun d H' =>
      (cyOk u m r c p p.length = true ∧ ∃ bs bo ba : Nat, d = .tup [pD bs, bD true] ∧
        H' = seW bs (some (bo, (agsF u m).length)) (some (ba, (agsF u m).length)) (tabI (agsF u m).length (cyOn u m r c p p.length)) (tabI (agsF u m).length (cyAc p p.length)) (rW br u m r (cyC u m r c p p.length))) ∨
      (cyOk u m r c p p.length = false ∧ ∃ c', d = .tup [.is (.pointer none), bD false] ∧ H' = rW br u m r c')) := by
  have c1 := agentsN_ok u h.okU m
  have hN := agsF_len u m
  have hz := tabI_zero (agsF u m).length
  have hen : ∀ {c a}, enM u c m r a = true → 0 ≤ a ∧ a.toNat < (agsF u m).length := fun h => enM_lt h
  generalize hn : (agsF u m).length = n at *
  refine Fun.of T [.tmp 4, .tmp 5] Try.func14 rfl Try.ntmps14 Try.results14 rfl (by kernel_rfl) ?_
  repeat' first | refine VCg.own T rfl rfl (op_makeI rfl rfl rfl (by omega)) ?_ | refine dr (id := 1) T 8 (by kernel_rfl) ?_ | refine dr (id := 2) T 4 (by kernel_rfl) ?_ | refine gn ?_ | refine VCg.nil T ?_; simp only [allK, WB] | apply VCg.step T rfl rfl; focus ((try simp (disch := omega) only [go_sem, Nat.reduceBEq, Nat.reduceAdd, Nat.reduceLeDiff]); (exact rfl)) | refine vs T rfl fun K hK => ?_; (try simp (disch := omega) only [go_sem, Nat.reduceBEq]); (first | refine hK _ _ ?_; clear hK K | refine Op1.callp rfl rfl (c1) rfl ?_; refine hK _ _ ?_; clear hK K) | refine st rfl ?_ | refine nl ?_
  rintro d1 H1 ⟨bo, rfl, rfl⟩ n1 d2 H2 ⟨ba, rfl, rfl⟩ n2
  have n3 : ¬ bo = br := by simpa [Heap.blocks] using n1
  have n4 : ¬ ba = bo ∧ ¬ ba = br := by simpa [Heap.blocks] using n2
  repeat' first | refine vs T rfl fun K hK => ?_; (try simp (disch := omega) only [go_sem, Nat.reduceBEq, Nat.reduceAdd]); (first | refine hK _ _ ?_; clear hK K | intro bq hbq; (try simp only [HB] at hbq); refine hK _ _ ?_; clear hK K) | refine st rfl ?_ | refine nl ?_
  refine VC.loop {k : Nat // k ≤ p.length ∧ cyOk u m r c p k = true} (fun x => ⟨lookD [(0, pD br), (7, pD bq), (25, ints p), (26, iD (p.length : Nat)), (27, iD (x.1 : Nat))], seW bq (some (bo, n)) (some (ba, n)) (tabI n (cyOn u m r c p x.1)) (tabI n (cyAc p x.1)) (rW br u m r (cyC u m r c p x.1))⟩) (fun x => p.length - x.1) ⟨0, by omega, rfl⟩ ?_ ?_
  · dsimp only
    rw [cyOn_zero, cyAc_zero, cyC_zero, hz]
    refine Weak.trans (Weak.perm (H' := seW bq (some (bo, n)) (some (ba, n)) (List.replicate n 0) (List.replicate n 0) (rW br u m r c)) (perm_of fun a => by simp only [seW, List.length_replicate, cnt_shp, cnt_cons, cnt_app, cnt_nil, shp_some]; omega)) (Weak.sub ?_)
    simp [sub, upd, iRs_len]
  rintro ⟨k, hk, hok⟩
  dsimp only
  have hR := h.cy p k
  rcases Nat.lt_or_ge k p.length with hlt | hge
  case inr =>
    have hkp : k = p.length := by omega
    subst hkp
    have hd : decide ((p.length : Int) < (p.length : Int)) = false := by simp
    repeat' first | refine vs T rfl fun K hK => ?_; (try simp (disch := omega) only [go_sem, Nat.reduceBEq, hd]); (refine hK _ _ ?_; clear hK K) | refine st rfl ?_ | refine sc rfl ?_ | refine nl ?_
    exact ret2 T (List.Sublist.refl _) (.inl ⟨hok, bq, bo, ba, rfl, rfl⟩)
  have hd : decide ((k : Int) < (p.length : Int)) = true := by simp; omega
  have hw : IntKind.i64.wrap ((k : Int) + 1) = ((k + 1 : Nat) : Int) := by rw [w64 (by omega)]; omega
  obtain ⟨x, hx⟩ : ∃ x, p[k]? = some x := ⟨_, List.getElem?_eq_getElem hlt⟩
  have rx : (iRs p)[k]? = some [iD x] := by rw [iRs_at, hx]; rfl
  have hcy := cyC_succ (u := u) (m := m) (r := r) (c := c) hx
  have hoks := cyOk_succ (u := u) (m := m) (r := r) (c := c) hx
  have hno := cyOk_no (u := u) (m := m) (r := r) (c := c) hx
  rw [hok, Bool.true_and] at hoks
  have hon := cyOn_succ u m r c p k
  have hac := cyAc_succ hx
  have hle := cyOn_le u m r c p k
  have hla := cyAc_le p k
  have hrow : tabI n (fun a => cyOn u m r c p k a + (enM u (cyC u m r c p k) m r (a : Nat)).toNat) = tabI n (cyOn u m r c p (k + 1)) := tabI_congr fun a _ => (hon a).symm
  generalize cyC u m r c p k = ck at *
  generalize cyOn u m r c p k = fo at *
  generalize cyAc p k = fa at *
  have hlo := tabI_len n fo
  have hla1 := tabI_len n fa
  repeat' first | refine vs T rfl fun K hK => ?_; (try simp (disch := omega) only [go_sem, Nat.reduceBEq, hd, rx, iRs_len]); (first | refine hK _ _ ?_; clear hK K | refine ⟨?_, hK _ _ ?_⟩ <;> clear hK K; focus (try omega) | skip) | refine st rfl ?_ | refine sc rfl ?_ | refine nl ?_
  refine r_mkBound rfl rfl ?_
  refine hK _ _ ?_
  clear hK K
  try simp only [updO]
  repeat' refine vs T rfl fun K hK => ?_; (try simp (disch := omega) only [go_sem])
  have hb : ∀ x, x ∈ tabI n fo → 0 ≤ x ∧ x ≤ 1000000 := by
    intro x hx
    obtain ⟨a, -, rfl⟩ := List.mem_map.1 hx
    have := hle a
    omega
  have cl := look_ok hR bq br (some (bo, n)) (some (ba, n)) (tabI n fo) (tabI n fa) (by rw [hlo]; exact Nat.le_refl _) (by omega) hb
  rw [tab_look, hrow] at cl
  refine Op1.callG (caps := #[]) (Hr := []) rfl rfl rfl cl (by rw [List.append_nil]) (fun d' H' hd' => ?_)
  obtain ⟨rfl, rfl⟩ := hd'
  refine hK _ _ ?_
  clear hK K
  try simp only [updO, List.append_nil]
  repeat' first | refine vs T rfl fun K hK => ?_; (try simp (disch := omega) only [go_sem, Nat.reduceBEq]); (first | refine hK _ _ ?_; clear hK K | skip) | refine st rfl ?_ | refine nl ?_
  have ca := runAct_ok br hR x
  refine Op1.callG (caps := #[]) (Hr := seW bq (some (bo, n)) (some (ba, n)) (tabI n (cyOn u m r c p (k + 1))) (tabI n fa) []) rfl rfl rfl ca (perm_of fun a => by simp only [seW, cnt_shp, cnt_cons, cnt_app, cnt_nil, shp_some] <;> omega) (fun d' H' hd' => ?_)
  obtain ⟨rfl, rfl⟩ := hd'
  refine hK _ _ ?_
  clear hK K
  try simp only [updO]
  rw [← hcy]
  have hcy1 := hcy
  generalize hck1 : cyC u m r c p (k + 1) = ck1 at hcy
  cases hE : enM u ck m r x with
  | false =>
    repeat' first | refine vs T rfl fun K hK => ?_; (try simp (disch := omega) only [go_sem, Nat.reduceBEq, Bool.not_false]); (refine hK _ _ ?_; clear hK K) | refine st rfl ?_ | refine sc rfl ?_ | refine nl ?_
    exact ret2 T (List.sublist_append_left _ _) (.inr ⟨hno hE, ck1, rfl, rfl⟩)
  | true =>
    rw [hE] at hoks
    obtain ⟨hx0, hxn⟩ := hen hE
    obtain ⟨y, rfl⟩ : ∃ y : Nat, x = (y : Int) := ⟨x.toNat, by omega⟩
    rw [Int.toNat_natCast] at hxn
    have hs := tab_set (n := n) (a := y) hac
    have ht := tabI_at fa hxn
    have hly := hla y
    have hw2 : IntKind.i64.wrap ((fa y : Int) + 1) = (fa y : Int) + 1 := w64 (by omega)
    have ht1 : (tabI n fa)[y * 1]? = some ((fa y : Nat) : Int) := by rw [Nat.mul_one]; exact ht
    have q1 : ¬ bq = bo := hbq.2.1
    have q2 : ¬ bq = ba := hbq.1
    have q3 : ¬ bo = ba := fun h => n4.1 h.symm
    refine vo ?_
    refine VCo.weak (Weak.perm (H' := (bq, .cells 64 2 [.gs (some (bo, n)) n, .gs (some (ba, n)) n]) :: (bo, .cells 3 (n * 1) ((tabI n (cyOn u m r c p (k + 1))).map iD)) :: (ba, .cells 3 (n * 1) ((tabI n fa).map iD)) :: rW br u m r ck1) (perm_of fun a => by simp only [seW, tabI_len, cnt_shp, cnt_cons, cnt_app, cnt_nil, shp_some]; omega)) ?_
    repeat' first | refine vs T rfl fun K hK => ?_; (try simp (disch := omega) only [go_sem, Nat.reduceBEq, hw, hw2, ht1, hla1, Bool.not_true]); (first | refine hK _ _ ?_; clear hK K | refine ⟨?_, hK _ _ ?_⟩ <;> clear hK K; focus (try omega)) | refine st rfl ?_ | refine sc rfl ?_ | refine nl ?_ | refine ov ?_
    refine ⟨⟨k + 1, by omega, hoks⟩, ?_, by dsimp only; omega⟩
    dsimp only
    rw [hck1, ← hs]
    refine Weak.trans (Weak.perm (H' := seW bq (some (bo, n)) (some (ba, n)) (tabI n (cyOn u m r c p (k + 1))) ((tabI n fa).set y ((fa y : Int) + 1)) (rW br u m r ck1)) (perm_of fun a => by simp only [seW, tabI_len, List.length_set, List.map_set, Nat.mul_one, cnt_shp, cnt_cons, cnt_app, cnt_nil, shp_some])) (Weak.sub ?_)
    simp [sub, upd]
end Go.Proofs.Ytfifcjgcajpnoaa
/- Contracts: whether two configurations are the same, in the program. No condition. -/
namespace Go.Proofs.Ytfifcjgcajpnoaa
set_option linter.unusedSimpArgs false
set_option linter.unusedVariables false
set_option maxRecDepth 20000
open Go Go.Proofs Go.Vc
attribute [local irreducible] retQ VCg VCw

theorem dec_ne {α : Type} [DecidableEq α] {l m : List α} {i : Nat} {x y : α} (hx : l[i]? = some x) (hy : m[i]? = some y) (h : x ≠ y) : decide (l = m) = false := decide_eq_false (ne_of_at hx hy h)
theorem dec_len {α : Type} [DecidableEq α] {l m : List α} (h : l.length ≠ m.length) : decide (l = m) = false := decide_eq_false fun e => h (by rw [e])
set_option maxHeartbeats 8000000 in
theorem csameI_ok (a b : List Int) (ha : a.length ≤ 1000000) (hb : b.length ≤ 1000000) : Pure Try.prog 25 [ints a, ints b] (bD (decide (a = b))) := by
  refine Fun.of T [.tmp 4] Try.func25 rfl Try.ntmps25 Try.results25 rfl (by kernel_rfl) ?_
  by_cases hl : a.length = b.length
  case neg =>
    have hl' : ((a.length : Int) != (b.length : Int)) = true := bne_iff_ne.2 (by omega)
    rw [dec_len hl]
    repeat' first | refine vs T rfl fun K hK => ?_; (try simp (disch := omega) only [go_sem, Nat.reduceBEq, iRs_len, hl']); (refine hK _ _ ?_; clear hK K) | refine st rfl ?_ | refine sc rfl ?_ | refine nl ?_ | exact ret1 T (List.nil_sublist _) ⟨rfl, rfl⟩
  have hl' : ((a.length : Int) != (b.length : Int)) = false := by simp [hl]
  repeat' first | refine vs T rfl fun K hK => ?_; (try simp (disch := omega) only [go_sem, Nat.reduceBEq, iRs_len, hl']); (refine hK _ _ ?_; clear hK K) | refine st rfl ?_ | refine sc rfl ?_ | refine nl ?_
  refine VC.loop {k : Nat // k ≤ a.length ∧ ∀ i, i < k → a[i]? = b[i]?} (fun p => ⟨lookD [(0, ints a), (1, ints b), (12, iD (a.length : Nat)), (13, iD (p.1 : Nat))], []⟩) (fun p => a.length - p.1) ⟨0, by omega, fun i hi => by omega⟩ ?_ ?_
  · refine Weak.sub ?_
    simp [sub, upd]
  rintro ⟨k, hk, hs⟩
  dsimp only
  rcases Nat.lt_or_ge k a.length with hlt | hge
  case inr =>
    have hd : decide ((k : Int) < (a.length : Int)) = false := by simp; omega
    rw [decide_eq_true (ext_of hl fun i hi => hs i (by omega))]
    repeat' first | refine vs T rfl fun K hK => ?_; (try simp (disch := omega) only [go_sem, Nat.reduceBEq, hd]); (refine hK _ _ ?_; clear hK K) | refine st rfl ?_ | refine sc rfl ?_ | refine nl ?_ | exact ret1 T (List.nil_sublist _) ⟨rfl, rfl⟩
  have hd : decide ((k : Int) < (a.length : Int)) = true := by simp; omega
  have hw : IntKind.i64.wrap ((k : Int) + 1) = ((k + 1 : Nat) : Int) := by rw [w64 (by omega)]; omega
  have hkb : k < b.length := by omega
  obtain ⟨x, hx⟩ : ∃ x, a[k]? = some x := ⟨_, List.getElem?_eq_getElem hlt⟩
  obtain ⟨y, hy⟩ : ∃ y, b[k]? = some y := ⟨_, List.getElem?_eq_getElem hkb⟩
  have hrx : (iRs a)[k]? = some [iD x] := by rw [iRs_at, hx]; rfl
  have hry : (iRs b)[k]? = some [iD y] := by rw [iRs_at, hy]; rfl
  by_cases he : x = y
  · have he' : (x != y) = false := by simp [he]
    repeat' first | refine dr (id := 6) T 8 (by kernel_rfl) ?_ | refine gn ?_ | apply VCg.step T rfl rfl; focus ((try simp (disch := omega) only [go_sem, Nat.reduceBEq, hrx, hry, iRs_len]); (first | exact rfl | refine ⟨?_, rfl⟩; try omega)) | refine vs T rfl fun K hK => ?_; (try simp (disch := omega) only [go_sem, Nat.reduceBEq, hd, hw, he']); (refine hK _ _ ?_; clear hK K) | refine st rfl ?_ | refine sc rfl ?_ | refine nl ?_
    refine ⟨⟨k + 1, by omega, samestep hs hx (by rw [hy, he])⟩, Weak.sub ?_, by simp only []; omega⟩
    simp [sub, upd]
  · have he' : (x != y) = true := by simpa using he
    rw [dec_ne hx hy he]
    repeat' first | refine dr (id := 6) T 8 (by kernel_rfl) ?_ | refine gn ?_ | apply VCg.step T rfl rfl; focus ((try simp (disch := omega) only [go_sem, Nat.reduceBEq, hrx, hry, iRs_len]); (first | exact rfl | refine ⟨?_, rfl⟩; try omega)) | refine vs T rfl fun K hK => ?_; (try simp (disch := omega) only [go_sem, Nat.reduceBEq, hd, he']); (refine hK _ _ ?_; clear hK K) | refine st rfl ?_ | refine sc rfl ?_ | refine nl ?_ | exact ret1 T (List.nil_sublist _) ⟨rfl, rfl⟩
set_option maxHeartbeats 8000000 in
theorem csameE_ok (a b : List En) (ha : a.length ≤ 1000000) (hb : b.length ≤ 1000000) : Pure Try.prog 35 [buf a, buf b] (bD (decide (a = b))) := by
  refine Fun.of T [.tmp 4] Try.func35 rfl Try.ntmps35 Try.results35 rfl (by kernel_rfl) ?_
  by_cases hl : a.length = b.length
  case neg =>
    have hl' : ((a.length : Int) != (b.length : Int)) = true := bne_iff_ne.2 (by omega)
    rw [dec_len hl]
    repeat' first | refine vs T rfl fun K hK => ?_; (try simp (disch := omega) only [go_sem, Nat.reduceBEq, eRs_len, hl']); (refine hK _ _ ?_; clear hK K) | refine st rfl ?_ | refine sc rfl ?_ | refine nl ?_ | exact ret1 T (List.nil_sublist _) ⟨rfl, rfl⟩
  have hl' : ((a.length : Int) != (b.length : Int)) = false := by simp [hl]
  repeat' first | refine vs T rfl fun K hK => ?_; (try simp (disch := omega) only [go_sem, Nat.reduceBEq, eRs_len, hl']); (refine hK _ _ ?_; clear hK K) | refine st rfl ?_ | refine sc rfl ?_ | refine nl ?_
  refine VC.loop {k : Nat // k ≤ a.length ∧ ∀ i, i < k → a[i]? = b[i]?} (fun p => ⟨lookD [(0, buf a), (1, buf b), (12, iD (a.length : Nat)), (13, iD (p.1 : Nat))], []⟩) (fun p => a.length - p.1) ⟨0, by omega, fun i hi => by omega⟩ ?_ ?_
  · refine Weak.sub ?_
    simp [sub, upd]
  rintro ⟨k, hk, hs⟩
  dsimp only
  rcases Nat.lt_or_ge k a.length with hlt | hge
  case inr =>
    have hd : decide ((k : Int) < (a.length : Int)) = false := by simp; omega
    rw [decide_eq_true (ext_of hl fun i hi => hs i (by omega))]
    repeat' first | refine vs T rfl fun K hK => ?_; (try simp (disch := omega) only [go_sem, Nat.reduceBEq, hd]); (refine hK _ _ ?_; clear hK K) | refine st rfl ?_ | refine sc rfl ?_ | refine nl ?_ | exact ret1 T (List.nil_sublist _) ⟨rfl, rfl⟩
  have hd : decide ((k : Int) < (a.length : Int)) = true := by simp; omega
  have hw : IntKind.i64.wrap ((k : Int) + 1) = ((k + 1 : Nat) : Int) := by rw [w64 (by omega)]; omega
  have hkb : k < b.length := by omega
  obtain ⟨x, hx⟩ : ∃ x, a[k]? = some x := ⟨_, List.getElem?_eq_getElem hlt⟩
  obtain ⟨y, hy⟩ : ∃ y, b[k]? = some y := ⟨_, List.getElem?_eq_getElem hkb⟩
  have hrx : (eRs a)[k]? = some [iD x.1, iD x.2] := by rw [eRs_at, hx]; rfl
  have hry : (eRs b)[k]? = some [iD y.1, iD y.2] := by rw [eRs_at, hy]; rfl
  by_cases he : x = y
  · have hs1 := samestep hs hx (by rw [hy, he])
    subst he
    repeat' first | refine dr (id := 6) T 8 (by kernel_rfl) ?_ | refine gn ?_ | apply VCg.step T rfl rfl; focus ((try simp (disch := omega) only [go_sem, Nat.reduceBEq, Nat.reduceAdd, Nat.reduceLeDiff, hrx, hry, eRs_len, beq_self_eq_true]); (first | exact rfl | refine ⟨?_, rfl⟩; try omega)) | refine vs T rfl fun K hK => ?_; (try simp (disch := omega) only [go_sem, Nat.reduceBEq, hd, hw, beq_self_eq_true, Bool.not_true]); (first | refine hK _ _ ?_; clear hK K | refine Op1.eqS rfl (eq25 _ _ _ _) rfl rfl rfl ?_; refine hK _ _ ?_; clear hK K) | refine st rfl ?_ | refine sc rfl ?_ | refine nl ?_ | with_reducible refine gf ?_ ?_; focus (simp (disch := omega) only [go_sem, beq_self_eq_true, Bool.not_true]; done)
    refine ⟨⟨k + 1, by omega, hs1⟩, Weak.sub ?_, by simp only []; omega⟩
    simp [sub, upd]
  · have hne : (x.1 == y.1 && x.2 == y.2) = false := by
      rw [Bool.eq_false_iff]
      simp only [Bool.and_eq_true, beq_iff_eq, ne_eq]
      exact fun h => he (Prod.ext h.1 h.2)
    rw [dec_ne hx hy he]
    repeat' first | refine dr (id := 6) T 8 (by kernel_rfl) ?_ | refine gn ?_ | apply VCg.step T rfl rfl; focus ((try simp (disch := omega) only [go_sem, Nat.reduceBEq, Nat.reduceAdd, Nat.reduceLeDiff, hrx, hry, eRs_len]); (first | exact rfl | refine ⟨?_, rfl⟩; try omega)) | refine vs T rfl fun K hK => ?_; (try simp (disch := omega) only [go_sem, Nat.reduceBEq, hd, hne, Bool.not_false]); (first | refine hK _ _ ?_; clear hK K | refine Op1.eqS rfl (eq25 _ _ _ _) rfl rfl rfl ?_; refine hK _ _ ?_; clear hK K) | refine st rfl ?_ | refine sc rfl ?_ | refine nl ?_ | exact ret1 T (List.nil_sublist _) ⟨rfl, rfl⟩ | with_reducible refine gt ?_ ?_; focus (simp (disch := omega) only [go_sem, hne, Bool.not_false]; done)
set_option maxHeartbeats 8000000 in
theorem callI_ok (a b : List (List Int)) (ha : a.length ≤ 1000000) (hb : b.length ≤ 1000000) (ra : ∀ r, r ∈ a → r.length ≤ 1000000) (rb : ∀ r, r ∈ b → r.length ≤ 1000000) :
    Pure Try.prog 26 [.sl false 1 (rowsI a), .sl false 1 (rowsI b)] (bD (decide (a = b))) := by
  refine Fun.of T [.tmp 4] Try.func26 rfl Try.ntmps26 Try.results26 rfl (by kernel_rfl) ?_
  by_cases hl : a.length = b.length
  case neg =>
    have hl' : ((a.length : Int) != (b.length : Int)) = true := bne_iff_ne.2 (by omega)
    rw [dec_len hl]
    repeat' first | refine vs T rfl fun K hK => ?_; (try simp (disch := omega) only [go_sem, Nat.reduceBEq, rowsI_len, hl']); (refine hK _ _ ?_; clear hK K) | refine st rfl ?_ | refine sc rfl ?_ | refine nl ?_ | exact ret1 T (List.nil_sublist _) ⟨rfl, rfl⟩
  have hl' : ((a.length : Int) != (b.length : Int)) = false := by simp [hl]
  repeat' first | refine vs T rfl fun K hK => ?_; (try simp (disch := omega) only [go_sem, Nat.reduceBEq, rowsI_len, hl']); (refine hK _ _ ?_; clear hK K) | refine st rfl ?_ | refine sc rfl ?_ | refine nl ?_
  refine VC.loop {k : Nat // k ≤ a.length ∧ ∀ i, i < k → a[i]? = b[i]?} (fun p => ⟨lookD [(0, .sl false 1 (rowsI a)), (1, .sl false 1 (rowsI b)), (12, iD (a.length : Nat)), (13, iD (p.1 : Nat))], []⟩) (fun p => a.length - p.1) ⟨0, by omega, fun i hi => by omega⟩ ?_ ?_
  · refine Weak.sub ?_
    simp [sub, upd]
  rintro ⟨k, hk, hs⟩
  dsimp only
  rcases Nat.lt_or_ge k a.length with hlt | hge
  case inr =>
    have hd : decide ((k : Int) < (a.length : Int)) = false := by simp; omega
    rw [decide_eq_true (ext_of hl fun i hi => hs i (by omega))]
    repeat' first | refine vs T rfl fun K hK => ?_; (try simp (disch := omega) only [go_sem, Nat.reduceBEq, hd]); (refine hK _ _ ?_; clear hK K) | refine st rfl ?_ | refine sc rfl ?_ | refine nl ?_ | exact ret1 T (List.nil_sublist _) ⟨rfl, rfl⟩
  have hd : decide ((k : Int) < (a.length : Int)) = true := by simp; omega
  have hw : IntKind.i64.wrap ((k : Int) + 1) = ((k + 1 : Nat) : Int) := by rw [w64 (by omega)]; omega
  have hkb : k < b.length := by omega
  obtain ⟨x, hx⟩ : ∃ x, a[k]? = some x := ⟨_, List.getElem?_eq_getElem hlt⟩
  obtain ⟨y, hy⟩ : ∃ y, b[k]? = some y := ⟨_, List.getElem?_eq_getElem hkb⟩
  have hrx : (rowsI a)[k]? = some [ints x] := by rw [rowsI_at, hx]; rfl
  have hry : (rowsI b)[k]? = some [ints y] := by rw [rowsI_at, hy]; rfl
  have c1 := csameI_ok x y (ra x (List.mem_of_getElem? hx)) (rb y (List.mem_of_getElem? hy))
  by_cases he : x = y
  · rw [decide_eq_true he] at c1
    repeat' first | refine dr (id := 6) T 8 (by kernel_rfl) ?_ | refine gn ?_ | apply VCg.step T rfl rfl; focus ((try simp (disch := omega) only [go_sem, Nat.reduceBEq, hrx, hry, rowsI_len]); (first | exact rfl | refine ⟨?_, rfl⟩; try omega)) | refine vs T rfl fun K hK => ?_; (try simp (disch := omega) only [go_sem, Nat.reduceBEq, hd, hw, Bool.not_true]); (first | refine hK _ _ ?_; clear hK K | refine Op1.callp rfl rfl (c1) rfl ?_; refine hK _ _ ?_; clear hK K) | refine st rfl ?_ | refine sc rfl ?_ | refine nl ?_
    refine ⟨⟨k + 1, by omega, samestep hs hx (by rw [hy, he])⟩, Weak.sub ?_, by simp only []; omega⟩
    simp [sub, upd]
  · rw [decide_eq_false he] at c1
    rw [dec_ne hx hy he]
    repeat' first | refine dr (id := 6) T 8 (by kernel_rfl) ?_ | refine gn ?_ | apply VCg.step T rfl rfl; focus ((try simp (disch := omega) only [go_sem, Nat.reduceBEq, hrx, hry, rowsI_len]); (first | exact rfl | refine ⟨?_, rfl⟩; try omega)) | refine vs T rfl fun K hK => ?_; (try simp (disch := omega) only [go_sem, Nat.reduceBEq, hd, Bool.not_false]); (first | refine hK _ _ ?_; clear hK K | refine Op1.callp rfl rfl (c1) rfl ?_; refine hK _ _ ?_; clear hK K) | refine st rfl ?_ | refine sc rfl ?_ | refine nl ?_ | exact ret1 T (List.nil_sublist _) ⟨rfl, rfl⟩
set_option maxHeartbeats 8000000 in
theorem callE_ok (a b : List (List En)) (ha : a.length ≤ 1000000) (hb : b.length ≤ 1000000) (ra : ∀ r, r ∈ a → r.length ≤ 1000000) (rb : ∀ r, r ∈ b → r.length ≤ 1000000) :
    Pure Try.prog 27 [.sl false 1 (bufsR a), .sl false 1 (bufsR b)] (bD (decide (a = b))) := by
  refine Fun.of T [.tmp 4] Try.func27 rfl Try.ntmps27 Try.results27 rfl (by kernel_rfl) ?_
  by_cases hl : a.length = b.length
  case neg =>
    have hl' : ((a.length : Int) != (b.length : Int)) = true := bne_iff_ne.2 (by omega)
    rw [dec_len hl]
    repeat' first | refine vs T rfl fun K hK => ?_; (try simp (disch := omega) only [go_sem, Nat.reduceBEq, bufsR_len, hl']); (refine hK _ _ ?_; clear hK K) | refine st rfl ?_ | refine sc rfl ?_ | refine nl ?_ | exact ret1 T (List.nil_sublist _) ⟨rfl, rfl⟩
  have hl' : ((a.length : Int) != (b.length : Int)) = false := by simp [hl]
  repeat' first | refine vs T rfl fun K hK => ?_; (try simp (disch := omega) only [go_sem, Nat.reduceBEq, bufsR_len, hl']); (refine hK _ _ ?_; clear hK K) | refine st rfl ?_ | refine sc rfl ?_ | refine nl ?_
  refine VC.loop {k : Nat // k ≤ a.length ∧ ∀ i, i < k → a[i]? = b[i]?} (fun p => ⟨lookD [(0, .sl false 1 (bufsR a)), (1, .sl false 1 (bufsR b)), (12, iD (a.length : Nat)), (13, iD (p.1 : Nat))], []⟩) (fun p => a.length - p.1) ⟨0, by omega, fun i hi => by omega⟩ ?_ ?_
  · refine Weak.sub ?_
    simp [sub, upd]
  rintro ⟨k, hk, hs⟩
  dsimp only
  rcases Nat.lt_or_ge k a.length with hlt | hge
  case inr =>
    have hd : decide ((k : Int) < (a.length : Int)) = false := by simp; omega
    rw [decide_eq_true (ext_of hl fun i hi => hs i (by omega))]
    repeat' first | refine vs T rfl fun K hK => ?_; (try simp (disch := omega) only [go_sem, Nat.reduceBEq, hd]); (refine hK _ _ ?_; clear hK K) | refine st rfl ?_ | refine sc rfl ?_ | refine nl ?_ | exact ret1 T (List.nil_sublist _) ⟨rfl, rfl⟩
  have hd : decide ((k : Int) < (a.length : Int)) = true := by simp; omega
  have hw : IntKind.i64.wrap ((k : Int) + 1) = ((k + 1 : Nat) : Int) := by rw [w64 (by omega)]; omega
  have hkb : k < b.length := by omega
  obtain ⟨x, hx⟩ : ∃ x, a[k]? = some x := ⟨_, List.getElem?_eq_getElem hlt⟩
  obtain ⟨y, hy⟩ : ∃ y, b[k]? = some y := ⟨_, List.getElem?_eq_getElem hkb⟩
  have hrx : (bufsR a)[k]? = some [buf x] := by rw [bufsR_at, hx]; rfl
  have hry : (bufsR b)[k]? = some [buf y] := by rw [bufsR_at, hy]; rfl
  have c1 := csameE_ok x y (ra x (List.mem_of_getElem? hx)) (rb y (List.mem_of_getElem? hy))
  by_cases he : x = y
  · rw [decide_eq_true he] at c1
    repeat' first | refine dr (id := 6) T 8 (by kernel_rfl) ?_ | refine gn ?_ | apply VCg.step T rfl rfl; focus ((try simp (disch := omega) only [go_sem, Nat.reduceBEq, hrx, hry, bufsR_len]); (first | exact rfl | refine ⟨?_, rfl⟩; try omega)) | refine vs T rfl fun K hK => ?_; (try simp (disch := omega) only [go_sem, Nat.reduceBEq, hd, hw, Bool.not_true]); (first | refine hK _ _ ?_; clear hK K | refine Op1.callp rfl rfl (c1) rfl ?_; refine hK _ _ ?_; clear hK K) | refine st rfl ?_ | refine sc rfl ?_ | refine nl ?_
    refine ⟨⟨k + 1, by omega, samestep hs hx (by rw [hy, he])⟩, Weak.sub ?_, by simp only []; omega⟩
    simp [sub, upd]
  · rw [decide_eq_false he] at c1
    rw [dec_ne hx hy he]
    repeat' first | refine dr (id := 6) T 8 (by kernel_rfl) ?_ | refine gn ?_ | apply VCg.step T rfl rfl; focus ((try simp (disch := omega) only [go_sem, Nat.reduceBEq, hrx, hry, bufsR_len]); (first | exact rfl | refine ⟨?_, rfl⟩; try omega)) | refine vs T rfl fun K hK => ?_; (try simp (disch := omega) only [go_sem, Nat.reduceBEq, hd, Bool.not_false]); (first | refine hK _ _ ?_; clear hK K | refine Op1.callp rfl rfl (c1) rfl ?_; refine hK _ _ ?_; clear hK K) | refine st rfl ?_ | refine sc rfl ?_ | refine nl ?_ | exact ret1 T (List.nil_sublist _) ⟨rfl, rfl⟩
set_option maxHeartbeats 8000000 in
theorem csame_ok (a b : Cf) (ha : OkC a) (hb : OkC b) : Pure Try.prog 15 [.agg (cfC a), .agg (cfC b)] (bD (sameC a b)) := by
  have c1 := csameI_ok a.pc b.pc (by have := ha.pc; omega) (by have := hb.pc; omega)
  have c2 := csameI_ok a.mem b.mem (by have := ha.mem; omega) (by have := hb.mem; omega)
  have c3 := callI_ok a.regs b.regs (by have := ha.regs; omega) (by have := hb.regs; omega) (fun r h => by have := ha.row r h; omega) (fun r h => by have := hb.row r h; omega)
  have c4 := callE_ok a.bufs b.bufs (by have := ha.bufs; omega) (by have := hb.bufs; omega) (fun r h => by have := ha.buf r h; omega) (fun r h => by have := hb.buf r h; omega)
  refine Fun.of T [.tmp 4] Try.func15 rfl Try.ntmps15 Try.results15 rfl (by kernel_rfl) ?_
  cases h1 : decide (a.pc = b.pc)
  · rw [h1] at c1
    rw [show sameC a b = false by simp only [sameC, h1, Bool.false_and]]
    repeat' first | refine vb rfl rfl rfl rfl ?_ | refine vs T rfl fun K hK => ?_; (try simp (disch := omega) only [go_sem, Nat.reduceBEq]); (first | refine hK _ _ ?_; clear hK K | refine Op1.callp rfl rfl (c1) rfl ?_; refine hK _ _ ?_; clear hK K) | refine st rfl ?_ | refine nl ?_ | refine gs rfl rfl ?_ | exact ret1 T (List.nil_sublist _) ⟨rfl, rfl⟩
  rw [h1] at c1
  cases h2 : decide (a.mem = b.mem)
  · rw [h2] at c2
    rw [show sameC a b = false by simp only [sameC, h1, h2, Bool.false_and, Bool.true_and]]
    repeat' first | refine vb rfl rfl rfl rfl ?_ | refine vs T rfl fun K hK => ?_; (try simp (disch := omega) only [go_sem, Nat.reduceBEq]); (first | refine hK _ _ ?_; clear hK K | refine Op1.callp rfl rfl (c1) rfl ?_; refine hK _ _ ?_; clear hK K | refine Op1.callp rfl rfl (c2) rfl ?_; refine hK _ _ ?_; clear hK K) | refine st rfl ?_ | refine nl ?_ | refine gs rfl rfl ?_ | exact ret1 T (List.nil_sublist _) ⟨rfl, rfl⟩
  rw [h2] at c2
  cases h3 : decide (a.regs = b.regs)
  · rw [h3] at c3
    rw [show sameC a b = false by simp only [sameC, h1, h2, h3, Bool.false_and, Bool.true_and]]
    repeat' first | refine vb rfl rfl rfl rfl ?_ | refine vs T rfl fun K hK => ?_; (try simp (disch := omega) only [go_sem, Nat.reduceBEq]); (first | refine hK _ _ ?_; clear hK K | refine Op1.callp rfl rfl (c1) rfl ?_; refine hK _ _ ?_; clear hK K | refine Op1.callp rfl rfl (c2) rfl ?_; refine hK _ _ ?_; clear hK K | refine Op1.callp rfl rfl (c3) rfl ?_; refine hK _ _ ?_; clear hK K) | refine st rfl ?_ | refine nl ?_ | refine gs rfl rfl ?_ | exact ret1 T (List.nil_sublist _) ⟨rfl, rfl⟩
  rw [h3] at c3
  rw [show sameC a b = decide (a.bufs = b.bufs) by simp only [sameC, h1, h2, h3, Bool.true_and]]
  generalize decide (a.bufs = b.bufs) = x at c4
  repeat' first | refine vb rfl rfl rfl rfl ?_ | refine vs T rfl fun K hK => ?_; (try simp (disch := omega) only [go_sem, Nat.reduceBEq]); (first | refine hK _ _ ?_; clear hK K | refine Op1.callp rfl rfl (c1) rfl ?_; refine hK _ _ ?_; clear hK K | refine Op1.callp rfl rfl (c2) rfl ?_; refine hK _ _ ?_; clear hK K | refine Op1.callp rfl rfl (c3) rfl ?_; refine hK _ _ ?_; clear hK K | refine Op1.callp rfl rfl (c4) rfl ?_; refine hK _ _ ?_; clear hK K) | refine st rfl ?_ | refine nl ?_ | refine gs rfl rfl ?_ | exact ret1 T (List.nil_sublist _) ⟨rfl, rfl⟩
end Go.Proofs.Ytfifcjgcajpnoaa
/- Contracts: what is told of a path and a circle. No condition. -/
namespace Go.Proofs.Ytfifcjgcajpnoaa
set_option linter.unusedSimpArgs false
set_option linter.unusedVariables false
set_option maxRecDepth 20000
open Go Go.Proofs Go.Vc
attribute [local irreducible] retQ VCg VCw

theorem goF_rt {u : Un} {m r : Int} : ∀ (p : List Int) (c : Cf) (k : Nat), Rt u c m r → Rt u (goF u m r c p k).1 m r
  | [], c, k, h => h
  | a :: p, c, k, h => by
    unfold goF
    cases enM u c m r a with
    | true => exact goF_rt p _ _ (h.actM a)
    | false => exact h
theorem repF_rt {u : Un} (hu : OkU u) {m r : Int} {p : List Int} (h : ((repF u m r p).2.2 == 0) = true) : Rt u (repF u m r p).1 m r := by
  cases hU : unitB u with
  | false => simp [repF, hU] at h
  | true =>
    cases hM : okMR m r with
    | false => simp [repF, hU, hM] at h
    | true =>
      rw [show repF u m r p = goF u m r (startC u) p 0 by simp [repF, hU, hM]]
      simp only [okMR, Bool.and_eq_true, decide_eq_true_eq] at hM
      exact goF_rt _ _ _ (start_right hu hU (by omega) (by omega))
def wDead (u : Un) (m r : Int) (p : List Int) : Bool := ((repF u m r p).2.2 == 0) && deadB u (repF u m r p).1 m r
def wFin (u : Un) (m r : Int) (p : List Int) : Bool := ((repF u m r p).2.2 == 0) && finalB u (repF u m r p).1
set_option maxHeartbeats 8000000 in
theorem wdead_ok (u : Un) (hu : OkU u) (m r : Int) (p : List Int) (hp : p.length ≤ 1000000) : Pure Try.prog 9 [.agg (unC u), iD m, iD r, ints p] (bD (wDead u m r p)) := by
  have cb := begun_ok u hu m r p hp
  have hR := repF_rt hu (m := m) (r := r) (p := p)
  unfold wDead
  generalize repF u m r p = x at *
  obtain ⟨c, k, e⟩ := x
  dsimp only at cb hR ⊢
  refine Fun.of T [.tmp 8] Try.func9 rfl Try.ntmps9 Try.results9 rfl (by kernel_rfl) ?_
  cases he : e == 0
  · rw [he] at cb
    rw [Bool.false_and]
    repeat' first | refine vb (t := 25) rfl rfl rfl rfl ?_ | refine dr (id := 2) T 9 (by kernel_rfl) ?_ | refine gn ?_ | (apply VCg.step T rfl rfl); focus ((try simp (disch := omega) only [go_sem, Nat.reduceBEq]); (exact rfl)) | refine VCg.gstep T rfl rfl rfl rfl ?_; try simp only [GB] | refine vs T rfl fun K hK => ?_; (try simp (disch := omega) only [go_sem, Nat.reduceBEq, Nat.reduceAdd, Nat.reduceLeDiff]); (first | refine hK _ _ ?_; clear hK K | refine Op1.callx rfl rfl (cb) rfl (fun q hq => ?_); refine hK _ _ ?_; clear hK K) | refine st rfl ?_ | refine nl ?_ | refine gs rfl rfl ?_ | exact ret1 T (List.nil_sublist _) ⟨rfl, rfl⟩
  · rw [he] at cb
    have cd := dead_ok (hR he)
    rw [Bool.true_and]
    generalize deadB u c m r = y at *
    repeat' first | refine vb (t := 25) rfl rfl rfl rfl ?_ | refine dr (id := 2) T 9 (by kernel_rfl) ?_ | refine gn ?_ | (first | apply VCg.step T rfl rfl | apply exF); focus ((try simp (disch := omega) only [go_sem, Nat.reduceBEq, Nat.reduceAdd, Nat.reduceLeDiff]); (exact rfl)) | refine VCg.gstep T rfl rfl rfl rfl ?_; try simp only [GB] | refine vs T rfl fun K hK => ?_; (try simp (disch := omega) only [go_sem, Nat.reduceBEq, Nat.reduceAdd, Nat.reduceLeDiff]); (first | refine hK _ _ ?_; clear hK K | refine Op1.callp rfl rfl (cd) rfl ?_; refine hK _ _ ?_; clear hK K | refine Op1.callx rfl rfl (cb) rfl (fun q hq => ?_); refine hK _ _ ?_; clear hK K) | refine st rfl ?_ | refine nl ?_ | refine gs rfl rfl ?_ | exact ret1 T (List.nil_sublist _) ⟨rfl, rfl⟩
set_option maxHeartbeats 8000000 in
theorem wfin_ok (u : Un) (hu : OkU u) (m r : Int) (p : List Int) (hp : p.length ≤ 1000000) : Pure Try.prog 10 [.agg (unC u), iD m, iD r, ints p] (bD (wFin u m r p)) := by
  have cb := begun_ok u hu m r p hp
  have hR := repF_rt hu (m := m) (r := r) (p := p)
  unfold wFin
  generalize repF u m r p = x at *
  obtain ⟨c, k, e⟩ := x
  dsimp only at cb hR ⊢
  refine Fun.of T [.tmp 8] Try.func10 rfl Try.ntmps10 Try.results10 rfl (by kernel_rfl) ?_
  cases he : e == 0
  · rw [he] at cb
    rw [Bool.false_and]
    repeat' first | refine vb (t := 25) rfl rfl rfl rfl ?_ | refine dr (id := 2) T 7 (by kernel_rfl) ?_ | refine gn ?_ | (apply VCg.step T rfl rfl); focus ((try simp (disch := omega) only [go_sem, Nat.reduceBEq]); (exact rfl)) | refine VCg.gstep T rfl rfl rfl rfl ?_; try simp only [GB] | refine vs T rfl fun K hK => ?_; (try simp (disch := omega) only [go_sem, Nat.reduceBEq, Nat.reduceAdd, Nat.reduceLeDiff]); (first | refine hK _ _ ?_; clear hK K | refine Op1.callx rfl rfl (cb) rfl (fun q hq => ?_); refine hK _ _ ?_; clear hK K) | refine st rfl ?_ | refine nl ?_ | refine gs rfl rfl ?_ | exact ret1 T (List.nil_sublist _) ⟨rfl, rfl⟩
  · rw [he] at cb
    have h := hR he
    have cd := final_ok u c (by have := h.okU.cod; omega) (by have := h.okC.bufs; omega)
    rw [Bool.true_and]
    generalize finalB u c = y at *
    repeat' first | refine vb (t := 25) rfl rfl rfl rfl ?_ | refine dr (id := 2) T 7 (by kernel_rfl) ?_ | refine gn ?_ | (first | apply VCg.step T rfl rfl | apply exF); focus ((try simp (disch := omega) only [go_sem, Nat.reduceBEq, Nat.reduceAdd, Nat.reduceLeDiff]); (exact rfl)) | refine VCg.gstep T rfl rfl rfl rfl ?_; try simp only [GB] | refine vs T rfl fun K hK => ?_; (try simp (disch := omega) only [go_sem, Nat.reduceBEq, Nat.reduceAdd, Nat.reduceLeDiff]); (first | refine hK _ _ ?_; clear hK K | refine Op1.callp rfl rfl (cd) rfl ?_; refine hK _ _ ?_; clear hK K | refine Op1.callx rfl rfl (cb) rfl (fun q hq => ?_); refine hK _ _ ?_; clear hK K) | refine st rfl ?_ | refine nl ?_ | refine gs rfl rfl ?_ | exact ret1 T (List.nil_sublist _) ⟨rfl, rfl⟩
section
variable {u : Un} {c : Cf} {m r : Int}
theorem round_yes (h : Rt u c m r) (br : Nat) (p : List Int) (hp : p.length ≤ 1000) (hk : cyOk u m r c p p.length = true) :
    Fun Try.prog 14 [pD br, ints p] (rW br u m r c) false (fun d H' => ∃ x : Nat × Nat × Nat, True ∧ d = .tup [pD x.1, bD true] ∧
      H' = seW x.1 (some (x.2.1, (agsF u m).length)) (some (x.2.2, (agsF u m).length)) (tabI (agsF u m).length (cyOn u m r c p p.length)) (tabI (agsF u m).length (cyAc p p.length)) (rW br u m r (cyC u m r c p p.length))) :=
  Fun.mono (round_ok h br p hp) fun d H' hd => by
    rcases hd with ⟨-, bs, bo, ba, h1, h2⟩ | ⟨h1, -⟩
    · exact ⟨(bs, bo, ba), trivial, h1, h2⟩
    · rw [hk] at h1; cases h1
theorem round_no (h : Rt u c m r) (br : Nat) (p : List Int) (hp : p.length ≤ 1000) (hk : cyOk u m r c p p.length = false) :
    Fun Try.prog 14 [pD br, ints p] (rW br u m r c) false (fun d H' => ∃ x : Cf, True ∧ d = .tup [.is (.pointer none), bD false] ∧ H' = rW br u m r x) :=
  Fun.mono (round_ok h br p hp) fun d H' hd => by
    rcases hd with ⟨h1, -⟩ | ⟨-, c', h1, h2⟩
    · rw [hk] at h1; cases h1
    · exact ⟨c', trivial, h1, h2⟩
end
/-- To whom a circle is unfair, if it can be gone. -/
def cyU (u : Un) (m r md : Int) (q : List Int) (c : Cf) : Int := unfF md (q.length : Nat) (tabI (agsF u m).length (cyOn u m r c q q.length)) (tabI (agsF u m).length (cyAc q q.length))
def wUnf (u : Un) (m r md : Int) (p w : List Int) : Int := match ((repF u m r p).2.2 == 0) && cyOk u m r (repF u m r p).1 w w.length with | true => cyU u m r md w (repF u m r p).1 | false => -1
set_option maxHeartbeats 8000000 in
theorem wunf_ok (u : Un) (hu : OkU u) (m r md : Int) (p w : List Int) (hp : p.length ≤ 1000000) (hw : w.length ≤ 1000) : Pure Try.prog 11 [.agg (unC u), iD m, iD r, iD md, ints p, ints w] (iD (wUnf u m r md p w)) := by
  have cb := begun_ok u hu m r p hp
  have hR := repF_rt hu (m := m) (r := r) (p := p)
  unfold wUnf
  generalize repF u m r p = x at *
  obtain ⟨c, k, e⟩ := x
  dsimp only at cb hR ⊢
  refine Fun.of T [.tmp 12] Try.func11 rfl Try.ntmps11 Try.results11 rfl (by kernel_rfl) ?_
  cases he : e == 0
  · rw [he] at cb
    rw [Bool.false_and]
    repeat' first | refine vb (t := 25) rfl rfl rfl rfl ?_ | refine vs T rfl fun K hK => ?_; (try simp (disch := omega) only [go_sem, Nat.reduceBEq, Nat.reduceAdd, Nat.reduceLeDiff, Bool.not_false]); (first | refine hK _ _ ?_; clear hK K | refine Op1.callx rfl rfl (cb) rfl (fun q hq => ?_); refine hK _ _ ?_; clear hK K) | refine st rfl ?_ | refine sc rfl ?_ | refine nl ?_ | exact ret1 T (List.nil_sublist _) ⟨rfl, rfl⟩
  rw [he] at cb
  have h := hR he
  rw [Bool.true_and]
  cases hk : cyOk u m r c w w.length
  · have cr := fun br => round_no h br w hw hk
    repeat' first | refine vb (t := 25) rfl rfl rfl rfl ?_ | refine vs T rfl fun K hK => ?_; (try simp (disch := omega) only [go_sem, Nat.reduceBEq, Nat.reduceAdd, Nat.reduceLeDiff, Bool.not_true, Bool.not_false]); (first | refine hK _ _ ?_; clear hK K | refine Op1.callx rfl rfl (cb) rfl (fun q hq => ?_); refine hK _ _ ?_; clear hK K | refine Op1.callX rfl rfl (cr _) rfl (by repeat (first | exact Pick.nil | apply Pick.take)) (fun q hq => ?_); refine hK _ _ ?_; clear hK K; (try simp only [List.append_nil])) | refine st rfl ?_ | refine sc rfl ?_ | refine nl ?_ | exact ret1 T (List.nil_sublist _) ⟨rfl, rfl⟩
  have cr := fun br => round_yes h br w hw hk
  have hN := agsF_len u m
  dsimp only
  unfold cyU
  have hl1 := tabI_len (agsF u m).length (cyOn u m r c w w.length)
  have hl2 := tabI_len (agsF u m).length (cyAc w w.length)
  generalize (agsF u m).length = n at *
  generalize tabI n (cyOn u m r c w w.length) = on at *
  generalize tabI n (cyAc w w.length) = ac at *
  generalize cyC u m r c w w.length = c2 at *
  subst hl1
  have cu := fun bs bo ba => unfair_ok bs (some (bo, on.length)) (some (ba, on.length)) on ac (Nat.le_refl _) (by rw [hl2]; exact Nat.le_refl _) hl2 (by omega) md (w.length : Nat)
  repeat' first | refine vb (t := 25) rfl rfl rfl rfl ?_ | refine vs T rfl fun K hK => ?_; (try simp (disch := omega) only [go_sem, Nat.reduceBEq, Nat.reduceAdd, Nat.reduceLeDiff, Bool.not_true, iRs_len]); (first | refine hK _ _ ?_; clear hK K | refine Op1.callx rfl rfl (cb) rfl (fun q hq => ?_); refine hK _ _ ?_; clear hK K | refine Op1.callX rfl rfl (cr _) rfl (by repeat (first | exact Pick.nil | apply Pick.take)) (fun q hq => ?_); refine hK _ _ ?_; clear hK K; (try simp only [List.append_nil]) | refine Op1.callV rfl rfl (cu _ _ _) rfl (by repeat (first | exact Pick.nil | apply Pick.take)) ?_; refine hK _ _ ?_; clear hK K; (try simp only [List.cons_append])) | refine st rfl ?_ | refine sc rfl ?_ | refine nl ?_ | exact ret1 T (List.nil_sublist _) ⟨rfl, rfl⟩
end Go.Proofs.Ytfifcjgcajpnoaa
