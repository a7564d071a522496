/- All that can be reached, as data. No condition. -/
import Derived.Test.YtomcmfbpmkklmaaGreatBc
import Derived.Test.YtomcmfbpmkklmaaGreatRt
import Derived.Test.YtomcmfbpmkklmaaGreatDb
import Derived.Test.YtomcmfbpmkklmaaGreatDd
import Derived.Test.YtomcmfbpmkklmaaGreatYc
namespace Go.Proofs.YtomcmfbpmkklmaaGreat
set_option maxHeartbeats 16000000
set_option linter.unusedSimpArgs false
set_option linter.unusedVariables false
open Go Go.Proofs Go.Vc
instance : DecidableEq Cf := fun a b => decidable_of_iff (a.pc = b.pc ∧ a.regs = b.regs ∧ a.mem = b.mem ∧ a.bufs = b.bufs) ⟨fun h => by cases a; cases b; simp_all, fun h => by subst h; simp⟩
def cfsRows (C : List Cf) : List (List D) := C.map cfC
theorem cfsRows_len (C : List Cf) : (cfsRows C).flatten.length = C.length * 4 := by
 induction C with
 | nil => rfl
 | cons c C ih => simp only [cfsRows, List.map_cons, List.flatten_cons, List.length_append, List.length_cons, List.length_nil] at ih ⊢; omega
theorem cfsRows_snoc (C : List Cf) (c : Cf) : (cfsRows (C ++ [c])).flatten = (cfsRows C).flatten ++ cfC c := by simp [cfsRows]
abbrev allS (u : Un) (m r b : Int) : Option (Spc Cf) := allA (fun c => movesF u c m r) (fun c a => actM u c m r a) b.toNat (startC u)
abbrev spC (C : List Cf) (g : Cs) (P B : List Int) : List D := [.sl false 4 (cfsRows C), ints g.st, ints g.ag, ints g.to, ints P, ints B]
def edS (S : Spc Cf) : List Ed := S.ed.map fun e => ((e.1 : Int), e.2.1, (e.2.2 : Int))
def gphS (S : Spc Cf) : Cs := buildF S.cf.length (edS S)
abbrev spA (S : Spc Cf) : List D := spC S.cf (gphS S) S.pa S.ag
instance : Inhabited Cf := ⟨⟨[], [], [], []⟩⟩
theorem cfsRows_l (C : List Cf) : (cfsRows C).length = C.length := List.length_map ..
theorem cfsRows_row (C : List Cf) : ∀ r, r ∈ cfsRows C → r.length = 4 := by
 intro r hr
 obtain ⟨x, _, rfl⟩ := List.mem_map.1 hr
 rfl
def plI (x : Option Nat) : Int := match x with | some k => k | none => -1
theorem idx_at {l : List Cf} {c : Cf} {k : Nat} (h : l[k]? = some c) (hs : ∀ i, i < k → l[i]? ≠ some c) : idxD l c = some k := by
 unfold idxD
 rw [List.idxOf?, List.findIdx?_eq_some_iff_getElem]
 obtain ⟨hk, he⟩ := List.getElem?_eq_some_iff.1 h
 refine ⟨hk, by simp [he], fun j hj => ?_⟩
 have := hs j hj
 rw [List.getElem?_eq_getElem (by omega)] at this
 simpa using this
theorem idx_no {l : List Cf} {c : Cf} (hs : ∀ i, i < l.length → l[i]? ≠ some c) : idxD l c = none := by
 cases h : idxD l c with
 | none => rfl
 | some k =>
  have := idxD_some h
  exact absurd this (hs k (List.getElem?_eq_some_iff.1 this).1)
theorem mvK_nn {u : Un} {c : Cf} {m r : Int} {A : List Ag} {k : Nat} : ∀ a, a ∈ mvK u c m r A k → 0 ≤ a := by
 intro a ha
 simp only [mvK, List.mem_map] at ha
 obtain ⟨i, _, rfl⟩ := ha
 omega
theorem moves_nn {u : Un} {c : Cf} {m r : Int} : ∀ a, a ∈ movesF u c m r → 0 ≤ a := mvK_nn
theorem moves_len {u : Un} {c : Cf} {m r : Int} : (movesF u c m r).length ≤ 28 := Nat.le_trans mvK_len (agsF_len u m)
theorem gphS_ok {u : Un} {m r b : Int} {S : Spc Cf} (h : allS u m r b = some S) (hb : 1 ≤ b) : ∀ e, e ∈ edS S → 0 ≤ e.1 ∧ e.1 < S.cf.length ∧ 0 ≤ e.2.2 ∧ e.2.2 < S.cf.length ∧ 0 ≤ e.2.1 := by
 obtain ⟨I, hE, hC⟩ := allA_inv h (by omega)
 intro e he
 obtain ⟨x, hx, rfl⟩ := List.mem_map.1 he
 rw [hE] at hx
 obtain ⟨j, hj, hx⟩ := List.mem_flatMap.1 hx
 cases hq : S.cf[j]? with
 | none => rw [hq] at hx; cases hx
 | some c =>
  rw [hq] at hx
  obtain ⟨a, ha, rfl⟩ := List.mem_map.1 hx
  have h1 := (List.getElem?_eq_some_iff.1 hq).1
  have h2 := List.idxOf_lt_length_of_mem (hC j c hq a ha)
  have h3 := moves_nn a ha
  dsimp only
  omega
theorem ix_cfs {e eb : Nat} {ea full : Bool} {ez : List Value} {l : List Cf} {k : IntKind} {n : Int} {K : D → Prop} :
  cIndexAddr (.slice e 4 eb ea ez) (.sl full 4 (cfsRows l)) (.is (.int k n)) K = ((0 ≤ n ∧ n < l.length) ∧ K (.pt (cfC (l.getD n.toNat default)))) := ix_map cfC default
theorem Sp.hereS {b cap : Nat} {e : TypeId} {esz : Nat} {l : List D} {X : Heap} : Sp ((b, .cells e (cap * esz) l) :: X) (some (b, cap)) e esz l (fun g' l' => shp g' e esz l' X) := Sp.here (g := some (b, cap))
theorem perm3 {x1 x2 x3 x4 : Nat × HC} {g g' : Option (Nat × Nat)} {e e' esz esz' : Nat} {l l' : List D} : (x1 :: x2 :: x3 :: shp g e esz l (shp g' e' esz' l' [x4])).Perm (x1 :: x2 :: x3 :: x4 :: shp g' e' esz' l' (shp g e esz l [])) :=
 perm_of fun a => by simp only [cnt_cons, cnt_shp, cnt_nil]; omega
theorem rowA_cons {α : Type} [DecidableEq α] {ac : α → Int → α} {b i : Nat} {c : α} {a : Int} {l : List Int} {S : Spc α} : rowA ac b i c (a :: l) S = (stepA ac b i c S a).bind (rowA ac b i c l) := by
 rw [rowA]
 cases stepA ac b i c S a <;> rfl
theorem rowsA_at {α : Type} [DecidableEq α] {mv : α → List Int} {ac : α → Int → α} {b n i : Nat} {S : Spc α} {c : α} (h : S.cf[i]? = some c) : rowsA mv ac b (n + 1) i S = (rowA ac b i c (mv c) S).bind (rowsA mv ac b n (i + 1)) := by
 rw [rowsA, h]
 simp only
 generalize rowA ac b i c (mv c) S = x
 cases x <;> rfl
theorem rowsA_end {α : Type} [DecidableEq α] {mv : α → List Int} {ac : α → Int → α} {b n i : Nat} {S : Spc α} (h : S.cf.length ≤ i) : rowsA mv ac b n i S = some S := by
 cases n with
 | zero => rfl
 | succ n => rw [rowsA, List.getElem?_eq_none h]
theorem edS_snoc (S : Spc Cf) (C : List Cf) (P A : List Int) (i : Nat) (a : Int) (j : Nat) : edS ⟨C, P, A, S.ed ++ [(i, a, j)]⟩ = edS S ++ [((i : Int), a, (j : Int))] := by simp [edS]
theorem edS_len (S : Spc Cf) : (edS S).length = S.ed.length := by simp [edS]
set_option maxRecDepth 20000
attribute [local irreducible] retQ VCg VCw VCx
theorem cnt_step (l : List Ed) (i : Nat) : (l.countP fun e => decide (0 ≤ e.1) && decide (e.1 < (i : Int))) + (l.countP fun e => e.1 == (i : Int)) = l.countP fun e => decide (0 ≤ e.1) && decide (e.1 < ((i + 1 : Nat) : Int)) := by
 induction l with
 | nil => rfl
 | cons x l ih =>
  rw [List.countP_cons, List.countP_cons, List.countP_cons, ← ih]
  have key : (if (decide (0 ≤ x.1) && decide (x.1 < (i : Int))) = true then 1 else 0) + (if (x.1 == (i : Int)) = true then 1 else 0) = (if (decide (0 ≤ x.1) && decide (x.1 < ((i + 1 : Nat) : Int))) = true then 1 else 0) := by
   simp only [Bool.and_eq_true, decide_eq_true_eq, beq_iff_eq]
   split <;> split <;> split <;> omega
  omega
theorem upE_len (l : List Ed) : ∀ i, (upE l i).length = l.countP fun e => decide (0 ≤ e.1) && decide (e.1 < (i : Int))
 | 0 => by
  symm
  rw [upE_zero, List.length_nil, List.countP_eq_zero]
  intro e _
  simp only [Bool.and_eq_true, decide_eq_true_eq]; omega
 | i + 1 => by rw [upE_succ, List.length_append, upE_len l i, ← cnt_step]; unfold outE; rw [List.countP_eq_length_filter (p := fun e : Ed => e.1 == (i : Int))]
theorem upE_le (l : List Ed) (i : Nat) : (upE l i).length ≤ l.length := by rw [upE_len]; exact List.countP_le_length
def upK (l : List Ed) (i k : Nat) : List Ed := upE l i ++ outE (l.take k) i
theorem upK_0 (l : List Ed) (i : Nat) : upK l i 0 = upE l i := by simp [upK, outE]
theorem upK_all (l : List Ed) (i : Nat) : upK l i l.length = upE l (i + 1) := by rw [upK, List.take_length, upE_succ]
theorem upK_succ {l : List Ed} {i k : Nat} (hk : k < l.length) : upK l i (k + 1) = upK l i k ++ (match (l.getD k (0, 0, 0)).1 == (i : Int) with | true => [l.getD k (0, 0, 0)] | false => []) := by
 unfold upK outE
 rw [List.take_add_one, getD_at (d := (0, 0, 0)) hk, List.append_assoc]
 congr 1
 rw [Option.toList_some, List.filter_append]
 have h0 : ∀ x : Ed, [x].filter (fun e => e.1 == (i : Int)) = match x.1 == (i : Int) with | true => [x] | false => [] := fun x => by
  rw [List.filter_cons, List.filter_nil]
  cases x.1 == (i : Int) <;> rfl
 rw [h0]
theorem upK_le (l : List Ed) (i k : Nat) : (upK l i k).length ≤ l.length := by
 have h1 := upE_le l (i + 1)
 have h2 : (outE (l.take k) i).length ≤ (outE l i).length := ((List.take_sublist k l).filter _).length_le
 rw [upE_succ, List.length_append] at h1
 rw [upK, List.length_append]; omega
def stK (l : List Ed) (i : Nat) : List Int := (List.range (i + 1)).map fun j => ((upE l j).length : Int)
theorem stK_succ (l : List Ed) (i : Nat) : stK l (i + 1) = stK l i ++ [((upE l (i + 1)).length : Int)] := by
 unfold stK; rw [List.range_succ, List.map_append]; rfl
theorem stK_len (l : List Ed) (i : Nat) : (stK l i).length = i + 1 := by simp [stK]
def buildR (n : Int) (l : List Ed) : Cs × Int := match decide (0 ≤ n) && (decide (n ≤ 100000) && edOk n.toNat l) with | true => (buildF n.toNat l, 0) | false => (⟨[], [], []⟩, 1)
theorem buildR_no {n : Int} {l : List Ed} (h : ¬ (0 ≤ n ∧ n ≤ 100000 ∧ ∀ e, e ∈ l → 0 ≤ e.1 ∧ e.1 < n ∧ 0 ≤ e.2.2 ∧ e.2.2 < n ∧ 0 ≤ e.2.1)) : buildR n l = (⟨[], [], []⟩, 1) := by
 unfold buildR
 split
 ·rename_i hd
  simp only [Bool.and_eq_true, decide_eq_true_eq, edOk, List.all_eq_true] at hd
  obtain ⟨h1, h2, h3⟩ := hd
  exact absurd ⟨h1, h2, fun e he => by have := h3 e he; omega⟩ h
 ·rfl
theorem buildR_ok {n : Nat} {l : List Ed} (h2 : n ≤ 100000) (h : ∀ e, e ∈ l → 0 ≤ e.1 ∧ e.1 < n ∧ 0 ≤ e.2.2 ∧ e.2.2 < n ∧ 0 ≤ e.2.1) : buildR n l = (buildF n l, 0) := by
 unfold buildR
 have : (decide ((0 : Int) ≤ n) && (decide ((n : Int) ≤ 100000) && edOk (n : Int).toNat l)) = true := by
  simp only [Bool.and_eq_true, decide_eq_true_eq, edOk, List.all_eq_true, Int.toNat_natCast]
  exact ⟨by omega, by omega, fun e he => by have := h e he; omega⟩
 rw [this]
 rfl
abbrev csD (ga gb gc : Option (Nat × Nat)) (a b c : Nat) : List D := [.gs ga a, .gs gb b, .gs gc c]
abbrev csW (ga gb gc : Option (Nat × Nat)) (S : List Int) (L : List Ed) (H : Heap) : Heap := shp ga 3 1 (S.map iD) (shp gb 3 1 ((L.map (·.2.1)).map iD) (shp gc 3 1 ((L.map (·.2.2)).map iD) H))
theorem fz_cs0 {H : Heap} {a : D} : Fz H (.tup [.agg (csC ⟨[], [], []⟩), a]) (.tup [.agg [.gs none 0, .gs none 0, .gs none 0], a]) :=
 ⟨_, rfl, fz_cons ⟨_, rfl, fz_cons fz_nil (fz_cons fz_nil (fz_cons fz_nil fz_end))⟩ (FzL.refl _ _)⟩
theorem fz_csW {ga gb gc : Option (Nat × Nat)} {S : List Int} {L : List Ed} {H : Heap} {a : D} {n : Nat} (hS : S.length = n) (h1 : gOk ga n) (h2 : gOk gb L.length) (h3 : gOk gc L.length) (hm : ∀ x, x ∈ csW ga gb gc S L [] → x ∈ H) :
  Fz H (.tup [.agg (csC ⟨S, L.map (·.2.1), L.map (·.2.2)⟩), a]) (.tup [.agg (csD ga gb gc n L.length L.length), a]) := by
 subst hS
 have z1 := Fz_ints (e := 3) (s := S) (H := H) h1 fun b c e => hm _ (by subst e; exact mem_shp0)
 have z2 := Fz_ints (e := 3) (s := L.map (·.2.1)) (g := gb) (H := H) (by rw [List.length_map]; exact h2) fun b c e => hm _ (mem_shp (by subst e; exact mem_shp0))
 have z3 := Fz_ints (e := 3) (s := L.map (·.2.2)) (g := gc) (H := H) (by rw [List.length_map]; exact h3) fun b c e => hm _ (mem_shp (mem_shp (by subst e; exact mem_shp0)))
 rw [List.length_map] at z2 z3
 exact ⟨_, rfl, fz_cons ⟨_, rfl, fz_cons z1 (fz_cons z2 (fz_cons z3 fz_end))⟩ (FzL.refl _ _)⟩
theorem build14_ok (n : Int) (l : List Ed) (hl : l.length ≤ 1000000) : Pure Tryz.prog 60 [iD n, edsD l] (.tup [.agg (csC (buildR n l).1), iD (buildR n l).2]) := by
 refine Fun.fz ?_
 refine Fun.of T [.cell 4 32, .tmp 5] Tryz.func60 rfl Tryz.ntmps60 Tryz.results60 rfl (by kernel_rfl) ?_
 repeat' first | refine vs T rfl fun K hK => ?_; (try simp (disch := omega) only [go_sem, Nat.reduceBEq, Nat.reduceAdd, Nat.reduceLeDiff]); (first | refine hK _ _ ?_; clear hK K | intro bq hbq; (try simp only [HB] at hbq); refine hK _ _ ?_; clear hK K) | refine st rfl ?_ | refine sc rfl ?_ | refine nl ?_ | refine gs rfl rfl ?_ | with_reducible refine gsplit_intro (fun hc => ?_) (fun hc => ?_) <;> (try simp only [decide_eq_true_eq, decide_eq_false_iff_not, gt_iff_lt, Int.not_lt] at hc)
 any_goals (rw [buildR_no fun h => by omega]; exact retc1 T rfl (by (try simp (disch := omega) only [hget_ne, hget_eq]); rfl) rfl rfl rfl (List.nil_sublist _) fz_cs0)
 rename Nat => b8
 refine VC.loop {k : Nat // k ≤ l.length ∧ ∀ i, i < k → 0 ≤ (l.getD i (0, 0, 0)).1 ∧ (l.getD i (0, 0, 0)).1 < n ∧ 0 ≤ (l.getD i (0, 0, 0)).2.2 ∧ (l.getD i (0, 0, 0)).2.2 < n ∧ 0 ≤ (l.getD i (0, 0, 0)).2.1}
  (fun p => ⟨lookD [(0, iD n), (1, edsD l), (4, .is (.pointer (some ⟨b8, 0, none⟩))), (6, iD (p.1 : Nat))], [(b8, .cells 32 3 [.gs none 0, .gs none 0, .gs none 0])]⟩) (fun p => l.length - p.1) ⟨0, by omega, fun i hi => by omega⟩ ?_ ?_
 ·refine Weak.sub ?_
  simp [sub, upd]
 rintro ⟨k, hk, hs⟩
 dsimp only
 repeat' first | refine vs T rfl fun K hK => ?_; (try simp (disch := omega) only [go_sem, Nat.reduceBEq, Nat.reduceAdd, Nat.reduceMul, Nat.reduceLeDiff, ix_eds, edRs_len, edR, w64, Int.toNat_natCast]); (first | refine hK _ _ ?_; clear hK K | refine ⟨_, _, _, _, (by repeat (first | apply Sp.cons | exact Sp.nil)), ?_, (by exact ⟨rfl, rfl⟩), ⟨by decide, ?_⟩, fun g' hg' => hK _ _ ?_⟩ <;> clear hK K | intro bq hbq; (try simp only [HB] at hbq); refine hK _ _ ?_; clear hK K | refine ⟨?_, hK _ _ ?_⟩ <;> clear hK K; focus (try omega)) | refine st rfl ?_ | refine sc rfl ?_ | refine nl ?_ | refine gs rfl rfl ?_ | with_reducible refine gsplit_intro (fun hc => ?_) (fun hc => ?_) <;> (try simp only [decide_eq_true_eq, decide_eq_false_iff_not, ge_iff_le, Int.not_le, Int.not_lt] at hc)
 any_goals (rw [buildR_no fun h => by have := h.2.2 _ (getD_mem (d := (0, 0, 0)) (show k < l.length by omega)); omega]; exact retc1 T rfl (by (try simp (disch := omega) only [hget_ne, hget_eq]); rfl) rfl rfl rfl (List.nil_sublist _) fz_cs0)
 ·refine ⟨⟨k + 1, by omega, fun i hi => ?_⟩, Weak.sub ?_, by simp only []; omega⟩
  ·rcases Nat.lt_or_ge i k with h | h
   ·exact hs i h
   ·obtain rfl : i = k := by omega
    omega
  ·simp [sub, upd]
 ·rfl
 ·decide
 obtain rfl : k = l.length := by omega
 obtain ⟨n, rfl⟩ : ∃ m : Nat, n = (m : Int) := ⟨n.toNat, by omega⟩
 have hE : ∀ e, e ∈ l → 0 ≤ e.1 ∧ e.1 < n ∧ 0 ≤ e.2.2 ∧ e.2.2 < n ∧ 0 ≤ e.2.1 := fun e he => by
  obtain ⟨i, hi⟩ := List.mem_iff_getElem?.1 he
  have := hs i (List.getElem?_eq_some_iff.1 hi).1
  rw [getD_of hi] at this
  exact this
 have hn : n ≤ 100000 := by omega
 rw [buildR_ok (by omega) hE]
 have hnb : ¬ bq = b8 := hbq
 refine VC.loop {p : Nat × Option (Nat × Nat) × Option (Nat × Nat) × Option (Nat × Nat) // p.1 ≤ n ∧ gOk p.2.1 (p.1 + 1) ∧ gOk p.2.2.1 (upE l p.1).length ∧ gOk p.2.2.2 (upE l p.1).length}
  (fun p => ⟨lookD [(0, iD n), (1, edsD l), (4, .is (.pointer (some ⟨b8, 0, none⟩))), (7, .is (.pointer (some ⟨bq, 0, none⟩))), (8, iD (p.1.1 : Nat))], (bq, .cells 32 3 (csD p.1.2.1 p.1.2.2.1 p.1.2.2.2 (p.1.1 + 1) (upE l p.1.1).length (upE l p.1.1).length)) :: (b8, .cells 32 3 [.gs none 0, .gs none 0, .gs none 0]) :: csW p.1.2.1 p.1.2.2.1 p.1.2.2.2 (stK l p.1.1) (upE l p.1.1) []⟩)
  (fun p => n - p.1.1) ⟨(0, g', none, none), by dsimp only; exact ⟨Nat.zero_le _, hg', rfl, rfl⟩⟩ ?_ ?_
 ·refine Weak_subEq rfl ?_
  simp [sub, upd]
 rintro ⟨⟨i, ga, gb, gc⟩, hi, h1, h2, h3⟩
 dsimp only at hi h1 h2 h3 ⊢
 repeat' first | refine vs T rfl fun K hK => ?_; (try simp (disch := omega) only [go_sem, Nat.reduceBEq, Nat.reduceAdd, Nat.reduceLeDiff]); (refine hK _ _ ?_; clear hK K) | refine st rfl ?_ | refine sc rfl ?_ | refine nl ?_ | with_reducible refine gsplit_intro (fun hc => ?_) (fun hc => ?_) <;> (try simp only [decide_eq_true_eq, decide_eq_false_iff_not, Int.not_lt] at hc)
 ·refine VC.loop {p : Nat × Option (Nat × Nat) × Option (Nat × Nat) // p.1 ≤ l.length ∧ gOk p.2.1 (upK l i p.1).length ∧ gOk p.2.2 (upK l i p.1).length}
   (fun p => ⟨lookD [(0, iD n), (1, edsD l), (4, .is (.pointer (some ⟨b8, 0, none⟩))), (7, .is (.pointer (some ⟨bq, 0, none⟩))), (8, iD (i : Nat)), (9, iD (p.1.1 : Nat))], (bq, .cells 32 3 (csD ga p.1.2.1 p.1.2.2 (i + 1) (upK l i p.1.1).length (upK l i p.1.1).length)) :: (b8, .cells 32 3 [.gs none 0, .gs none 0, .gs none 0]) :: csW ga p.1.2.1 p.1.2.2 (stK l i) (upK l i p.1.1) []⟩)
   (fun p => l.length - p.1.1) ⟨(0, gb, gc), by dsimp only; rw [upK_0]; exact ⟨Nat.zero_le _, h2, h3⟩⟩ ?_ ?_
  ·refine Weak_subEq (by dsimp only; rw [upK_0]) ?_
   simp [sub, upd]
  rintro ⟨⟨k, gb, gc⟩, hk, h2, h3⟩
  dsimp only at hk h2 h3 ⊢
  have hle := upK_le l i k
  have hst := stK_len l i
  repeat' first | refine dr (id := 17) T 8 (by kernel_rfl) ?_ | refine dr (id := 18) T 8 (by kernel_rfl) ?_ | refine gn ?_ | (first | apply VCg.step T rfl rfl | apply exF); focus ((try simp (disch := omega) only [go_sem, Nat.reduceBEq, Nat.reduceMul, Nat.reduceLeDiff, ix_eds, edR, Int.toNat_natCast]); (first | exact rfl | refine ⟨?_, rfl⟩; try omega)) | refine vs T rfl fun K hK => ?_; (try simp (disch := omega) only [go_sem, Nat.reduceBEq, Nat.reduceAdd, Nat.reduceMul, Nat.reduceLeDiff, ix_eds, edR, edRs_len, w64, Int.toNat_natCast]); (first | refine hK _ _ ?_; clear hK K | refine ⟨_, _, _, _, (by repeat (first | exact Sp.here | apply Sp.cons | apply Sp.over)), ?_, (by exact ⟨rfl, rfl⟩), ⟨by decide, ?_⟩, fun g' hg' => hK _ _ ?_⟩ <;> clear hK K | refine ⟨?_, hK _ _ ?_⟩ <;> clear hK K; focus (try omega)) | refine st rfl ?_ | refine sc rfl ?_ | refine nl ?_ | with_reducible refine gsplit_intro (fun hc => ?_) (fun hc => ?_) <;> (try simp only [decide_eq_true_eq, decide_eq_false_iff_not, beq_iff_eq, beq_eq_false_iff_ne, ne_eq, Int.not_lt] at hc)
  ·simp
  ·omega
  ·simp
  ·omega
  ·rename_i ga' hga'
   have hb : ((l.getD k (0, 0, 0)).1 == (i : Int)) = true := beq_iff_eq.2 hc
   have hK : upK l i (k + 1) = upK l i k ++ [l.getD k (0, 0, 0)] := by rw [upK_succ (by omega), hb]
   refine ⟨⟨(k + 1, _, _), by dsimp only; rw [hK, List.length_append]; exact ⟨by omega, hga', hg'⟩⟩, Weak_subEq ?_ ?_, by dsimp only; omega⟩
   ·dsimp only
    rw [hK, List.length_append]
    simp only [csW, List.map_append, List.map_cons, List.map_nil]
    rfl
   ·simp [sub, upd]
  ·have hb : ((l.getD k (0, 0, 0)).1 == (i : Int)) = false := by simpa using hc
   have hK : upK l i (k + 1) = upK l i k := by rw [upK_succ (by omega), hb, List.append_nil]
   refine ⟨⟨(k + 1, gb, gc), by dsimp only; rw [hK]; exact ⟨by omega, h2, h3⟩⟩, Weak_subEq ?_ ?_, by dsimp only; omega⟩
   ·dsimp only
    rw [hK]
   ·simp [sub, upd]
  ·simp [hst]
  ·omega
  ·obtain rfl : k = l.length := by omega
   refine ⟨⟨(i + 1, _, gb, gc), by dsimp only; rw [← upK_all]; exact ⟨by omega, hg', h2, h3⟩⟩, Weak_subEq ?_ ?_, by dsimp only; omega⟩
   ·dsimp only
    rw [stK_succ, ← upK_all]
    simp only [csW, List.map_append, List.map_cons, List.map_nil]
   ·simp [sub, upd]
 obtain rfl : i = n := by omega
 refine retc1 T rfl (by (try simp (disch := omega) only [hget_ne, hget_eq]); rfl) rfl rfl rfl (List.Sublist.refl _) ?_
 exact fz_csW (stK_len l i) h1 h2 h3 fun x hx => List.mem_cons_of_mem _ (List.mem_cons_of_mem _ hx)
structure ToOk (n : Nat) (P B : List Int) : Prop where
 len : n ≤ 1000000
 pl : P.length = n
 bl : B.length = n
 par : ∀ j, 0 < j → j < n → 0 ≤ P.getD j 0 ∧ P.getD j 0 < j
def toK (P B : List Int) : Nat → Nat → List Int
 | 0, _ => []
 | _ + 1, 0 => []
 | n + 1, i + 1 => toK P B n (P.getD (i + 1) 0).toNat ++ [B.getD (i + 1) 0]
theorem toK_stable {n : Nat} {P B : List Int} (h : ToOk n P B) : ∀ {i k q : Nat}, i < n → i ≤ k → i ≤ q → toK P B k i = toK P B q i := by
 intro i
 induction i using Nat.strongRecOn with
 | _ i ih =>
  intro k q hi hk hq
  cases i with
  | zero => cases k <;> cases q <;> rfl
  | succ i =>
   cases k with
   | zero => omega
   | succ k =>
    cases q with
    | zero => omega
    | succ q =>
     have := h.par (i + 1) (by omega) hi
     rw [toK, toK, ih (P.getD (i + 1) 0).toNat (by omega) (k := k) (q := q) (by omega) (by omega) (by omega)]
def toF (P B : List Int) (i : Nat) : List Int := toK P B i i
theorem toF_0 (P B : List Int) : toF P B 0 = [] := rfl
theorem toF_succ {n : Nat} {P B : List Int} (h : ToOk n P B) {i : Nat} (h0 : 0 < i) (hi : i < n) : toF P B i = toF P B (P.getD i 0).toNat ++ [B.getD i 0] := by
 cases i with
 | zero => omega
 | succ i =>
  have := h.par (i + 1) (by omega) hi
  unfold toF
  rw [toK, toK_stable h (k := i) (q := (P.getD (i + 1) 0).toNat) (by omega) (by omega) (Nat.le_refl _)]
def toI (n : Nat) (P B : List Int) (i : Int) : List Int := match decide (0 < i) && decide (i < n) with | true => toF P B i.toNat | false => []
def revK (L : List Int) (i : Nat) : List Int := (List.range L.length).map fun j => if j < i ∨ L.length ≤ j + i then L.getD (L.length - 1 - j) 0 else L.getD j 0
theorem revK_len (L : List Int) (i : Nat) : (revK L i).length = L.length := by simp [revK]
theorem revK_at {L : List Int} {i j : Nat} (h : j < L.length) : (revK L i).getD j 0 = if j < i ∨ L.length ≤ j + i then L.getD (L.length - 1 - j) 0 else L.getD j 0 := by
 rw [List.getD_eq_getElem?_getD, revK, List.getElem?_map, List.getElem?_range h]; rfl
theorem revK_0 (L : List Int) : revK L 0 = L := ext_getD (d := 0) (revK_len L 0) fun j hj => by
 rw [revK_len] at hj
 rw [revK_at hj, if_neg (by omega)]
theorem revK_end {L : List Int} {i : Nat} (h : L.length ≤ 2 * i + 1) : revK L i = L.reverse := ext_getD (d := 0) (by rw [revK_len, List.length_reverse]) fun j hj => by
 rw [revK_len] at hj
 rw [revK_at hj, List.getD_eq_getElem?_getD (l := L.reverse), List.getElem?_reverse hj, ← List.getD_eq_getElem?_getD]
 split
 ·rfl
 ·rw [show L.length - 1 - j = j by omega]
theorem revK_succ {L : List Int} {i : Nat} (h : 2 * i + 1 < L.length) : revK L (i + 1) = ((revK L i).set i ((revK L i).getD (L.length - 1 - i) 0)).set (L.length - 1 - i) ((revK L i).getD i 0) := by
 have a1 : (revK L i).getD (L.length - 1 - i) 0 = L.getD (L.length - 1 - i) 0 := by rw [revK_at (by omega), if_neg (by omega)]
 have a2 : (revK L i).getD i 0 = L.getD i 0 := by rw [revK_at (by omega), if_neg (by omega)]
 rw [a1, a2]
 refine ext_getD (d := 0) (by simp [revK_len]) fun j hj => ?_
 rw [revK_len] at hj
 rw [revK_at hj, List.getD_eq_getElem?_getD (l := List.set _ _ _), List.getElem?_set, List.getElem?_set, List.length_set, revK_len]
 by_cases h1 : L.length - 1 - i = j
 ·rw [if_pos h1, if_pos (by omega), if_pos (by omega)]
  subst h1
  rw [show L.length - 1 - (L.length - 1 - i) = i by omega]; rfl
 ·rw [if_neg h1]
  by_cases h2 : i = j
  ·subst h2
   rw [if_pos rfl, if_pos (by omega), if_pos (by omega)]; rfl
  ·rw [if_neg h2, ← List.getD_eq_getElem?_getD, revK_at hj]
   by_cases h3 : j < i ∨ L.length ≤ j + i
   ·rw [if_pos h3, if_pos (by omega)]
   ·rw [if_neg h3, if_neg (by omega)]
theorem VCx.step {P : Program} (T : Tab P) {W : Nat → Bool} {st : Nat} {H H1 : Heap} {K : (Nat → D) → Prop} {m i : Nat} {E : Nat → D} {o : Oper} {l : List Oper} {d : D} {t : Tmp} (hg : o.guard = none) (ht : o.dst = some t) (hi : Nat.beq i st = false)
  (h1 : opC T o (evD E) H (fun d' H' => d' = d ∧ H' = H)) (h1' : opC T o (evD E) H1 (fun d' H' => d' = d ∧ H' = H1)) (h2 : VCx T W st H H1 K m (i + 1) l (upd E t d)) : VCx T W st H H1 K (m + 1) i (o :: l) E := by
 unfold VCx
 exact ⟨d, ⟨hg, fun _ => ⟨opS_of T h1, .inr (opS_of T h1')⟩, fun e => by subst e; rw [Nat.beq_refl] at hi; cases hi⟩, by rw [ht]; exact h2⟩
theorem VCx.nil {P : Program} (T : Tab P) {W : Nat → Bool} {st : Nat} {H H1 : Heap} {K : (Nat → D) → Prop} {i : Nat} {E : Nat → D} {l : List Oper} (h : K E) : VCx T W st H H1 K 0 i l E := by unfold VCx; exact h
theorem waits_of {ops : Array Oper} {st : Nat} {l : List Nat} (h : l.all (hasEdge ops st) = true) : ∀ i, l.contains i = true → hasEdge ops st i = true := fun i hi => List.all_eq_true.1 h i (by simpa using hi)
theorem reversed_ok (g : Option (Nat × Nat)) (L : List Int) (hg : gOk g L.length) (hL : L.length ≤ 1000000) : Fun Tryz.prog 62 [.gs g L.length] (shp g 3 1 (L.map iD) []) false
  (fun d H' => ∃ x : Unit, True ∧ d = .gs g L.length ∧ H' = shp g 3 1 (L.reverse.map iD) []) := by
 refine Fun.of T [.tmp 2] Tryz.func62 rfl Tryz.ntmps62 Tryz.results62 rfl (by kernel_rfl) ?_
 rcases g with _ | ⟨b, cap⟩
 ·have h0 : L = [] := List.eq_nil_of_length_eq_zero hg
  subst h0
  simp only [shp, List.length_nil]
  repeat' first | refine vs T rfl fun K hK => ?_; (try simp (disch := omega) only [go_sem, Nat.reduceBEq, w64]); (refine hK _ _ ?_; clear hK K) | refine st rfl ?_ | refine nl ?_
  refine VC.loop Unit (fun _ => ⟨lookD [(0, .gs none 0), (3, iD 0), (4, iD (-1))], []⟩) (fun _ => 0) () ?_ ?_
  ·refine Weak.sub ?_
   simp [sub, upd]
  intro _
  repeat' first | refine vs T rfl fun K hK => ?_; (try simp (disch := omega) only [go_sem, Nat.reduceBEq]); (refine hK _ _ ?_; clear hK K) | refine st rfl ?_ | refine sc rfl ?_ | refine nl ?_
  exact ret1 T (List.nil_sublist _) ⟨(), trivial, rfl, rfl⟩
 have hcap : L.length ≤ cap := hg
 simp only [shp]
 repeat' first | refine vs T rfl fun K hK => ?_; (try simp (disch := omega) only [go_sem, Nat.reduceBEq, w64]); (refine hK _ _ ?_; clear hK K) | refine st rfl ?_ | refine nl ?_
 refine VC.loop {i : Nat // 2 * i ≤ L.length + 1} (fun p => ⟨lookD [(0, .gs (some (b, cap)) L.length), (3, iD (p.1 : Nat)), (4, iD ((L.length : Int) - 1 - (p.1 : Nat)))], [(b, .cells 3 (cap * 1) ((revK L p.1).map iD))]⟩) (fun p => L.length - p.1) ⟨0, by omega⟩ ?_ ?_
 ·refine Weak_subEq (by rw [revK_0]) ?_
  simp [sub, upd]
 rintro ⟨i, hi⟩
 dsimp only
 rcases Nat.lt_or_ge (2 * i + 1) L.length with hlt | hge
 case inr =>
  repeat' first | refine vs T rfl fun K hK => ?_; (try simp (disch := omega) only [go_sem, Nat.reduceBEq]); (refine hK _ _ ?_; clear hK K) | refine st rfl ?_ | refine sc rfl ?_ | refine nl ?_ | with_reducible refine gsplit_intro (fun hc => ?_) (fun hc => ?_) <;> (try simp only [decide_eq_true_eq, decide_eq_false_iff_not, Int.not_lt] at hc) <;> (try (exfalso; omega))
  exact ret1 T (List.Sublist.refl _) ⟨(), trivial, rfl, by rw [revK_end hge]⟩
 have r1 : (revK L i)[i]? = some ((revK L i).getD i 0) := getD_at (by rw [revK_len]; omega)
 have r2 : (revK L i)[L.length - 1 - i]? = some ((revK L i).getD (L.length - 1 - i) 0) := getD_at (by rw [revK_len]; omega)
 have e2 : ((L.length : Int) - 1 - i).toNat = L.length - 1 - i := by omega
 repeat' first | refine VC.drawS (id := 4) (by kernel_rfl) ?_ | refine vs T rfl fun K hK => ?_; (try simp (disch := omega) only [go_sem, Nat.reduceBEq]); (refine hK _ _ ?_; clear hK K) | refine st rfl ?_ | refine sc rfl ?_ | refine nl ?_ | with_reducible refine gsplit_intro (fun hc => ?_) (fun hc => ?_) <;> (try simp only [decide_eq_true_eq, decide_eq_false_iff_not, Int.not_lt] at hc) <;> (try (exfalso; omega))
 refine VCd.groupX T (fun i => [0, 1, 4, 5, 6, 7, 8, 9, 10, 11, 12].contains i) [(b, .cells 3 (cap * 1) (((revK L i).map iD).set i (iD ((revK L i).getD (L.length - 1 - i) 0))))] 13 14 14 rfl rfl rfl (by kernel_rfl) (by kernel_rfl) (by kernel_rfl) (waits_of (by kernel_rfl)) ?_
 repeat' first
  | (apply VCx.stepW T rfl rfl (by rfl) (by rfl); focus ((try simp (disch := omega) only [go_sem, Nat.reduceBEq, Nat.reduceAdd, Nat.reduceLeDiff, w64, Int.toNat_natCast, revK_len, e2, r1, r2, Nat.mul_one]); (first | exact rfl | exact ⟨rfl, rfl⟩ | (refine ⟨?_, rfl⟩; omega))))
  | (apply VCx.step T rfl rfl (by rfl); (case h1 => (simp (disch := omega) only [go_sem]; exact rfl)); (case h1' => (simp (disch := omega) only [go_sem])))
  | (refine VCx.write T rfl rfl (by rfl) ?_ ?_; focus ((try simp (disch := omega) only [go_sem, Nat.reduceBEq, Nat.reduceAdd, Nat.reduceLeDiff, revK_len]); first | omega | (refine ⟨?_, ?_⟩; focus omega; rfl)))
  | refine VCx.nil T ?_
 repeat' first | refine VCd.tail (f := 14) (by kernel_rfl) ?_; (try simp only [List.drop_succ_cons, List.drop_zero]) | refine vs T rfl fun K hK => ?_; (try simp (disch := omega) only [go_sem, Nat.reduceBEq, w64, revK_len, e2, Nat.mul_one, List.length_set]); (first | refine hK _ _ ?_; clear hK K | refine ⟨?_, hK _ _ ?_⟩ <;> clear hK K; focus (try omega)) | refine st rfl ?_ | refine nl ?_ | refine ov ?_
 refine ⟨⟨i + 1, by omega⟩, Weak_subEq ?_ ?_, by dsimp only; omega⟩
 ·dsimp only
  rw [revK_succ hlt, List.map_set, List.map_set, Nat.mul_one]
 ·simp [sub, upd]
  omega
abbrev OwnI (L : List Int) : D → Heap → Prop := fun d H' => ∃ x : Option (Nat × Nat), gOk x L.length ∧ d = .gs x L.length ∧ H' = shp x 3 1 (L.map iD) []
theorem OwnI.freeze {f : Nat} {args : List D} {L : List Int} (h : Fun Tryz.prog f args [] false (OwnI L)) : Pure Tryz.prog f args (ints L) :=
 Fun.freeze (iRs_row _) (h.mono fun d H' ⟨x, hx, h1, h2⟩ => ⟨x, 3, by rw [h1, iRs_len], by rw [h2, iRs_flat]⟩)
theorem to_ok (C : List Cf) (g : Cs) (P B : List Int) (h : ToOk C.length P B) (i : Int) : Pure Tryz.prog 18 [.agg (spC C g P B), iD i] (ints (toI C.length P B i)) := by
 have hpl := h.pl
 have hbl := h.bl
 have hc := h.len
 refine OwnI.freeze ?_
 refine Fun.of T [.tmp 4] Tryz.func18 rfl Tryz.ntmps18 Tryz.results18 rfl (by kernel_rfl) ?_
 repeat' first | refine vb (t := 34) rfl rfl rfl rfl ?_ | refine vs T rfl fun K hK => ?_; (try simp (disch := omega) only [go_sem, Nat.reduceBEq, cfsRows_l]); (refine hK _ _ ?_; clear hK K) | refine st rfl ?_ | refine sc rfl ?_ | refine nl ?_ | refine gs rfl rfl ?_ | with_reducible refine gsplit_intro (fun hc => ?_) (fun hc => ?_) <;> (try simp only [decide_eq_true_eq, decide_eq_false_iff_not, ge_iff_le, Int.not_le, Int.not_lt] at hc)
 any_goals (rw [show toI C.length P B i = [] by unfold toI; split <;> first | rfl | (rename_i hd; simp only [Bool.and_eq_true, decide_eq_true_eq] at hd; omega)]; exact ret1 T (List.nil_sublist _) ⟨none, rfl, rfl, rfl⟩)
 obtain ⟨i, rfl⟩ : ∃ k : Nat, i = (k : Int) := ⟨i.toNat, by omega⟩
 have e1 : toI C.length P B (i : Nat) = toF P B i := by
  unfold toI
  rcases Nat.eq_zero_or_pos i with rfl | h0
  ·rw [decide_eq_false (by omega)]; rfl
  ·rw [decide_eq_true (by omega), decide_eq_true (by omega)]; rfl
 rw [e1]
 refine VC.loop {p : Nat × List Int × Option (Nat × Nat) // p.1 < C.length ∧ p.1 + p.2.1.length ≤ i ∧ toF P B i = toF P B p.1 ++ p.2.1.reverse} (fun p => ⟨lookD [(1, iD (p.1.1 : Nat)), (2, .pt (spC C g P B)), (5, .gs p.1.2.2 p.1.2.1.length)], shp p.1.2.2 3 1 (p.1.2.1.map iD) []⟩) (fun p => p.1.1) ⟨(i, [], none), by dsimp only; exact ⟨by omega, by simp, by simp⟩⟩ ?_ ?_
 ·refine Weak_subEq rfl ?_
  simp [sub, upd]
 rintro ⟨⟨k, L, a⟩, hk, hL, hF⟩
 dsimp only at hk hL hF ⊢
 refine VC_gok (t := 5) rfl fun hga => ?_
 have cr := reversed_ok a L hga (by omega)
 repeat' first | refine vs T rfl fun K hK => ?_; (try simp (disch := omega) only [go_sem, Nat.reduceBEq, Nat.reduceMul, Nat.reduceLeDiff, ix_ints, Int.toNat_natCast, gt_iff_lt]); (first | refine hK _ _ ?_; clear hK K | refine ⟨_, _, _, _, (by repeat (exact Sp.here)), ?_, (by exact ⟨rfl, rfl⟩), ⟨by decide, ?_⟩, fun g' hg' => hK _ _ ?_⟩ <;> clear hK K | refine ⟨?_, hK _ _ ?_⟩ <;> clear hK K; focus (try omega) | skip) | refine st rfl ?_ | refine sc rfl ?_ | refine nl ?_ | with_reducible refine gsplit_intro (fun hc => ?_) (fun hc => ?_) <;> (try simp only [decide_eq_true_eq, decide_eq_false_iff_not, Int.not_lt] at hc)
 ·simp
 ·omega
 ·have hp := h.par k (by omega) hk
  refine ⟨⟨((P.getD k 0).toNat, L ++ [B.getD k 0], g'), by dsimp only; exact ⟨by omega, by rw [List.length_append, List.length_cons, List.length_nil]; omega, by rw [hF, toF_succ h (by omega) hk, List.reverse_append]; simp⟩⟩, Weak_subEq ?_ ?_, by dsimp only; omega⟩
  ·dsimp only
   rw [List.map_append]; rfl
  ·simp [sub, upd, -List.getD_eq_getElem?_getD]
   omega
 ·obtain rfl : k = 0 := by omega
  rw [toF_0, List.nil_append] at hF
  refine Op1.cally (Hr := []) rfl rfl cr rfl (by rw [List.append_nil]) (fun q hq => ?_)
  refine hK _ _ ?_
  clear hK K
  rw [List.append_nil]
  repeat' first | refine vs T rfl fun K hK => ?_; (try simp (disch := omega) only [go_sem, Nat.reduceBEq]); (refine hK _ _ ?_; clear hK K) | refine st rfl ?_ | refine nl ?_
  exact ret1 T (List.Sublist.refl _) ⟨a, by rw [hF, List.length_reverse]; exact hga, by rw [hF, List.length_reverse]; rfl, by rw [hF]⟩
end Go.Proofs.YtomcmfbpmkklmaaGreat
