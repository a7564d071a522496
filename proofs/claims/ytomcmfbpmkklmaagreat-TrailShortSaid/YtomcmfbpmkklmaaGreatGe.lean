/- Plain law: a shortest way goes by edges between nodes that are in; there is one just if the goal can be reached. No condition. -/
import Derived.Test.YtomcmfbpmkklmaaGreatDy
import Derived.Test.YtomcmfbpmkklmaaGreatDp
import Derived.Test.YtomcmfbpmkklmaaGreatDd
import Derived.Test.YtomcmfbpmkklmaaGreatDf
import Derived.Test.YtomcmfbpmkklmaaGreatSa
import Derived.Test.YtomcmfbpmkklmaaGreatYc
namespace Go.Proofs.YtomcmfbpmkklmaaGreat
set_option maxHeartbeats 16000000
set_option linter.unusedSimpArgs false
set_option linter.unusedVariables false
set_option maxRecDepth 20000
open Go Go.Proofs Go.Vc
def keepE (g : Cs) (In : List Bool) : List Ed := (allG g).filter fun e => isB In e.1 && isB In e.2.2
inductive Rch (l : List Ed) (S : Int → Prop) : Int → Prop where
 | base {x : Int} : S x → Rch l S x
 | step {e : Ed} : Rch l S e.1 → e ∈ l → Rch l S e.2.2
inductive Way (l : List Ed) (a : Int) : List Int → Int → Prop where
 | nil : Way l a [] a
 | snoc {w : List Int} {e : Ed} : Way l a w e.1 → e ∈ l → Way l a (w ++ [e.2.1]) e.2.2
theorem isB_isN {In : List Bool} {x : Int} (h : 0 ≤ x) : isB In x = isN In x := by
 unfold isB isN
 have e : decide (0 ≤ x) = true := decide_eq_true h
 rw [e, Bool.true_and]
 cases decide (x < In.length) <;> rfl
structure InvI (g : Cs) (In : List Bool) (a b : Int) (i : Nat) (F : List Wy) : Prop where
 iw : IW (nodesG g) F
 w : ∀ e, e ∈ F → Way (keepE g In) a e.2.2.2 e.1 ∧ isN In e.1 = true
 cl : ∀ (j : Nat) (e : Wy), j < i → F[j]? = some e → e.1 ≠ b ∧ ∀ d, d ∈ keepE g In → d.1 = e.1 → d.2.2 ∈ F.map (·.1)
theorem stepI_sub {In : List Bool} {x : Int} {p : List Int} {F : List Wy} {d : Ed} {y : Int} (h : y ∈ F.map (·.1)) : y ∈ (stepI In x p F d).map (·.1) := by
 obtain ⟨X, e⟩ := stepI_pre In x p F d
 rw [e, List.map_append]; exact List.mem_append_left _ h
theorem stepI_has {In : List Bool} {x : Int} {p : List Int} {F : List Wy} {d : Ed} (h : isN In d.2.2 = true) : d.2.2 ∈ (stepI In x p F d).map (·.1) := by
 unfold stepI
 split
 ·simp
 ·rename_i hc
  rw [h, Bool.true_and, Bool.not_eq_false'] at hc
  exact hasN_iff.1 hc
theorem stepI_w {In : List Bool} {l : List Ed} {a : Int} {e : Wy} {F : List Wy} {d : Ed} (he : Way l a e.2.2.2 e.1) (hd : d.1 = e.1) (hm : isN In d.2.2 = true → d ∈ l) (h : ∀ e, e ∈ F → Way l a e.2.2.2 e.1 ∧ isN In e.1 = true) :
  ∀ x, x ∈ stepI In e.1 e.2.2.2 F d → Way l a x.2.2.2 x.1 ∧ isN In x.1 = true := by
 intro x hx
 unfold stepI at hx
 split at hx
 ·rename_i hc
  rw [Bool.and_eq_true] at hc
  rcases List.mem_append.1 hx with hx | hx
  ·exact h x hx
  ·rw [List.mem_singleton] at hx; subst hx
   exact ⟨Way.snoc (hd ▸ he) (hm hc.1), hc.1⟩
 ·exact h x hx
theorem rowI_inv {g : Cs} {In : List Bool} {a : Int} {i : Nat} {e : Wy} (he : Way (keepE g In) a e.2.2.2 e.1) (hI : isN In e.1 = true) : ∀ (L : List Ed) (F : List Wy), F[i]? = some e → (∀ d, d ∈ L → d ∈ outG g e.1) → EdOk (nodesG g) (allG g) → IW (nodesG g) F →
  (∀ e, e ∈ F → Way (keepE g In) a e.2.2.2 e.1 ∧ isN In e.1 = true) → IW (nodesG g) (rowI In e.1 e.2.2.2 F L) ∧ (∀ x, x ∈ rowI In e.1 e.2.2.2 F L → Way (keepE g In) a x.2.2.2 x.1 ∧ isN In x.1 = true) ∧
   (∀ y, y ∈ F.map (·.1) → y ∈ (rowI In e.1 e.2.2.2 F L).map (·.1)) ∧ ∀ d, d ∈ L → isN In d.2.2 = true → d.2.2 ∈ (rowI In e.1 e.2.2.2 F L).map (·.1)
 | [], F, hF, hL, hE, hw, h => ⟨hw, h, fun _ h => h, fun _ h => by cases h⟩
 | d :: L, F, hF, hL, hE, hw, h => by
  have hd := hL d (List.mem_cons_self ..)
  obtain ⟨d1, d2⟩ := outG_mem.1 hd
  have ho := hE d d1
  have hn := isB_isN (In := In) (x := d.1) ho.1
  have s1 := hw.step (In := In) hF (d := d) ⟨ho.2.2.1, ho.2.2.2.1⟩
  have s2 := stepI_w (In := In) (F := F) (d := d) he d2 (fun hy => by
   simp only [keepE, List.mem_filter, Bool.and_eq_true]
   exact ⟨d1, by rw [hn, d2]; exact hI, by rw [isB_isN ho.2.2.1]; exact hy⟩) h
  have hF' : (stepI In e.1 e.2.2.2 F d)[i]? = some e := by
   obtain ⟨X, q⟩ := stepI_pre In e.1 e.2.2.2 F d
   rw [q, List.getElem?_append_left (List.getElem?_eq_some_iff.1 hF).1]; exact hF
  obtain ⟨r1, r2, r3, r4⟩ := rowI_inv he hI L _ hF' (fun x hx => hL x (List.mem_cons_of_mem _ hx)) hE s1 s2
  refine ⟨r1, r2, fun y hy => r3 y (stepI_sub hy), fun x hx hi => ?_⟩
  rcases List.mem_cons.1 hx with rfl | hx
  ·exact r3 _ (stepI_has hi)
  ·exact r4 x hx hi
theorem wy_len {n : Nat} {F : List Wy} (h : IW n F) : ∀ (j : Nat) (e : Wy), F[j]? = some e → e.2.2.2.length ≤ j := by
 intro j
 induction j using Nat.strongRecOn with
 | _ j ih =>
  intro e he
  rcases h.up j e he with ⟨_, h2⟩ | ⟨j', e', h1, h2, _, h4⟩
  ·rw [h2]; exact Nat.zero_le _
  ·have := ih j' h1 e' h2
   rw [h4, List.length_append]; simp; omega
theorem goI_sound {g : Cs} {In : List Bool} {a b : Int} (G : Gr g) : ∀ (n i : Nat) (F : List Wy), n + i = nodesG g + 1 → InvI g In a b i F → (∀ w, goI g In b n i F = some w → Way (keepE g In) a w b ∧ w.length < nodesG g) ∧
  (goI g In b n i F = none → ∃ F', InvI g In a b F'.length F' ∧ ∀ y, y ∈ F.map (·.1) → y ∈ F'.map (·.1)) := by
 intro n
 induction n with
 | zero =>
  intro i F hn hI
  have := hI.iw.len
  refine ⟨fun w h => (by cases h), fun _ => ⟨F, ⟨hI.iw, hI.w, fun j e hj he => hI.cl j e (by omega) he⟩, fun _ h => h⟩⟩
 | succ n ih =>
  intro i F hn hI
  cases he : F[i]? with
  | none =>
   rw [goI, he]
   have hl : F.length ≤ i := List.getElem?_eq_none_iff.1 he
   exact ⟨fun w h => (by cases h), fun _ => ⟨F, ⟨hI.iw, hI.w, fun j e hj he => hI.cl j e (by omega) he⟩, fun _ h => h⟩⟩
  | some e =>
   have hm := List.mem_of_getElem? he
   obtain ⟨w1, w2⟩ := hI.w e hm
   rw [goI_at he]
   by_cases hb : e.1 = b
   ·rw [show decide (e.1 = b) = true from decide_eq_true hb]
    refine ⟨fun w h => ?_, fun h => by cases h⟩
    cases h
    refine ⟨hb ▸ w1, ?_⟩
    have h1 := wy_len hI.iw i e he
    have h2 := hI.iw.len
    have h3 := (List.getElem?_eq_some_iff.1 he).1
    omega
   ·rw [show decide (e.1 = b) = false from decide_eq_false hb]
    obtain ⟨r1, r2, r3, r4⟩ := rowI_inv (i := i) w1 w2 (outG g e.1) F he (fun _ h => h) (allG_ok G).1 hI.iw hI.w
    have hI' : InvI g In a b (i + 1) (rowI In e.1 e.2.2.2 F (outG g e.1)) := by
     refine ⟨r1, r2, fun j x hj hx => ?_⟩
     have hlt := (List.getElem?_eq_some_iff.1 he).1
     obtain ⟨X, q⟩ := rowI_pre In e.1 e.2.2.2 (outG g e.1) F
     have hx' : F[j]? = some x := by rw [q, List.getElem?_append_left (by omega)] at hx; exact hx
     rcases Nat.lt_or_ge j i with hji | hji
     ·obtain ⟨c1, c2⟩ := hI.cl j x hji hx'
      exact ⟨c1, fun d hd hdx => r3 _ (c2 d hd hdx)⟩
     ·obtain rfl : j = i := by omega
      rw [he] at hx'; cases hx'
      refine ⟨hb, fun d hd hdx => ?_⟩
      simp only [keepE, List.mem_filter, Bool.and_eq_true] at hd
      have ho := (allG_ok G).1 d hd.1
      exact r4 d (outG_mem.2 ⟨hd.1, hdx⟩) (by rw [← isB_isN ho.2.2.1]; exact hd.2.2)
    obtain ⟨i1, i2⟩ := ih (i + 1) _ (by omega) hI'
    refine ⟨i1, fun h => ?_⟩
    obtain ⟨F', f1, f2⟩ := i2 h
    exact ⟨F', f1, fun y hy => f2 y (r3 y hy)⟩
theorem way_rch {l : List Ed} {a : Int} {w : List Int} {b : Int} (h : Way l a w b) : Rch l (fun x => x = a) b := by
 induction h with
 | nil => exact .base rfl
 | snoc _ hm ih => exact .step ih hm
theorem ins_law {g : Cs} {In : List Bool} {a b : Int} (G : Gr g) (ha : okI g In a = true) (hb : okI g In b = true) : (∀ w, insI g a b In = some w → Way (keepE g In) a w b ∧ w.length < nodesG g) ∧ (insI g a b In = none ↔ ¬ Rch (keepE g In) (fun x => x = a) b) := by
 have h0 : InvI g In a b 0 [(a, -1, -1, [])] := by
  simp only [okI, Bool.and_eq_true, decide_eq_true_eq] at ha
  refine ⟨IW.one ⟨ha.1.1, ha.1.2⟩, fun e he => ?_, fun j e hj => by omega⟩
  rw [List.mem_singleton] at he; subst he
  exact ⟨Way.nil, ha.2⟩
 obtain ⟨h1, h2⟩ := goI_sound G (nodesG g + 1) 0 _ (by omega) h0
 have e : insI g a b In = goI g In b (nodesG g + 1) 0 [(a, -1, -1, [])] := by unfold insI; rw [ha, hb]; rfl
 rw [e]
 refine ⟨h1, fun h hr => ?_, fun h => ?_⟩
 ·obtain ⟨F, f1, f2⟩ := h2 h
  have key : ∀ x, Rch (keepE g In) (fun x => x = a) x → x ∈ F.map (·.1) := by
   intro x hx
   induction hx with
   | base hx => subst hx; exact f2 _ (by simp)
   | @step e _ hm ih =>
    obtain ⟨y, hy, hye⟩ := List.mem_map.1 ih
    obtain ⟨j, hj⟩ := List.getElem?_of_mem hy
    exact (f1.cl j y (List.getElem?_eq_some_iff.1 hj).1 hj).2 e hm hye.symm
  obtain ⟨y, hy, hye⟩ := List.mem_map.1 (key b hr)
  obtain ⟨j, hj⟩ := List.getElem?_of_mem hy
  exact (f1.cl j y (List.getElem?_eq_some_iff.1 hj).1 hj).1 hye
 ·cases hg : goI g In b (nodesG g + 1) 0 [(a, -1, -1, [])] with
  | none => rfl
  | some w =>
   exact absurd (way_rch (h1 w hg).1) h
def atF (n : Nat) (l : List Ed) (a : Int) (w : List Int) : Nat → List Bool
 | 0 => (List.range n).map fun (i : Nat) => decide ((i : Int) = a)
 | k + 1 => (List.range n).map fun (i : Nat) => l.any fun e => (atF n l a w k).getD e.1.toNat false && decide (e.2.1 = w.getD k 0) && decide (e.2.2 = (i : Int))
theorem rangeD {n i : Nat} (f : Nat → Bool) (h : i < n) : ((List.range n).map f).getD i false = f i := by
 rw [List.getD_eq_getElem?_getD, List.getElem?_map, List.getElem?_range h]; rfl
theorem atF_way {n : Nat} {l : List Ed} {a : Int} (hl : EdOk n l) (ha : 0 ≤ a ∧ a < n) : ∀ {w : List Int} {x : Int}, Way l a w x → ∀ r, (0 ≤ x ∧ x < n) ∧ (atF n l a (w ++ r) w.length).getD x.toNat false = true := by
 intro w x h
 induction h with
 | nil =>
  intro r
  refine ⟨ha, ?_⟩
  simp only [List.length_nil, atF]
  rw [rangeD _ (by omega), decide_eq_true_eq]; omega
 | @snoc w e hw hm ih =>
  intro r
  have ho := hl e hm
  refine ⟨⟨ho.2.2.1, ho.2.2.2.1⟩, ?_⟩
  rw [List.length_append, List.length_singleton, atF, rangeD _ (by omega), List.any_eq_true]
  refine ⟨e, hm, ?_⟩
  have := (ih (e.2.1 :: r)).2
  rw [List.append_assoc, List.singleton_append, this]
  simp
  omega
attribute [local irreducible] retQ VCg VCw VCx
def kpB (In : List Bool) (e : Ed) : Bool := isB In e.1 && isB In e.2.2
theorem keepE_eq (g : Cs) (In : List Bool) : keepE g In = (allG g).filter (kpB In) := rfl
theorem filter_snoc {l : List Ed} {q : Ed → Bool} {k : Nat} (h : k < l.length) : (l.take (k + 1)).filter q = (l.take k).filter q ++ (match q (l.getD k (0, 0, 0)) with | true => [l.getD k (0, 0, 0)] | false => []) := by
 rw [List.take_add_one, List.filter_append, List.getElem?_eq_getElem h, List.getD_eq_getElem?_getD, List.getElem?_eq_getElem h]
 simp only [Option.toList_some, Option.getD_some]
 cases hq : q l[k] <;> simp [hq]
theorem fz_eds {gl : Option (Nat × Nat)} {l : List Ed} {H : Heap} (hg : gOk gl l.length) (hm : ∀ b cap, gl = some (b, cap) → (b, HC.cells 62 (cap * 3) (edRs l).flatten) ∈ H) : Fz H (edsD l) (.gs gl l.length) :=
 Fz_gs (e := 62) (by rw [edRs_len]) hg hm (FzR.refl _ _ (edRs_row _))
theorem allG_len {g : Cs} (hg : OkG g) (hR : rightG g = true) : (allG g).length ≤ 1000000 := by
 have gr := rightG_iff.1 hR
 have h1 := gr.upl (n := g.st.length - 1) (Nat.le_refl _)
 have h2 := gr.stn
 have h3 := hg.to
 have : allG g = upG g (g.st.length - 1) := by simp [allG, nodesG, hR]
 rw [this]; omega
theorem keep14_ok (g : Cs) (hg : OkG g) (hR : rightG g = true) (hn : nodesG g ≤ 100000) (In : List Bool) (hI : In.length ≤ 1000000) : Pure Tryz.prog 30 [.agg (csC g), bools In] (.agg (csC (buildF (nodesG g) (keepE g In)))) := by
 have c1 := right14_ok g hg
 rw [hR] at c1
 have c2 := all14_ok g hg
 have c3 := nodes14_ok g hg
 have ho := (allG_ok (rightG_iff.1 hR)).1
 have hl := allG_len hg hR
 have hk : EdOk (nodesG g) (keepE g In) := fun e he => ho e (List.mem_filter.1 he).1
 rw [keepE_eq] at hk ⊢
 refine Fun.of T [.cell 4 32] Tryz.func30 rfl Tryz.ntmps30 Tryz.results30 rfl (by kernel_rfl) ?_
 repeat' first | refine vb (t := 32) rfl rfl rfl rfl ?_ | refine vs T rfl fun K hK => ?_; (try simp (disch := omega) only [go_sem, Nat.reduceBEq, Nat.reduceAdd, Nat.reduceLeDiff, Bool.not_true]); (first | refine hK _ _ ?_; clear hK K | intro bq hbq; (try simp only [HB] at hbq); refine hK _ _ ?_; clear hK K | refine Op1.callp rfl rfl (c1) rfl ?_; refine hK _ _ ?_; clear hK K | refine Op1.callp rfl rfl (c2) rfl ?_; refine hK _ _ ?_; clear hK K) | refine st rfl ?_ | refine sc rfl ?_ | refine nl ?_
 rename Nat => b4
 generalize hL : allG g = L at *
 refine VC.loop {p : Nat × Option (Nat × Nat) // p.1 ≤ L.length} (fun p => ⟨lookD [(1, bools In), (2, .pt (csC g)), (4, pD b4), (5, edsD L), (6, .gs p.1.2 ((L.take p.1.1).filter (kpB In)).length), (7, iD (p.1.1 : Nat))], shp p.1.2 62 3 (edRs ((L.take p.1.1).filter (kpB In))).flatten [(b4, .cells 32 3 [.gs none 0, .gs none 0, .gs none 0])]⟩) (fun p => L.length - p.1.1) ⟨(0, none), Nat.zero_le _⟩ ?_ ?_
 ·refine Weak_subEq rfl ?_
  simp [sub, upd]
 rintro ⟨⟨k, a⟩, hk1⟩
 dsimp only at hk1 ⊢
 rcases Nat.lt_or_ge k L.length with hlt | hge
 ·have hm := ho (L.getD k (0, 0, 0)) (getD_mem hlt)
  have i1 := is14_ok In (L.getD k (0, 0, 0)).1 hm.1
  have i2 := is14_ok In (L.getD k (0, 0, 0)).2.2 hm.2.2.1
  have hf := filter_snoc (q := kpB In) hlt
  have hlen : ((L.take k).filter (kpB In)).length ≤ 1000000 := Nat.le_trans (List.length_filter_le _ _) (by rw [List.length_take]; omega)
  cases e1 : isB In (L.getD k (0, 0, 0)).1 <;> cases e2 : isB In (L.getD k (0, 0, 0)).2.2
  all_goals
   rw [e1] at i1
   rw [e2] at i2
   simp only [kpB, e1, e2, Bool.and_true, Bool.and_false, Bool.and_self, Bool.false_and, List.append_nil] at hf
   repeat' first | refine vs T rfl fun K hK => ?_; (try simp (disch := omega) only [go_sem, Nat.reduceBEq, Nat.reduceAdd, Nat.reduceMul, Nat.reduceLeDiff, ix_eds, edRs_len, edR, w64, Int.toNat_natCast]); (first | refine hK _ _ ?_; clear hK K | refine ⟨_, _, _, _, (by repeat (exact Sp.here)), ?_, (by exact ⟨rfl, rfl⟩), ?_, fun g' hg' => hK _ _ ?_⟩ <;> clear hK K | refine ⟨?_, hK _ _ ?_⟩ <;> clear hK K; focus (try omega) | refine Op1.callp rfl rfl (i1) rfl ?_; refine hK _ _ ?_; clear hK K | refine Op1.callp rfl rfl (i2) rfl ?_; refine hK _ _ ?_; clear hK K) | refine st rfl ?_ | refine sc rfl ?_ | refine nl ?_ | refine gs rfl rfl ?_ | with_reducible refine gsplit_intro (fun hc => ?_) (fun hc => ?_) <;> (try simp only [decide_eq_true_eq, decide_eq_false_iff_not, Int.not_lt] at hc) <;> (try (exfalso; omega))
  iterate 3
   refine ⟨⟨(k + 1, a), by dsimp only; omega⟩, Weak_subEq (by dsimp only; rw [hf]) ?_, by dsimp only; omega⟩
   simp [sub, upd, hf, -List.getD_eq_getElem?_getD]
  ·exact edF_len _
  ·omega
  ·refine ⟨⟨(k + 1, g'), by dsimp only; omega⟩, Weak_subEq ?_ ?_, by dsimp only; omega⟩
   ·dsimp only
    rw [hf, edF_snoc]; rfl
   ·simp [sub, upd, hf, -List.getD_eq_getElem?_getD]
 ·obtain rfl : k = L.length := by omega
  rw [List.take_length]
  have hl2 : (L.filter (kpB In)).length ≤ 1000000 := Nat.le_trans (List.length_filter_le _ _) hl
  generalize hM : L.filter (kpB In) = M at *
  have cb := build14_ok (nodesG g : Nat) M (by omega)
  rw [buildR_ok (by omega) hk] at cb
  refine VC_gok (t := 6) rfl fun hgl => ?_
  repeat' first | refine vs T rfl fun K hK => ?_; (try simp (disch := omega) only [go_sem, Nat.reduceBEq, Nat.reduceAdd, Nat.reduceLeDiff, edRs_len]); (first | refine hK _ _ ?_; clear hK K | refine Op1.callp rfl rfl (c3) rfl ?_; refine hK _ _ ?_; clear hK K | skip) | refine st rfl ?_ | refine sc rfl ?_ | refine nl ?_ | with_reducible refine gsplit_intro (fun hc => ?_) (fun hc => ?_) <;> (try simp only [decide_eq_true_eq, decide_eq_false_iff_not, Int.not_lt] at hc) <;> (try (exfalso; omega))
  refine Op1.callG (Hp := shp a 62 3 (edRs M).flatten []) (Hr := [(b4, .cells 32 3 [.gs none 0, .gs none 0, .gs none 0])]) rfl rfl rfl
   (Fun.lendF cb (fz_cons (Fz.refl _ _) (fz_cons (fz_eds hgl fun b cap e => by subst e; exact mem_shp0) fz_end))) (perm_of fun x => by simp only [cnt_cons, cnt_shp, cnt_app, cnt_nil]; omega) (fun d H' h => ?_)
  obtain ⟨rfl, rfl⟩ := h
  refine hK _ _ ?_
  clear hK K
  simp only [List.nil_append]
  repeat' first | refine vs T rfl fun K hK => ?_; (try simp (disch := omega) only [go_sem, Nat.reduceBEq, Nat.reduceAdd, Nat.reduceLeDiff]); (first | refine hK _ _ ?_; clear hK K | intro bq hbq; (try simp only [HB] at hbq); refine hK _ _ ?_; clear hK K) | refine st rfl ?_ | refine nl ?_
  exact retc T rfl (by (try simp (disch := omega) only [hget_ne, hget_eq]); rfl) rfl rfl rfl (List.nil_sublist _) ⟨rfl, rfl⟩
noncomputable def reachB (l : List Ed) (S : Int → Prop) (n : Nat) : List Bool := by
 classical exact (List.range n).map fun (i : Nat) => decide (Rch l S (i : Int))
theorem reachB_len {l : List Ed} {S : Int → Prop} {n : Nat} : (reachB l S n).length = n := by simp [reachB]
theorem reachB_at {l : List Ed} {S : Int → Prop} {n i : Nat} (h : i < n) : (reachB l S n).getD i false = true ↔ Rch l S (i : Int) := by
 classical
 unfold reachB
 rw [List.getD_eq_getElem?_getD, List.getElem?_map, List.getElem?_range h]
 simp
structure RchI (l : List Ed) (S : Int → Prop) (n : Nat) (o : List Bool) : Prop where
 len : o.length = n
 so : ∀ i, i < n → o.getD i false = true → Rch l S (i : Int)
 base : ∀ x : Int, S x → 0 ≤ x → x < n → o.getD x.toNat false = true
theorem RchI.end_ {l : List Ed} {S : Int → Prop} {n : Nat} {o : List Bool} (h : RchI l S n o) (hl : EdOk n l) (hS : ∀ x, S x → 0 ≤ x ∧ x < n) (hc : ∀ e, e ∈ l → o.getD e.1.toNat false = true → o.getD e.2.2.toNat false = true) : o = reachB l S n := by
 refine ext_getD (d := false) (by rw [h.len, reachB_len]) fun i hi => ?_
 rw [h.len] at hi
 have key : ∀ x, Rch l S x → o.getD x.toNat false = true := by
  intro x hx
  induction hx with
  | base hs => exact h.base _ hs (hS _ hs).1 (hS _ hs).2
  | step _ hm ih => exact hc _ hm ih
 rw [Bool.eq_iff_iff, reachB_at hi]
 exact ⟨h.so i hi, fun hr => by simpa using key _ hr⟩
theorem bset_at {o : List Bool} {i j : Nat} (hi : i < o.length) : (o.set i true).getD j false = (decide (i = j) || o.getD j false) := by
 simp only [List.getD_eq_getElem?_getD, List.getElem?_set]
 by_cases h : i = j
 ·subst h; simp [hi]
 ·simp [h]
theorem RchI.set {l : List Ed} {S : Int → Prop} {n : Nat} {o : List Bool} (h : RchI l S n o) {x : Int} (hx : 0 ≤ x ∧ x < n) (hr : Rch l S x) : RchI l S n (o.set x.toNat true) := by
 have hl : x.toNat < o.length := by rw [h.len]; omega
 refine ⟨by rw [List.length_set]; exact h.len, fun i hi hd => ?_, fun y hy h0 h1 => ?_⟩
 ·rw [bset_at hl, Bool.or_eq_true, decide_eq_true_eq] at hd
  rcases hd with hd | hd
  ·rw [show (i : Int) = x by omega]; exact hr
  ·exact h.so i hi hd
 ·rw [bset_at hl, h.base y hy h0 h1, Bool.or_true]
def cntB (o : List Bool) : Nat := o.countP fun b => !b
theorem cntB_set {o : List Bool} {i : Nat} (h : i < o.length) (hf : o.getD i false = false) : cntB (o.set i true) < cntB o := by
 induction o generalizing i with
 | nil => cases h
 | cons b o ih =>
  cases i with
  | zero =>
   have : b = false := by simpa using hf
   subst this
   simp [cntB]
  | succ i =>
   have := ih (i := i) (by simpa using h) (by simpa using hf)
   simp only [cntB, List.set_cons_succ, List.countP_cons] at this ⊢
   omega
theorem zerosB (n : Nat) : zerosD n [.bool false] = (List.replicate n false).map bD := by
 show (List.replicate n [bD false]).flatten = _
 rw [List.map_replicate]
 induction n with
 | zero => rfl
 | succ n ih => rw [List.replicate_succ, List.flatten_cons, ih, List.replicate_succ]; rfl
abbrev inS (fr : List Int) (n : Nat) : Int → Prop := fun x => x ∈ fr ∧ 0 ≤ x ∧ x < n
theorem take_mem {l : List Int} {k : Nat} (h : k < l.length) {x : Int} : x ∈ l.take (k + 1) ↔ x ∈ l.take k ∨ x = l.getD k 0 := by
 rw [List.take_add_one, List.getElem?_eq_getElem h, List.getD_eq_getElem?_getD, List.getElem?_eq_getElem h]
 rw [List.mem_append]
 simp
theorem reach14_ok (g : Cs) (hg : OkG g) (hR : rightG g = true) (fr : List Int) (hfr : fr.length ≤ 1000000) : Pure Tryz.prog 29 [.agg (csC g), ints fr] (bools (reachB (allG g) (inS fr (nodesG g)) (nodesG g))) := by
 have c1 := right14_ok g hg
 rw [hR] at c1
 have c2 := all14_ok g hg
 have c3 := nodes14_ok g hg
 have ho := (allG_ok (rightG_iff.1 hR)).1
 have hl := allG_len hg hR
 have hn : nodesG g ≤ 1000000 := by have := hg.st; simp only [nodesG, hR]; omega
 refine Fun.freeze (bRs_row _) ?_
 refine Fun.of T [.tmp 4] Tryz.func29 rfl Tryz.ntmps29 Tryz.results29 rfl (by kernel_rfl) ?_
 generalize hL : allG g = L at *
 generalize hN : nodesG g = n at *
 repeat' first | refine vb (t := 32) rfl rfl rfl rfl ?_ | refine vs T rfl fun K hK => ?_; (try simp (disch := omega) only [go_sem, Nat.reduceBEq, Nat.reduceAdd, Nat.reduceLeDiff, Bool.not_true, zerosB, Int.toNat_natCast]); (first | refine hK _ _ ?_; clear hK K | refine ⟨?_, fun bq hbq => ?_⟩; rotate_left; (try simp only [HB] at hbq); refine hK _ _ ?_; all_goals clear hK K | refine Op1.callp rfl rfl (c1) rfl ?_; refine hK _ _ ?_; clear hK K | refine Op1.callp rfl rfl (c3) rfl ?_; refine hK _ _ ?_; clear hK K) | refine st rfl ?_ | refine sc rfl ?_ | refine nl ?_
 case refine_1 => exact ⟨by omega, by omega, by omega⟩
 refine VC.loop {p : Nat × List Bool // p.1 ≤ fr.length ∧ p.2.length = n ∧ ∀ i, i < n → (p.2.getD i false = true ↔ (i : Int) ∈ fr.take p.1)} (fun p => ⟨lookD [(1, ints fr), (2, .pt (csC g)), (5, iD (n : Nat)), (6, .gs (some (bq, n)) n), (7, iD (p.1.1 : Nat))], [(bq, .cells 4 (n * 1) (p.1.2.map bD))]⟩) (fun p => fr.length - p.1.1) ⟨(0, List.replicate n false), by dsimp only; exact ⟨Nat.zero_le _, by simp, fun i hi => by simp [List.getD_eq_getElem?_getD, hi]⟩⟩ ?_ ?_
 ·refine Weak_subEq rfl ?_
  simp [sub, upd]
 rintro ⟨⟨k, o⟩, hk, hol, hoi⟩
 dsimp only at hk hol hoi ⊢
 rcases Nat.lt_or_ge k fr.length with hlt | hge
 ·have tm := fun x => take_mem (x := x) hlt
  by_cases h1 : 0 ≤ fr.getD k 0
  case neg =>
   have e1 : decide (fr.getD k 0 ≥ 0) = false := decide_eq_false (by omega)
   repeat' first | refine vs T rfl fun K hK => ?_; (try simp (disch := omega) only [go_sem, Nat.reduceBEq, ix_ints, iRs_len, w64, Int.toNat_natCast, e1]); (first | refine hK _ _ ?_; clear hK K | refine ⟨?_, hK _ _ ?_⟩ <;> clear hK K; focus (try omega)) | refine st rfl ?_ | refine sc rfl ?_ | refine nl ?_ | refine gs rfl rfl ?_ | with_reducible refine gsplit_intro (fun hc => ?_) (fun hc => ?_) <;> (try simp only [decide_eq_true_eq, decide_eq_false_iff_not, Int.not_lt] at hc) <;> (try (exfalso; omega))
   refine ⟨⟨(k + 1, o), by dsimp only; exact ⟨by omega, hol, fun i hi => by rw [hoi i hi, tm]; exact ⟨.inl, fun h => h.elim id fun h => by omega⟩⟩⟩, Weak_subEq rfl ?_, by dsimp only; omega⟩
   simp [sub, upd]
  have e1 : decide (fr.getD k 0 ≥ 0) = true := decide_eq_true (by omega)
  by_cases h2 : fr.getD k 0 < (n : Nat)
  case neg =>
   have e2 : decide (fr.getD k 0 < (n : Int)) = false := decide_eq_false (by omega)
   repeat' first | refine vs T rfl fun K hK => ?_; (try simp (disch := omega) only [go_sem, Nat.reduceBEq, ix_ints, iRs_len, w64, Int.toNat_natCast, e1, e2]); (first | refine hK _ _ ?_; clear hK K | refine ⟨?_, hK _ _ ?_⟩ <;> clear hK K; focus (try omega)) | refine st rfl ?_ | refine sc rfl ?_ | refine nl ?_ | refine gs rfl rfl ?_ | with_reducible refine gsplit_intro (fun hc => ?_) (fun hc => ?_) <;> (try simp only [decide_eq_true_eq, decide_eq_false_iff_not, Int.not_lt] at hc) <;> (try (exfalso; omega))
   refine ⟨⟨(k + 1, o), by dsimp only; exact ⟨by omega, hol, fun i hi => by rw [hoi i hi, tm]; exact ⟨.inl, fun h => h.elim id fun h => by omega⟩⟩⟩, Weak_subEq rfl ?_, by dsimp only; omega⟩
   simp [sub, upd]
  have e2 : decide (fr.getD k 0 < (n : Int)) = true := decide_eq_true (by omega)
  obtain ⟨x, hx⟩ : ∃ x, x = fr.getD k 0 := ⟨_, rfl⟩
  rw [← hx] at h1 h2 e1 e2 tm
  repeat' first | refine vs T rfl fun K hK => ?_; (try simp (disch := omega) only [go_sem, Nat.reduceBEq, ix_ints, iRs_len, w64, Int.toNat_natCast, ← hx, e1, e2, List.length_map, hol, Nat.mul_one]); (first | refine hK _ _ ?_; clear hK K | refine ⟨?_, hK _ _ ?_⟩ <;> clear hK K; focus (try omega)) | refine st rfl ?_ | refine sc rfl ?_ | refine nl ?_ | refine gs rfl rfl ?_ | with_reducible refine gsplit_intro (fun hc => ?_) (fun hc => ?_) <;> (try simp only [decide_eq_true_eq, decide_eq_false_iff_not, Int.not_lt] at hc) <;> (try (exfalso; omega))
  have hset : ∀ i, i < n → ((o.set x.toNat true).getD i false = true ↔ (i : Int) ∈ fr.take (k + 1)) := fun i hi => by
   rw [bset_at (by rw [hol]; omega), Bool.or_eq_true, decide_eq_true_eq, hoi i hi, tm]
   constructor
   ·rintro (h | h)
    ·exact .inr (by omega)
    ·exact .inl h
   ·rintro (h | h)
    ·exact .inr h
    ·exact .inl (by omega)
  refine ⟨⟨(k + 1, o.set x.toNat true), by dsimp only; exact ⟨by omega, by rw [List.length_set]; exact hol, hset⟩⟩, Weak_subEq (by dsimp only; rw [List.map_set, Nat.mul_one]) ?_, by dsimp only; omega⟩
  simp [sub, upd]
 obtain rfl : k = fr.length := by omega
 rw [List.take_length] at hoi
 have hI : RchI L (inS fr n) n o := ⟨hol, fun i hi hd => .base ⟨(hoi i hi).1 hd, by omega, by omega⟩, fun x hx h0 h1 => (hoi x.toNat (by omega)).2 (by rw [Int.toNat_of_nonneg h0]; exact hx.1)⟩
 clear hoi hol
 repeat' first | refine vs T rfl fun K hK => ?_; (try simp (disch := omega) only [go_sem, Nat.reduceBEq, Nat.reduceAdd, Nat.reduceLeDiff, iRs_len]); (first | refine hK _ _ ?_; clear hK K | refine Op1.callp rfl rfl (c2) rfl ?_; refine hK _ _ ?_; clear hK K) | refine st rfl ?_ | refine sc rfl ?_ | refine nl ?_ | with_reducible refine gsplit_intro (fun hc => ?_) (fun hc => ?_) <;> (try simp only [decide_eq_true_eq, decide_eq_false_iff_not, Int.not_lt] at hc) <;> (try (exfalso; omega))
 refine VC.loop {p : Bool × List Bool // RchI L (inS fr n) n p.2 ∧ (p.1 = false → ∀ e, e ∈ L → p.2.getD e.1.toNat false = true → p.2.getD e.2.2.toNat false = true)} (fun p => ⟨lookD [(6, .gs (some (bq, n)) n), (8, edsD L), (9, bD p.1.1)], [(bq, .cells 4 (n * 1) (p.1.2.map bD))]⟩) (fun p => 2 * cntB p.1.2 + (match p.1.1 with | true => 1 | false => 0)) ⟨(true, o), by dsimp only; exact ⟨hI, fun h => by cases h⟩⟩ ?_ ?_
 ·refine Weak_subEq rfl ?_
  simp [sub, upd]
 clear hI
 rintro ⟨⟨more, o⟩, hI, hcl⟩
 dsimp only at hI hcl ⊢
 cases more with
 | false =>
  rw [← hI.end_ ho (fun x hx => hx.2) (hcl rfl)]
  repeat' first | refine vs T rfl fun K hK => ?_; (try simp (disch := omega) only [go_sem, Nat.reduceBEq]); (refine hK _ _ ?_; clear hK K) | refine st rfl ?_ | refine sc rfl ?_ | refine nl ?_
  exact ret1 T (List.Sublist.refl _) ⟨some (bq, n), 4, by rw [bRs_len, hI.len]; rfl, by rw [bRs_flat]; rfl⟩
 | true =>
 clear hcl
 repeat' first | refine vs T rfl fun K hK => ?_; (try simp (disch := omega) only [go_sem, Nat.reduceBEq]); (refine hK _ _ ?_; clear hK K) | refine st rfl ?_ | refine sc rfl ?_ | refine nl ?_
 refine VC.loop {q : Nat × Bool × List Bool // q.1 ≤ L.length ∧ RchI L (inS fr n) n q.2.2 ∧ (q.2.1 = true → cntB q.2.2 < cntB o) ∧ (q.2.1 = false → q.2.2 = o ∧ ∀ e, e ∈ L.take q.1 → o.getD e.1.toNat false = true → o.getD e.2.2.toNat false = true)} (fun q => ⟨lookD [(6, .gs (some (bq, n)) n), (8, edsD L), (9, bD q.1.2.1), (10, iD (q.1.1 : Nat))], [(bq, .cells 4 (n * 1) (q.1.2.2.map bD))]⟩) (fun q => L.length - q.1.1) ⟨(0, false, o), by dsimp only; exact ⟨Nat.zero_le _, hI, fun h => (by cases h), fun _ => ⟨rfl, fun e he => by simp at he⟩⟩⟩ ?_ ?_
 ·refine Weak_subEq rfl ?_
  simp [sub, upd]
 rintro ⟨⟨k, m, o'⟩, hk, hI', hm1, hm2⟩
 dsimp only at hk hI' hm1 hm2 ⊢
 rcases Nat.lt_or_ge k L.length with hlt | hge
 case inr =>
  obtain rfl : k = L.length := by omega
  rw [List.take_length] at hm2
  repeat' first | refine vs T rfl fun K hK => ?_; (try simp (disch := omega) only [go_sem, Nat.reduceBEq, edRs_len]); (refine hK _ _ ?_; clear hK K) | refine st rfl ?_ | refine sc rfl ?_ | refine nl ?_ | with_reducible refine gsplit_intro (fun hc => ?_) (fun hc => ?_) <;> (try simp only [decide_eq_true_eq, decide_eq_false_iff_not, Int.not_lt] at hc) <;> (try (exfalso; omega))
  refine ⟨⟨(m, o'), by dsimp only; exact ⟨hI', fun h => by obtain ⟨h1, h2⟩ := hm2 h; rw [h1]; exact h2⟩⟩, Weak_subEq rfl ?_, ?_⟩
  ·simp [sub, upd]
  ·cases m with
   | true => have := hm1 rfl; dsimp only; omega
   | false =>
    have h1 : cntB o' = cntB o := by rw [(hm2 rfl).1]
    dsimp only; omega
 have he := ho (L.getD k (0, 0, 0)) (getD_mem hlt)
 have hem : L.getD k (0, 0, 0) ∈ L := getD_mem hlt
 have hol := hI'.len
 have tk : ∀ e, e ∈ L.take (k + 1) ↔ e ∈ L.take k ∨ e = L.getD k (0, 0, 0) := fun e => by
  rw [List.take_add_one, List.getElem?_eq_getElem hlt, List.getD_eq_getElem?_getD, List.getElem?_eq_getElem hlt]
  rw [List.mem_append]
  simp
 obtain ⟨e, hx⟩ : ∃ e, e = L.getD k (0, 0, 0) := ⟨_, rfl⟩
 rw [← hx] at he hem tk
 have r1 := getD_at (l := o') (i := e.1.toNat) (d := false) (by omega)
 have r2 := getD_at (l := o') (i := e.2.2.toNat) (d := false) (by omega)
 cases h1 : o'.getD e.1.toNat false
 case false =>
  rw [h1] at r1
  repeat' first | refine vs T rfl fun K hK => ?_; (try simp (disch := omega) only [go_sem, Nat.reduceBEq, ix_eds, edRs_len, edR, w64, Int.toNat_natCast, ← hx, r1, Option.map_some, Nat.mul_one]); (first | refine hK _ _ ?_; clear hK K | refine ⟨?_, hK _ _ ?_⟩ <;> clear hK K; focus (try omega)) | refine st rfl ?_ | refine sc rfl ?_ | refine nl ?_ | refine gs rfl rfl ?_ | with_reducible refine gsplit_intro (fun hc => ?_) (fun hc => ?_) <;> (try simp only [decide_eq_true_eq, decide_eq_false_iff_not, Int.not_lt] at hc) <;> (try (exfalso; omega))
  have hnew : m = false → ∀ x, x ∈ L.take (k + 1) → o.getD x.1.toNat false = true → o.getD x.2.2.toNat false = true := fun h x hxm hx1 => by
   rcases (tk x).1 hxm with hxm | rfl
   ·exact (hm2 h).2 x hxm hx1
   ·rw [← (hm2 h).1, h1] at hx1; cases hx1
  refine ⟨⟨(k + 1, m, o'), by dsimp only; exact ⟨by omega, hI', hm1, fun h => ⟨(hm2 h).1, hnew h⟩⟩⟩, Weak_subEq (by rw [Nat.mul_one]) ?_, by dsimp only; omega⟩
  simp [sub, upd]
 cases h2 : o'.getD e.2.2.toNat false
 case true =>
  rw [h1] at r1
  rw [h2] at r2
  repeat' first | refine vs T rfl fun K hK => ?_; (try simp (disch := omega) only [go_sem, Nat.reduceBEq, ix_eds, edRs_len, edR, w64, Int.toNat_natCast, ← hx, r1, r2, Option.map_some, Nat.mul_one]); (first | refine hK _ _ ?_; clear hK K | refine ⟨?_, hK _ _ ?_⟩ <;> clear hK K; focus (try omega)) | refine st rfl ?_ | refine sc rfl ?_ | refine nl ?_ | refine gs rfl rfl ?_ | with_reducible refine gsplit_intro (fun hc => ?_) (fun hc => ?_) <;> (try simp only [decide_eq_true_eq, decide_eq_false_iff_not, Int.not_lt] at hc) <;> (try (exfalso; omega))
  have hnew : m = false → ∀ x, x ∈ L.take (k + 1) → o.getD x.1.toNat false = true → o.getD x.2.2.toNat false = true := fun h x hxm hx1 => by
   rcases (tk x).1 hxm with hxm | rfl
   ·exact (hm2 h).2 x hxm hx1
   ·rw [← (hm2 h).1]; exact h2
  refine ⟨⟨(k + 1, m, o'), by dsimp only; exact ⟨by omega, hI', hm1, fun h => ⟨(hm2 h).1, hnew h⟩⟩⟩, Weak_subEq (by rw [Nat.mul_one]) ?_, by dsimp only; omega⟩
  simp [sub, upd]
 rw [h1] at r1
 rw [h2] at r2
 repeat' first | refine vs T rfl fun K hK => ?_; (try simp (disch := omega) only [go_sem, Nat.reduceBEq, ix_eds, edRs_len, edR, w64, Int.toNat_natCast, ← hx, r1, r2, Option.map_some, Nat.mul_one, hol, List.length_map]); (first | refine hK _ _ ?_; clear hK K | refine ⟨?_, hK _ _ ?_⟩ <;> clear hK K; focus (try omega)) | refine st rfl ?_ | refine sc rfl ?_ | refine nl ?_ | refine gs rfl rfl ?_ | with_reducible refine gsplit_intro (fun hc => ?_) (fun hc => ?_) <;> (try simp only [decide_eq_true_eq, decide_eq_false_iff_not, Int.not_lt] at hc) <;> (try (exfalso; omega))
 have hr : Rch L (inS fr n) e.2.2 := .step (by have := hI'.so e.1.toNat (by omega) h1; rwa [Int.toNat_of_nonneg he.1] at this) hem
 have hc : cntB (o'.set e.2.2.toNat true) < cntB o := by
  have h3 := cntB_set (o := o') (i := e.2.2.toNat) (by omega) h2
  cases m with
  | true => have := hm1 rfl; omega
  | false => rw [(hm2 rfl).1] at h3 ⊢; exact h3
 refine ⟨⟨(k + 1, true, o'.set e.2.2.toNat true), by dsimp only; exact ⟨by omega, hI'.set ⟨he.2.2.1, he.2.2.2.1⟩ hr, fun _ => hc, fun h => by cases h⟩⟩, Weak_subEq (by dsimp only; rw [List.map_set, Nat.mul_one]) ?_, by dsimp only; omega⟩
 simp [sub, upd]
end Go.Proofs.YtomcmfbpmkklmaaGreat
