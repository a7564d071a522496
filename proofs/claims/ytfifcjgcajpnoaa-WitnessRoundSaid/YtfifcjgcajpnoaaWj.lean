/- The plain law of queues. No condition. -/
import Derived.Test.YtfifcjgcajpnoaaWd
namespace Go.Proofs.Ytfifcjgcajpnoaa
set_option linter.unusedSimpArgs false
set_option linter.unusedVariables false
set_option maxRecDepth 20000
open Go Go.Proofs Go.Vc
attribute [local irreducible] retQ VCg VCw

theorem fz_end {H : Heap} : FzL H [] [] := rfl
theorem fz_cons {H : Heap} {d' d : D} {ds' ds : List D} (h : Fz H d' d) (hs : FzL H ds' ds) : FzL H (d' :: ds') (d :: ds) := ⟨d, ds, rfl, h, hs⟩
theorem fz_sl {H : Heap} {f : Bool} {esz : Nat} {rows : List (List D)} : Fz H (.sl false esz rows) (.sl f esz rows) := .inr ⟨rfl, .inl ⟨f, rfl⟩⟩
theorem fz_nil {H : Heap} {esz : Nat} : Fz H (.sl false esz []) (.gs none 0) := .inr ⟨rfl, .inr (.inl ⟨rfl, rfl⟩)⟩
theorem fz_first {H : Heap} {d' d : D} {ds : List D} (h : Fz H d' d) : FzL H (d' :: ds) (d :: ds) := fz_cons h (FzL.refl _ _)
theorem fz_second {H : Heap} {d0 d' d : D} {ds : List D} (h : Fz H d' d) : FzL H (d0 :: d' :: ds) (d0 :: d :: ds) := fz_cons (Fz.refl _ _) (fz_first h)
theorem HInv.none {w : World} {L0 : Nat → Prop} (h : HInv w L0 []) : Lets w L0 [] [] (live [] L0) := ⟨h, fun b c hm => (by cases hm), fun b _ hl => hl⟩
theorem Fun.argsW {P : Program} {f : FuncId} {args args' : List D} {d : D} (h : Pure P f args' d) (hf : FzL [] args' args) : Pure P f args d :=
  ⟨h.1, fun w L0 vs hi hr => h.2 w L0 vs hi (RelL.fz (HInv.none hi) _ _ _ hf hr)⟩

/-! ### Bits -/
theorem VCg.stepS {P : Program} (T : Tab P) {ops : Array Oper} {H : Heap} {K : (Nat → D) → List (Tmp × NewI) → Prop} {m : Nat} {E : Nat → D} {news : List (Tmp × NewI)} {o : Oper} {l : List Oper} {d : D} {t : Tmp}
    (hg : o.guard = none) (ht : o.dst = some t) (h1 : OpS P o (evD E) H (fun d' H' => d' = d ∧ H' = H)) (h2 : VCg T ops H K m l (upd E t d) news) : VCg T ops H K (m + 1) (o :: l) E news :=
  by unfold VCg; exact ⟨.det d, ⟨.inl hg, h1⟩, by rw [newsOf_det, List.append_nil, ht]; exact h2⟩
/-! ### The law -/
def okEn (x : En) : Prop := (0 ≤ x.1 ∧ x.1 < 4) ∧ (0 ≤ x.2 ∧ x.2 < 8)
def InvQ (m : Int) (is b : List En) : Prop := b.length = is.length ∧ (∀ x, x ∈ b → okEn x) ∧ (m = 2 ∧ b = is ∨ m = 3 ∧ Srt b ∧ SameQ is b)
theorem InvQ.zero {m : Int} (h : m = 2 ∨ m = 3) : InvQ m [] [] := ⟨rfl, fun x h => (by cases h), h.imp (fun h => ⟨h, rfl⟩) (fun h => ⟨h, trivial, fun _ => rfl⟩)⟩
theorem InvQ.push {m : Int} {is b : List En} {e : En} (h : InvQ m is b) (he : okEn e) : InvQ m (is ++ [e]) (pushF m e b) := by
  obtain ⟨h1, h2, h3⟩ := h
  rcases h3 with ⟨rfl, rfl⟩ | ⟨rfl, h4, h5⟩
  · have hp : pushF 2 e b = b ++ [e] := rfl
    rw [hp]
    refine ⟨rfl, fun x hx => ?_, .inl ⟨rfl, rfl⟩⟩
    rcases List.mem_append.1 hx with hx | hx
    · exact h2 x hx
    · rw [List.mem_singleton] at hx; subst hx; exact he
  · have hp : pushF 3 e b = insF e b := rfl
    rw [hp]
    refine ⟨by rw [insF_len, List.length_append, h1]; rfl, fun x hx => ?_, .inr ⟨rfl, insF_srt e b h4, fun loc => ?_⟩⟩
    · rcases (insF_mem e b x).1 hx with rfl | hx
      · exact he
      · exact h2 x hx
    · rw [insF_que e loc b h4, que_append, h5 loc]
theorem Srt.le {b : List En} (h : Srt b) : ∀ (i : Nat) (x y : En), b[i]? = some x → b[i + 1]? = some y → x.1 ≤ y.1 := by
  induction b with
  | nil => intro i x y hx; simp at hx
  | cons a r ih =>
    intro i x y hx hy
    cases i with
    | zero =>
      obtain rfl : a = x := by simpa using hx
      exact h.1 y (List.mem_of_getElem? (by simpa using hy))
    | succ i => exact ih h.2 i x y (by simpa using hx) (by simpa using hy)
def Inv2 (m : Int) (is b : List En) : Prop := b.length = is.length ∧ (m = 2 ∧ b = is ∨ m = 3 ∧ SameQ is b)
theorem heads_mem {m : Int} {b : List En} {l : Int} (h : l ∈ headsF m b) : ∃ i x, b[i]? = some x ∧ x.1 = l ∧ selF m b i = true := by
  obtain ⟨i, hi, hl⟩ := List.mem_map.1 h
  obtain ⟨h1, h2⟩ := List.mem_filter.1 hi
  obtain ⟨x, hx⟩ : ∃ x, b[i]? = some x := ⟨_, List.getElem?_eq_getElem (List.mem_range.1 h1)⟩
  exact ⟨i, x, hx, by rw [← hl, hx]; rfl, h2⟩
theorem heads_two {x : En} {r : List En} : headsF 2 (x :: r) = [x.1] := by
  unfold headsF headsK
  have : ∀ n, (List.range (n + 1)).filter (selF 2 (x :: r)) = [0] := by
    intro n
    induction n with
    | zero => simp [selF]
    | succ n ih =>
      rw [List.range_succ, List.filter_append, ih]
      simp [selF]
  rw [List.length_cons, this]
  rfl
/-- One step: the location that is taken, where it stands, and what is left. -/
theorem Inv2.step {m : Int} {is b : List En} (h : Inv2 m is b) (hne : is ≠ []) :
    ∃ l j k x, (headsF m b)[(headsF m b).length - 1]? = some l ∧ 0 < (headsF m b).length ∧ (m = 2 → (headsF m b)[0]? = (is[0]?).map (·.1)) ∧ nextF m l b = some j ∧ fstI l is = some k ∧ b[j]? = some x ∧ is[k]? = some x ∧ Inv2 m (cutF k is) (cutF j b) := by
  obtain ⟨h1, h2⟩ := h
  have lens : ∀ (k j : Nat) , k < is.length → j < b.length → (cutF j b).length = (cutF k is).length := fun k j hk hj => by simp [cutF]; omega
  rcases h2 with ⟨rfl, rfl⟩ | ⟨rfl, hq⟩
  · rcases b with _ | ⟨x, r⟩
    · exact absurd rfl hne
    · have hn : nextF 2 x.1 (x :: r) = some 0 := by simp [nextF]
      have hf : fstI x.1 (x :: r) = some 0 := by simp [fstI]
      exact ⟨x.1, 0, 0, x, by rw [heads_two]; rfl, by rw [heads_two]; exact Nat.one_pos, fun _ => by rw [heads_two]; rfl, hn, hf, rfl, rfl, rfl, .inl ⟨rfl, rfl⟩⟩
  · rcases b with _ | ⟨y, r⟩
    · exact absurd (List.eq_nil_of_length_eq_zero h1.symm) hne
    · have h0 : selF 3 (y :: r) 0 = true := by simp [selF, fstI]
      have hmem : y.1 ∈ headsF 3 (y :: r) := List.mem_map.2 ⟨0, List.mem_filter.2 ⟨List.mem_range.2 (by simp), h0⟩, rfl⟩
      have hpos : 0 < (headsF 3 (y :: r)).length := List.length_pos_of_mem hmem
      obtain ⟨l, hl⟩ : ∃ l, (headsF 3 (y :: r))[(headsF 3 (y :: r)).length - 1]? = some l := ⟨_, List.getElem?_eq_getElem (by omega)⟩
      obtain ⟨i, x, hx, hxl, hs⟩ := heads_mem (List.mem_of_getElem? hl)
      have hfi : fstI l (y :: r) = some i := by
        simp only [selF, hx, Option.getD_some, hxl] at hs
        simpa using hs
      have hk : ∃ k, fstI l is = some k := by
        cases hc : fstI l is with
        | some k => exact ⟨k, rfl⟩
        | none =>
          have := hq l
          rw [fstI_none hc] at this
          obtain ⟨z, p, q, e, _, hz, _⟩ := fstI_some hfi
          rw [e, que_append] at this
          have hzq : que l (z :: q) = z :: que l q := by rw [que, List.filter_cons]; simp [hz, que]
          rw [hzq] at this
          simp at this
      obtain ⟨k, hk⟩ := hk
      obtain ⟨e1, e2⟩ := SameQ.cut hq hk hfi
      exact ⟨l, i, k, x, hl, hpos, fun h => absurd h (by decide), by simp [nextF, hfi], hk, hx, by rw [e1, hx], lens _ _ (fstI_lt hk) (fstI_lt hfi), .inr ⟨rfl, e2⟩⟩
theorem Weak.trans {s s' s'' : St} (h : Weak s s') (h' : Weak s' s'') : Weak s s'' := fun x a w hs => h' x a w (h x a w hs)
theorem Fz_shp {g : Option (Nat × Nat)} {e : TypeId} {esz n : Nat} {rows : List (List D)} (hg : gOk g n) (hn : rows.length = n) (hr : ∀ r, r ∈ rows → r.length = esz) : Fz (shp g e esz rows.flatten []) (.sl false esz rows) (.gs g n) := by
  subst hn
  cases g with
  | none =>
    have h0 : rows = [] := List.eq_nil_of_length_eq_zero hg
    subst h0
    exact .inr ⟨rfl, .inr (.inl ⟨rfl, rfl⟩)⟩
  | some p =>
    obtain ⟨b, cap⟩ := p
    exact .inr ⟨rfl, .inr (.inr ⟨b, 0, rows.length, cap, .inl ⟨rfl, rfl⟩, rfl, e, _, _, List.mem_cons_self .., FzR.refl _ _ hr⟩)⟩
end Go.Proofs.Ytfifcjgcajpnoaa
