/- Contracts: store, more. No condition. -/
import Derived.Test.YtfifcjgcajpnoaaWc
namespace Go.Proofs.Ytfifcjgcajpnoaa
set_option linter.unusedSimpArgs false
set_option linter.unusedVariables false
set_option maxRecDepth 20000
open Go Go.Proofs Go.Vc
attribute [local irreducible] retQ VCg VCw

def cutF (k : Nat) (b : List En) : List En := b.take k ++ b.drop (k + 1)
theorem cut_ok (b : List En) (hb : b.length ≤ 1000000) (k : Nat) (hk : k < b.length) : Pure Try.prog 114 [buf b, iD (k : Nat)] (buf (cutF k b)) := by
  refine Fun.fz ?_
  have hw2 : IntKind.i64.wrap ((k : Int) + 1) = ((k + 1 : Nat) : Int) := by rw [w64 (by omega)]; omega
  have hl : (b.take k).length = k := by rw [List.length_take]; omega
  have hl2 : (b.drop (k + 1)).length = b.length - (k + 1) := List.length_drop
  refine Fun.of T [.tmp 4] Try.func114 rfl Try.ntmps114 Try.results114 rfl (by kernel_rfl) ?_
  have hkb : Nat.beq k k = true := Nat.beq_refl k
  repeat' first | refine dr (id := 1) T 8 (by kernel_rfl) ?_ | refine gn ?_ | apply VCg.step T rfl rfl; focus ((try simp (disch := omega) only [go_sem, Nat.reduceBEq, eRs_len, hw2, eRs_tk, eRs_dr, hkb]); (first | exact rfl | refine ⟨?_, rfl⟩; try omega)) | refine vs T rfl fun K hK => ?_; (try simp (disch := omega) only [go_sem, Nat.reduceBEq, eRs_len]); (first | refine hK _ _ ?_; clear hK K | skip) | refine st rfl ?_ | refine nl ?_
  refine ⟨_, _, ⟨rfl, rfl⟩, by rw [hl, hl2]; omega, fun h0 => hK _ _ ?_, fun h0 b' cap' hb' hcap => hK _ _ ?_⟩ <;> clear hK K
  · repeat' first | refine vs T rfl fun K hK => ?_; (try simp (disch := omega) only [go_sem, Nat.reduceBEq]); (refine hK _ _ ?_; clear hK K) | refine st rfl ?_ | refine nl ?_
    refine ret1 T (List.Sublist.refl _) (.inr ⟨rfl, .inl ⟨true, ?_⟩⟩)
    have : b.drop (k + 1) = [] := List.eq_nil_of_length_eq_zero h0
    rw [cutF, this, List.append_nil]
    rfl
  · repeat' first | refine vs T rfl fun K hK => ?_; (try simp (disch := omega) only [go_sem, Nat.reduceBEq]); (refine hK _ _ ?_; clear hK K) | refine st rfl ?_ | refine nl ?_
    have hrows : (eRs (b.take k)).flatten ++ (eRs (b.drop (k + 1))).flatten = (eRs (cutF k b)).flatten := by rw [cutF, eRs_append, List.flatten_append]
    rw [hrows]
    refine ret1 T (List.Sublist.refl _) (.inr ⟨rfl, .inr (.inr ⟨b', 0, _, cap', .inl ⟨rfl, rfl⟩, ?_, _, _, _, List.mem_cons_self .., FzR.refl _ _ (eRs_row _)⟩)⟩)
    rw [eRs_len, cutF, List.length_append]

def nextI (m loc : Int) (b : List En) : Int := idxI (nextF m loc b)
theorem next_ok (b : List En) (hb : b.length ≤ 1000000) (m loc : Int) : Pure Try.prog 113 [buf b, iD m, iD loc] (iD (nextI m loc b)) := by
  refine Fun.of T [.tmp 6] Try.func113 rfl Try.ntmps113 Try.results113 rfl (by kernel_rfl) ?_
  by_cases h3 : m = 3
  · subst h3
    have hp : nextI 3 loc b = idxI (fstI loc b) := rfl
    rw [hp]
    repeat' first | refine vs T rfl fun K hK => ?_; (try simp (disch := omega) only [go_sem, Nat.reduceBEq, Nat.reduceAdd, beq_self_eq_true]); (first | refine hK _ _ ?_; clear hK K | refine Op1.callp rfl rfl (first_ok b hb _) rfl ?_; refine hK _ _ ?_; clear hK K) | refine st rfl ?_ | refine sc rfl ?_ | refine nl ?_ | exact ret1 T (List.nil_sublist _) ⟨rfl, rfl⟩
  · have e3 : (m == 3) = false := by simpa using h3
    by_cases h2 : m = 2
    · subst h2
      rcases Nat.eq_zero_or_pos b.length with hz | hpos
      · have hb0 : b = [] := List.eq_nil_of_length_eq_zero hz
        have hp : nextI 2 loc b = -1 := by subst hb0; simp [nextI, nextF, idxI]
        have hd : decide ((b.length : Int) > 0) = false := by rw [hz]; rfl
        rw [hp]
        repeat' first | refine vs T rfl fun K hK => ?_; (try simp (disch := omega) only [go_sem, Nat.reduceBEq, Nat.reduceAdd, e3, beq_self_eq_true, hd, eRs_len]); (refine hK _ _ ?_; clear hK K) | refine st rfl ?_ | refine sc rfl ?_ | refine nl ?_ | refine gs rfl rfl ?_ | refine gu rfl rfl ?_ | exact ret1 T (List.nil_sublist _) ⟨rfl, rfl⟩
      · obtain ⟨x, hx0⟩ : ∃ x, b[0]? = some x := ⟨_, List.getElem?_eq_getElem hpos⟩
        have hne : b ≠ [] := fun h => by rw [h] at hpos; simp at hpos
        have hh : b.head? = some x := by rw [List.head?_eq_getElem?]; exact hx0
        have hd : decide ((b.length : Int) > 0) = true := by simp; omega
        have hrow : (eRs b)[0]? = some [iD x.1, iD x.2] := by rw [eRs_at, hx0]; rfl
        by_cases h0 : loc < 0
        · have h0' : decide (loc < 0) = true := by simpa using h0
          have hp : nextI 2 loc b = 0 := by simp [nextI, nextF, h0, idxI, hne]
          rw [hp]
          repeat' first | refine vs T rfl fun K hK => ?_; (try simp (disch := omega) only [go_sem, Nat.reduceBEq, Nat.reduceAdd, e3, beq_self_eq_true, hd, h0', eRs_len]); (refine hK _ _ ?_; clear hK K) | refine st rfl ?_ | refine sc rfl ?_ | refine nl ?_ | refine gs rfl rfl ?_ | exact ret1 T (List.nil_sublist _) ⟨rfl, rfl⟩
        · have h0' : decide (loc < 0) = false := by simpa using h0
          by_cases hx : x.1 = loc
          · have hx' : (x.1 == loc) = true := by simpa using hx
            have hp : nextI 2 loc b = 0 := by simp [nextI, nextF, hh, hx, idxI, hne]
            rw [hp]
            repeat' first | refine vs T rfl fun K hK => ?_; (try simp (disch := omega) only [go_sem, Nat.reduceBEq, Nat.reduceAdd, Int.reduceToNat, e3, beq_self_eq_true, hd, h0', hx', hrow, eRs_len]); (first | refine hK _ _ ?_; clear hK K | refine ⟨?_, hK _ _ ?_⟩ <;> clear hK K; focus (try omega)) | refine st rfl ?_ | refine sc rfl ?_ | refine nl ?_ | refine gs rfl rfl ?_ | exact ret1 T (List.nil_sublist _) ⟨rfl, rfl⟩
          · have hx' : (x.1 == loc) = false := by simpa using hx
            have hp : nextI 2 loc b = -1 := by simp [nextI, nextF, h0, hh, hx, idxI]
            rw [hp]
            repeat' first | refine vs T rfl fun K hK => ?_; (try simp (disch := omega) only [go_sem, Nat.reduceBEq, Nat.reduceAdd, Int.reduceToNat, e3, beq_self_eq_true, hd, h0', hx', hrow, eRs_len]); (first | refine hK _ _ ?_; clear hK K | refine ⟨?_, hK _ _ ?_⟩ <;> clear hK K; focus (try omega)) | refine st rfl ?_ | refine sc rfl ?_ | refine nl ?_ | refine gs rfl rfl ?_ | exact ret1 T (List.nil_sublist _) ⟨rfl, rfl⟩
    · have e2 : (m == 2) = false := by simpa using h2
      have hp : nextI m loc b = -1 := by simp [nextI, nextF, h2, h3, idxI]
      rw [hp]
      repeat' first | refine vs T rfl fun K hK => ?_; (try simp (disch := omega) only [go_sem, Nat.reduceBEq, Nat.reduceAdd, e3, e2]); (refine hK _ _ ?_; clear hK K) | refine st rfl ?_ | refine sc rfl ?_ | refine nl ?_ | refine gs rfl rfl ?_ | refine gu rfl rfl ?_ | exact ret1 T (List.nil_sublist _) ⟨rfl, rfl⟩

theorem nextF_lt {m loc : Int} {b : List En} {k : Nat} (h : nextF m loc b = some k) : k < b.length := by
  unfold nextF at h
  split at h
  · exact fstI_lt h
  · split at h
    · rename_i hc
      obtain rfl := Option.some.inj h
      have := hc.2.1
      rcases b with _ | ⟨x, r⟩
      · exact absurd rfl this
      · simp
    · cases h
def popF (m loc : Int) (b : List En) : List En × En × Bool := match nextF m loc b with
  | none => (b, (0, 0), false)
  | some k => (cutF k b, (b[k]?).getD (0, 0), true)
def popD (p : List En × En × Bool) : D := .tup [buf p.1, .agg [iD p.2.1.1, iD p.2.1.2], bD p.2.2]

theorem ret_tct {P : Program} (T : Tab P) {E : Nat → D} {H : Heap} {u a v : Tmp} {ty : TypeId} {Φ : D → Heap → Prop} {H' : Heap} {b n : Nat} {ty' : TypeId} {l : List D} (ha : E a = .is (.pointer (some ⟨b, 0, none⟩))) (hb : hget H b = some (.cells ty' n l))
    (hk : (T.get ty).known = true) (hz : (T.get ty).size = l.length) (hag : (T.get ty).agg = true) (hs : H'.Sublist H) (h : Φ (.tup [E u, .agg l, E v]) H') : retQ T [.tmp u, .cell a ty, .tmp v] Φ .ret ⟨E, H⟩ :=
  by unfold retQ; exact ⟨[E u, .agg l, E v], H', ⟨_, rfl, b, ty', n, l, _, ha, hget_mem hb, hk, hz, by rw [hag], _, rfl, rfl⟩, hs, h⟩

theorem pop_ok (b : List En) (hb : b.length ≤ 1000000) (m loc : Int) : Pure Try.prog 112 [buf b, iD m, iD loc] (popD (popF m loc b)) := by
  have c0 := next_ok b hb m loc
  unfold nextI at c0
  refine Fun.of T [.tmp 6, .cell 7 70, .tmp 8] Try.func112 rfl Try.ntmps112 Try.results112 rfl (by kernel_rfl) ?_
  cases hn : nextF m loc b with
  | none =>
    have hp : popF m loc b = (b, (0, 0), false) := by simp [popF, hn]
    rw [hn] at c0
    rw [hp]
    repeat' first | refine vs T rfl fun K hK => ?_; (try simp (disch := omega) only [go_sem, Nat.reduceBEq, Nat.reduceAdd, Nat.reduceLeDiff, idxI, beq_self_eq_true]); (first | refine hK _ _ ?_; clear hK K | intro bq hbq; (try simp only [HB] at hbq); refine hK _ _ ?_; clear hK K | refine Op1.callp rfl rfl (c0) rfl ?_; refine hK _ _ ?_; clear hK K | refine Op1.callp rfl rfl (own_ok b hb) rfl ?_; refine hK _ _ ?_; clear hK K) | refine st rfl ?_ | refine sc rfl ?_ | refine nl ?_
    exact ret_tct T rfl (hget_eq) rfl rfl rfl (List.nil_sublist _) ⟨rfl, rfl⟩
  | some k =>
    have hk := nextF_lt hn
    obtain ⟨x, hx⟩ : ∃ x, b[k]? = some x := ⟨_, List.getElem?_eq_getElem hk⟩
    have hp : popF m loc b = (cutF k b, x, true) := by simp [popF, hn, hx]
    have hrow : (eRs b)[k]? = some [iD x.1, iD x.2] := by rw [eRs_at, hx]; rfl
    have hne : ((k : Int) == -1) = false := by rw [beq_eq_false_iff_ne]; omega
    rw [hn] at c0
    rw [hp]
    repeat' first | refine dr (id := 4) T 9 (by kernel_rfl) ?_ | refine gn ?_ | apply VCg.step T rfl rfl; focus ((try simp (disch := omega) only [go_sem, Nat.reduceBEq, Nat.reduceAdd, Nat.reduceLeDiff, hrow, eRs_len]); (first | exact rfl | refine ⟨?_, rfl⟩; try omega | refine Op1.callp rfl rfl (own_ok b hb) rfl ?_; exact ⟨rfl, rfl⟩ | refine Op1.callp rfl rfl (cut_ok b hb k hk) rfl ?_; exact ⟨rfl, rfl⟩)) | refine vs T rfl fun K hK => ?_; (try simp (disch := omega) only [go_sem, Nat.reduceBEq, Nat.reduceAdd, Nat.reduceLeDiff, idxI, hne]); (first | refine hK _ _ ?_; clear hK K | intro bq hbq; (try simp only [HB] at hbq); refine hK _ _ ?_; clear hK K | refine Op1.callp rfl rfl (c0) rfl ?_; refine hK _ _ ?_; clear hK K) | refine st rfl ?_ | refine sc rfl ?_ | refine nl ?_
    exact ret_tct T rfl (hget_eq) rfl rfl rfl (List.nil_sublist _) ⟨rfl, rfl⟩

theorem lastF_at {loc : Int} : ∀ {b : List En} {k : Nat} {x : En}, b[k]? = some x → x.1 = loc → (∀ (i : Nat) (y : En), k < i → b[i]? = some y → y.1 ≠ loc) → lastF loc b = some x.2
  | x0 :: r, 0, x, h, hx, hno => by
    obtain rfl : x0 = x := by simpa using h
    have : lastF loc r = none := lastF_no fun i y hy => hno (i + 1) y (by omega) (by simpa using hy)
    simp [lastF, this, hx]
  | x0 :: r, k + 1, x, h, hx, hno => by
    have := lastF_at (b := r) (k := k) (by simpa using h) hx fun i y hi hy => hno (i + 1) y (by omega) (by simpa using hy)
    simp [lastF, this]
where
  lastF_no {loc : Int} : ∀ {b : List En}, (∀ (i : Nat) (y : En), b[i]? = some y → y.1 ≠ loc) → lastF loc b = none
  | [], _ => rfl
  | x0 :: r, hno => by
    have h0 : x0.1 ≠ loc := hno 0 x0 rfl
    have := lastF_no (b := r) fun i y hy => hno (i + 1) y (by simpa using hy)
    simp [lastF, h0, this]

def lastD (o : Option Int) : D := .tup [iD (o.getD 0), bD o.isSome]
theorem last_ok (b : List En) (hb : b.length ≤ 1000000) (loc : Int) : Pure Try.prog 102 [buf b, iD loc] (lastD (lastF loc b)) := by
  have hw0 : IntKind.i64.wrap ((b.length : Int) - 1) = (b.length : Int) - 1 := by rw [w64 (by omega)]
  refine Fun.of T [.tmp 4, .tmp 5] Try.func102 rfl Try.ntmps102 Try.results102 rfl (by kernel_rfl) ?_
  repeat' first | refine vs T rfl fun K hK => ?_; (try simp (disch := omega) only [go_sem, Nat.reduceBEq, eRs_len, hw0]); (refine hK _ _ ?_; clear hK K) | refine st rfl ?_ | refine nl ?_
  refine VC.loop {k : Nat // k ≤ b.length ∧ ∀ (i : Nat) (y : En), k ≤ i → b[i]? = some y → y.1 ≠ loc} (fun p => ⟨lookD [(0, buf b), (1, iD loc), (6, iD ((p.1 : Nat) - 1 : Int))], []⟩) (fun p => p.1) ⟨b.length, by omega, fun i y hi hy => by have := (List.getElem?_eq_some_iff.1 hy).1; omega⟩ ?_ ?_
  · refine Weak.sub ?_
    simp [sub, upd]
  · rintro ⟨k, hk, hno⟩
    dsimp only
    rcases k with _ | k
    · have hd : decide (((0 : Nat) : Int) - 1 ≥ 0) = false := by decide
      have hf : lastF loc b = none := lastF_at.lastF_no fun i y hy => hno i y (by omega) hy
      rw [hf]
      repeat' first | refine vs T rfl fun K hK => ?_; (try simp (disch := omega) only [go_sem, Nat.reduceBEq, hd]); (refine hK _ _ ?_; clear hK K) | refine st rfl ?_ | refine sc rfl ?_ | refine nl ?_ | exact ret2 T (List.nil_sublist _) ⟨rfl, rfl⟩
    · have hd : decide (((k + 1 : Nat) : Int) - 1 ≥ 0) = true := by rw [decide_eq_true_eq]; omega
      have hi : ((k + 1 : Nat) : Int) - 1 = (k : Int) := by omega
      have hw : IntKind.i64.wrap ((k : Int) - 1) = (k : Int) - 1 := by rw [w64 (by omega)]
      obtain ⟨x, hx⟩ : ∃ x, b[k]? = some x := ⟨_, List.getElem?_eq_getElem (by omega)⟩
      have hrow : (eRs b)[k]? = some [iD x.1, iD x.2] := by rw [eRs_at, hx]; rfl
      rw [hi] at hd ⊢
      by_cases he : x.1 = loc
      · have he' : (x.1 == loc) = true := by simpa using he
        have hf := lastF_at hx he fun i y h1 h2 => hno i y (by omega) h2
        rw [hf]
        repeat' first | refine vs T rfl fun K hK => ?_; (try simp (disch := omega) only [go_sem, Nat.reduceBEq, hd, hrow, he', eRs_len]); (first | refine hK _ _ ?_; clear hK K | refine ⟨?_, hK _ _ ?_⟩ <;> clear hK K; focus (try omega)) | refine st rfl ?_ | refine sc rfl ?_ | refine nl ?_ | exact ret2 T (List.nil_sublist _) ⟨rfl, rfl⟩
      · have he' : (x.1 == loc) = false := by simpa using he
        repeat' first | refine vs T rfl fun K hK => ?_; (try simp (disch := omega) only [go_sem, Nat.reduceBEq, hd, hw, hrow, he', eRs_len]); (first | refine hK _ _ ?_; clear hK K | refine ⟨?_, hK _ _ ?_⟩ <;> clear hK K; focus (try omega)) | refine st rfl ?_ | refine sc rfl ?_ | refine nl ?_
        refine ⟨⟨k, by omega, fun i y h1 h2 => ?_⟩, Weak.sub ?_, by simp only []; omega⟩
        · rcases Nat.eq_or_lt_of_le h1 with rfl | h'
          · rw [hx] at h2; cases h2; exact he
          · exact hno i y (by omega) h2
        · simp [sub, upd]
end Go.Proofs.Ytfifcjgcajpnoaa
/- Contracts: store, and its reference. No condition. -/
namespace Go.Proofs.Ytfifcjgcajpnoaa
set_option linter.unusedSimpArgs false
set_option linter.unusedVariables false
set_option maxRecDepth 20000
open Go Go.Proofs Go.Vc
attribute [local irreducible] retQ VCg VCw

theorem iRs_len (l : List Int) : (iRs l).length = l.length := List.length_map ..
theorem iRs_at (l : List Int) (i : Nat) : (iRs l)[i]? = (l[i]?).map fun n => [iD n] := List.getElem?_map ..
theorem iRs_row (l : List Int) : ∀ r, r ∈ iRs l → r.length = 1 := by
  intro r h
  obtain ⟨x, _, rfl⟩ := List.mem_map.1 h
  rfl
theorem iRs_flat (l : List Int) : (iRs l).flatten = l.map iD := by
  induction l with
  | nil => rfl
  | cons n l ih => rw [iRs, List.map_cons, List.flatten_cons]; rw [iRs] at ih; rw [ih]; rfl

end Go.Proofs.Ytfifcjgcajpnoaa
/- Contracts: whether a buffer can be. No condition. -/
namespace Go.Proofs.Ytfifcjgcajpnoaa
set_option linter.unusedSimpArgs false
set_option linter.unusedVariables false
set_option maxRecDepth 20000
open Go Go.Proofs Go.Vc
attribute [local irreducible] retQ VCg VCw

def badE (md lc : Int) (x : En) : Bool := decide (x.1 < 0) || decide (x.1 ≥ lc) || decide (x.2 < 0) || decide (x.2 ≥ md)
def badP (m r : Int) (b : List En) (i : Nat) (x : En) : Bool := decide (m = 3) && ((decide (i > 0) && decide (((b[i - 1]?).getD (0, 0)).1 > x.1)) || decide (((cntF x.1 b : Nat) : Int) > r))
def badAt (m r md lc : Int) (b : List En) (i : Nat) : Bool := badE md lc ((b[i]?).getD (0, 0)) || badP m r b i ((b[i]?).getD (0, 0))
end Go.Proofs.Ytfifcjgcajpnoaa
