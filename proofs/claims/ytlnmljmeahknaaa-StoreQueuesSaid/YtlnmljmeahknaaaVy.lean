/- The arguments of a statement, whatever their types: opened, and read again behind the call. No condition. -/
import Derived.Test.YtlnmljmeahknaaaVh
import Derived.Carry
import Derived.Deep.Slices
import Derived.WideShapes
import Derived.ChangeArms
import Derived.OpenShut
namespace Go.Vc
set_option linter.unusedSimpArgs false
set_option linter.unusedVariables false
open Go

/-- Plain types, each of one cell. -/
inductive Ty where
  | int (k : IntKind)
  | bool
  | str
  | sl (el : List Ty)

mutual
/-- What a value of such a type is. -/
def Sh : Ty → D → Prop
  | .int k, d => ∃ n, d = .is (.int k n) ∧ (Lit.int k n).wf = true
  | .bool, d => ∃ b, d = .is (.bool b)
  | .str, d => ∃ s : ByteArray, d = .is (.string s) ∧ s.size ≤ maxLen
  | .sl el, d => ∃ rows : List (List D), d = .sl false el.length rows ∧ rows.length ≤ maxLen ∧ ∀ r, r ∈ rows → ShL el r
termination_by structural t => t
def ShL : List Ty → List D → Prop
  | [], l => l = []
  | t :: ts, l => ∃ d ds, l = d :: ds ∧ Sh t d ∧ ShL ts ds
end

theorem ShL.length : ∀ {ts : List Ty} {l : List D}, ShL ts l → l.length = ts.length
  | [], l, h => by rw [ShL] at h; subst h; rfl
  | t :: ts, l, h => by
    obtain ⟨d, ds, rfl, _, h2⟩ := h
    rw [List.length_cons, List.length_cons, h2.length]
theorem Sh.one : ∀ {t : Ty} {d : D}, Sh t d → oneD d = true
  | .int k, d, h => by obtain ⟨n, rfl, _⟩ := h; rfl
  | .bool, d, h => by obtain ⟨n, rfl⟩ := h; rfl
  | .str, d, h => by obtain ⟨n, rfl, _⟩ := h; rfl
  | .sl el, d, h => by obtain ⟨n, rfl, _⟩ := h; rfl
theorem ShL.one : ∀ {ts : List Ty} {l : List D}, ShL ts l → l.all oneD = true
  | [], l, h => by rw [ShL] at h; subst h; rfl
  | t :: ts, l, h => by
    obtain ⟨d, ds, rfl, h1, h2⟩ := h
    rw [List.all_cons, h1.one, h2.one]; rfl
theorem ShL.append : ∀ {ts us : List Ty} {l m : List D}, ShL ts l → ShL us m → ShL (ts ++ us) (l ++ m)
  | [], us, l, m, h, h' => by rw [ShL] at h; subst h; exact h'
  | t :: ts, us, l, m, h, h' => by
    obtain ⟨d, ds, rfl, h1, h2⟩ := h
    exact ⟨d, ds ++ m, rfl, h1, h2.append h'⟩

/-- The cells of a struct's fields, laid one behind the other. -/
def tyFs (P : Program) (c : TypeId → Option (List Ty)) : List Field → Nat → Option (List Ty)
  | [], _ => some []
  | f :: fs, off => match Nat.beq f.offset off, c f.type with
    | true, some l => match Nat.beq l.length (P.cellsOf f.type), tyFs P c fs (off + l.length) with
      | true, some r => some (l ++ r)
      | _, _ => none
    | _, _ => none
def tyC (P : Program) : Nat → TypeId → Option (List Ty)
  | 0, _ => none
  | f + 1, t => match P.underlying t with
    | some .bool => some [.bool]
    | some (.int k) => some [.int k]
    | some .string => some [.str]
    | some (.slice e) => match tyC P f e with
      | some l => match Nat.beq l.length (P.cellsOf e), Nat.blt 0 l.length with
        | true, true => some [.sl l]
        | _, _ => none
      | none => none
    | some (.struct fs) => match tyFs P (tyC P f) fs.toList 0 with
      | some l => match Nat.beq l.length (P.cellsOf t) with
        | true => some l
        | false => none
      | none => none
    | some (.array n e) => match tyC P f e with
      | some l => match Nat.beq l.length (P.cellsOf e), Nat.beq (n * l.length) (P.cellsOf t) with
        | true, true => some (List.replicate n l).flatten
        | _, _ => none
      | none => none
    | _ => none

variable {H : Type} {enc : TypeId × Value → H} {P : Program} {w : World} {base : Nat} {spare : Nat → Bool} {held : Bool} {L : Nat → Prop}

theorem mapM_some {α β : Type} {f : α → Option β} : ∀ (l : List α) (r : List β), l.mapM f = some r → r.length = l.length ∧ ∀ (j : Nat) x, l[j]? = some x → f x = r[j]?
  | [], r, h => by
    simp at h
    subst h
    exact ⟨rfl, fun j x hx => by simp at hx⟩
  | a :: l, r, h => by
    rw [List.mapM_cons] at h
    obtain ⟨b, h1, h2⟩ := Option.bind_eq_some_iff.1 h
    obtain ⟨bs, h3, h4⟩ := Option.bind_eq_some_iff.1 h2
    obtain rfl : b :: bs = r := by simpa using h4
    obtain ⟨k1, k2⟩ := mapM_some l bs h3
    refine ⟨by simp [k1], fun j x hx => ?_⟩
    cases j with
    | zero => simp at hx; subst hx; simpa using h1
    | succ j => simpa using k2 j x (by simpa using hx)

theorem cells?_spec {a : Addr} {n : Nat} {cs : List Value} (h : w.cells? base a n = some cs) : cs.length = n ∧ ∀ (j : Nat) v, cs[j]? = some v → w.cell? (a.add j) = some v := by
  unfold World.cells? at h
  split at h
  · obtain ⟨h1, h2⟩ := mapM_some _ _ h
    rw [List.length_range] at h1
    refine ⟨h1, fun j v hv => ?_⟩
    have hj : j < n := by
      rcases Nat.lt_or_ge j cs.length with h' | h'
      · omega
      · rw [List.getElem?_eq_none h'] at hv; cases hv
    rw [h2 j j (by rw [List.getElem?_range hj]), hv]
  · cases h

theorem open_rows (el : List Ty) (hL : ∀ b, ¬ L b) (b esz : Nat) : ∀ (len o : Nat), (∀ i, i < len → ∃ cs ds, w.cells? base ⟨b, o + i * esz, none⟩ esz = some cs ∧ ShL el ds ∧ RelL w L ds cs) →
    ∃ rows : List (List D), rows.length = len ∧ (∀ r, r ∈ rows → ShL el r) ∧ RowsAt w L esz rows b o
  | 0, o, _ => ⟨[], rfl, fun r hr => (by cases hr), trivial⟩
  | len + 1, o, h => by
    obtain ⟨cs, ds, h1, h2, h3⟩ := h 0 (by omega)
    obtain ⟨k1, k2⟩ := cells?_spec h1
    obtain ⟨rows, r1, r2, r3⟩ := open_rows el hL b esz len (o + esz) fun i hi => by
      have := h (i + 1) (by omega)
      rwa [show o + (i + 1) * esz = o + esz + i * esz by rw [Nat.add_mul]; omega] at this
    refine ⟨ds :: rows, by simp [r1], fun r hr => ?_, ?_, ?_, r3⟩
    · rcases List.mem_cons.1 hr with rfl | hr
      · exact h2
      · exact r2 r hr
    · rw [← RelL.length _ _ h3, k1]
    · refine CellsAt.of (hL b) ds cs o h2.one h3 fun j v hv => ?_
      have := k2 j v hv
      rwa [add0, Nat.zero_mul, Nat.add_zero] at this

theorem open_fs {n : Nat} {cs : List Value} (c : TypeId → Option (List Ty)) (IH : ∀ t tys cs x, c t = some tys → DataW.trod enc P w base spare held n t cs = some x → ∃ ds, ShL tys ds ∧ RelL w L ds cs) :
    ∀ (l : List Field) (off : Nat) (tys : List Ty), tyFs P c l off = some tys → (∀ f, f ∈ l → ∃ x, DataW.trod enc P w base spare held n f.type ((cs.drop f.offset).take (P.cellsOf f.type)) = some x) →
      ∃ ds, ShL tys ds ∧ RelL w L ds ((cs.drop off).take tys.length)
  | [], off, tys, h, _ => by
    rw [tyFs] at h
    obtain rfl := Option.some.inj h
    exact ⟨[], rfl, by simp [RelL]⟩
  | f :: fs, off, tys, h, hx => by
    rw [tyFs] at h
    split at h
    · rename_i l hoff hc
      split at h
      · rename_i r hlen hr
        obtain rfl := Option.some.inj h
        have e1 : f.offset = off := Nat.eq_of_beq_eq_true hoff
        have e2 : l.length = P.cellsOf f.type := Nat.eq_of_beq_eq_true hlen
        obtain ⟨x, h1⟩ := hx f (List.mem_cons_self ..)
        obtain ⟨ds1, s1, q1⟩ := IH _ _ _ _ hc h1
        obtain ⟨ds2, s2, q2⟩ := open_fs c IH fs _ _ hr fun f hf => hx f (List.mem_cons_of_mem _ hf)
        rw [e1, ← e2] at q1
        refine ⟨ds1 ++ ds2, s1.append s2, ?_⟩
        rw [List.length_append, List.take_add, List.drop_drop]
        exact RelL.append _ _ _ _ q1 q2
      · cases h
    · cases h

theorem open_arr {n : Nat} {cs : List Value} {e : TypeId} {l : List Ty} (IH : ∀ cs x, DataW.trod enc P w base spare held n e cs = some x → ∃ ds, ShL l ds ∧ RelL w L ds cs) (hl : l.length = P.cellsOf e) :
    ∀ (k j : Nat), (∀ i, i < k → ∃ x, DataW.trod enc P w base spare held n e ((cs.drop ((j + i) * P.cellsOf e)).take (P.cellsOf e)) = some x) →
      ∃ ds, ShL (List.replicate k l).flatten ds ∧ RelL w L ds ((cs.drop (j * P.cellsOf e)).take (k * P.cellsOf e))
  | 0, j, _ => ⟨[], by simp [ShL], by simp [RelL]⟩
  | k + 1, j, h => by
    obtain ⟨x, h1⟩ := h 0 (by omega)
    rw [Nat.add_zero] at h1
    obtain ⟨ds1, s1, q1⟩ := IH _ _ h1
    obtain ⟨ds2, s2, q2⟩ := open_arr IH hl k (j + 1) fun i hi => by
      have := h (i + 1) (by omega)
      rwa [show j + (i + 1) = j + 1 + i by omega] at this
    refine ⟨ds1 ++ ds2, ?_, ?_⟩
    · rw [List.replicate_succ, List.flatten_cons]; exact s1.append s2
    · have : (k + 1) * P.cellsOf e = P.cellsOf e + k * P.cellsOf e := by rw [Nat.add_mul]; omega
      rw [this, List.take_add, List.drop_drop, show j * P.cellsOf e + P.cellsOf e = (j + 1) * P.cellsOf e by rw [Nat.add_mul]; omega]
      exact RelL.append _ _ _ _ q1 q2

theorem open_cells (hL : ∀ b, ¬ L b) : ∀ (f fuel : Nat) (t : TypeId) (tys : List Ty) (cs : List Value) (x : DataW H × List MemPlace), tyC P f t = some tys → DataW.trod enc P w base spare held fuel t cs = some x →
    ∃ ds, ShL tys ds ∧ RelL w L ds cs
  | 0, fuel, t, tys, cs, x, ht, _ => by rw [tyC] at ht; cases ht
  | f + 1, fuel, t, tys, cs, x, ht, hx => by
    rw [tyC] at ht
    split at ht
    · rename_i hu
      obtain rfl := Option.some.inj ht
      cases fuel with
      | zero => simp [DataW.trod] at hx
      | succ fuel =>
        unfold DataW.trod at hx
        rw [hu] at hx
        split at hx <;> simp_all
        exact ⟨[.is (.bool _)], ⟨_, _, rfl, ⟨_, rfl⟩, rfl⟩, ⟨_, _, rfl, rfl, rfl⟩⟩
    · rename_i k hu
      obtain rfl := Option.some.inj ht
      obtain ⟨n, rfl, _, hw⟩ := DataW.trod_int hu hx
      exact ⟨[.is (.int k n)], ⟨_, _, rfl, ⟨_, rfl, hw⟩, rfl⟩, ⟨_, _, rfl, rfl, rfl⟩⟩
    · rename_i hu
      obtain rfl := Option.some.inj ht
      cases fuel with
      | zero => simp [DataW.trod] at hx
      | succ fuel =>
        unfold DataW.trod at hx
        rw [hu] at hx
        split at hx <;> simp_all
        exact ⟨[.is (.string _)], ⟨_, _, rfl, ⟨_, rfl, hx.1⟩, rfl⟩, ⟨_, _, rfl, rfl, rfl⟩⟩
    · rename_i e hu
      split at ht
      · rename_i l hl
        split at ht
        · rename_i he h0
          obtain rfl := Option.some.inj ht
          have e1 : l.length = P.cellsOf e := Nat.eq_of_beq_eq_true he
          have e0 : 0 < l.length := by simpa using h0
          rcases Deep.open_slice hu hx with ⟨rfl, _⟩ | ⟨a, len, cap, m, n, DD, Pl, rfl, hb, hlc, hcap, hm, _, hel⟩
          · exact ⟨[.sl false l.length []], ⟨_, _, rfl, ⟨[], rfl, Nat.zero_le _, fun r hr => by cases hr⟩, rfl⟩, ⟨_, _, rfl, ⟨none, 0, rfl, ⟨Nat.le_refl _, fun _ => rfl⟩, fun h => (by cases h), .inl rfl⟩, rfl⟩⟩
          · have hlm : len ≤ m := by rw [hm]; split <;> omega
            by_cases h00 : len = 0
            · subst h00
              exact ⟨[.sl false l.length []], ⟨_, _, rfl, ⟨[], rfl, Nat.zero_le _, fun r hr => by cases hr⟩, rfl⟩, ⟨_, _, rfl, ⟨some a, cap, rfl, ⟨hlc, fun h => (by cases h)⟩, fun h => (by cases h), .inl rfl⟩, rfl⟩⟩
            · have hspot : a.spot = none := by
                obtain ⟨cs', h1, _⟩ := hel 0 (by omega)
                obtain ⟨k1, k2⟩ := cells?_spec h1
                have hlt : 0 < cs'.length := by rw [k1, ← e1]; exact e0
                have := k2 0 cs'[0] (List.getElem?_eq_getElem hlt)
                simp only [Nat.zero_mul, Addr.add, if_true] at this
                unfold World.cell? at this
                split at this
                · split at this
                  · cases this
                  · rename_i hh; simpa using hh
                · cases this
              obtain ⟨b, o, sp⟩ := a
              simp only at hspot
              subst hspot
              obtain ⟨rows, r1, r2, r3⟩ := open_rows (w := w) (base := base) l hL b l.length len o fun i hi => by
                obtain ⟨cs', h1, h2⟩ := hel i (by omega)
                obtain ⟨ds, s1, q1⟩ := open_cells hL f _ _ _ _ _ hl h2
                rw [add0, ← e1] at h1
                exact ⟨cs', ds, h1, s1, q1⟩
              subst r1
              exact ⟨[.sl false l.length rows], ⟨_, _, rfl, ⟨rows, rfl, by omega, r2⟩, rfl⟩, ⟨_, _, rfl, ⟨_, cap, rfl, ⟨hlc, fun h => (by cases h)⟩, fun h => (by cases h), .inr ⟨b, o, rfl, r3⟩⟩, rfl⟩⟩
        · cases ht
      · cases ht
    · rename_i fs hu
      split at ht
      · rename_i l hl
        split at ht
        · rename_i he
          obtain rfl := Option.some.inj ht
          have e1 : l.length = P.cellsOf t := Nat.eq_of_beq_eq_true he
          obtain ⟨xs, n, rfl, _, hlen, hxs, hfs⟩ := DataW.trod_struct hu hx
          obtain ⟨ds, s, q⟩ := open_fs (cs := cs) (tyC P f) (fun t tys cs x h1 h2 => open_cells hL f n t tys cs x h1 h2) fs.toList 0 l hl fun fd hfd => by
            obtain ⟨i, hi, rfl⟩ := List.getElem_of_mem hfd
            have hi' : i < xs.length := by rw [hxs]; simpa using hi
            refine ⟨xs[i], ?_⟩
            rw [hfs i _ (by rw [Array.getElem?_eq_getElem (by simpa using hi)]; simp), List.getElem?_eq_getElem hi']
          rw [List.drop_zero, List.take_of_length_le (by omega)] at q
          exact ⟨ds, s, q⟩
        · cases ht
      · cases ht
    · rename_i n e hu
      split at ht
      · rename_i l hl
        split at ht
        · rename_i he ht'
          obtain rfl := Option.some.inj ht
          have e1 : l.length = P.cellsOf e := Nat.eq_of_beq_eq_true he
          have e2 : n * l.length = P.cellsOf t := Nat.eq_of_beq_eq_true ht'
          obtain ⟨xs, m, rfl, _, hlen, hxs, hfs⟩ := DataW.trod_array hu hx
          obtain ⟨ds, s, q⟩ := open_arr (cs := cs) (e := e) (l := l) (n := m) (fun cs x h2 => open_cells hL f m e l cs x hl h2) e1 n 0 fun i hi => by
            refine ⟨xs[i]'(by omega), ?_⟩
            rw [Nat.zero_add, hfs i hi, List.getElem?_eq_getElem (by omega)]
          rw [Nat.zero_mul, List.drop_zero, List.take_of_length_le (by rw [hlen, ← e2, e1]; exact Nat.le_refl _)] at q
          exact ⟨ds, s, q⟩
        · cases ht
      · cases ht
    · cases ht

/-- A parameter: of one cell, or an aggregate. -/
inductive ATy where
  | one (t : Ty)
  | many (l : List Ty)
def tyA (P : Program) (t : TypeId) : Option ATy :=
  match P.underlying t with
  | some (.struct _) | some (.array _ _) => (tyC P 20 t).map .many
  | _ => match tyC P 20 t with
    | some [x] => some (.one x)
    | _ => none
def tyAs (P : Program) : List TypeId → Option (List ATy)
  | [] => some []
  | t :: ts => match tyA P t, tyAs P ts with
    | some a, some r => some (a :: r)
    | _, _ => none

def ShA : List ATy → List D → Prop
  | [], l => l = []
  | .one t :: r, l => ∃ d ds, l = d :: ds ∧ Sh t d ∧ ShA r ds
  | .many ts :: r, l => ∃ m ds, l = .agg m :: ds ∧ ShL ts m ∧ ShA r ds

theorem okWide_cells {r : Reach} {b0 : Nat} {t : TypeId} {v : Value} (hn : ∀ fs, P.underlying t ≠ some (.struct fs)) (hn2 : ∀ n e, P.underlying t ≠ some (.array n e)) (hk : (∃ k, P.underlying t = some (.int k)) ∨ P.underlying t = some .bool ∨ P.underlying t = some .string ∨ ∃ e, P.underlying t = some (.slice e))
    (h : Value.okWide P w r b0 t v) : v.cells = #[v] := by
  rcases hk with ⟨k, hk⟩ | hk | hk | ⟨e, hk⟩ <;> (simp only [Value.okWide, hk, Cell.okWide] at h; cases v <;> simp_all [Cell.ok, Value.cells])

theorem open_arg {r : Reach} {b0 : Nat} (hL : ∀ b, ¬ L b) {t : TypeId} {v : Value} {d : DataW H} {ps : List MemPlace} (hv : Value.okWide P w r b0 t v) (h : DataW.Trod enc P w base spare held t v d ps) {a : ATy} (ha : tyA P t = some a) :
    ∃ dd, ShA [a] [dd] ∧ Rel w L dd v := by
  obtain ⟨fuel, hf⟩ := h
  unfold tyA at ha
  have big : ∀ l, tyC P 20 t = some l → a = .many l → (∃ cs, v = .agg cs ∧ cs.size = P.cellsOf t) → ∃ dd, ShA [a] [dd] ∧ Rel w L dd v := by
    intro l hl ha hv
    obtain ⟨cs, rfl, _⟩ := hv
    obtain ⟨ds, s, q⟩ := open_cells hL _ _ _ _ _ _ hl hf
    subst ha
    exact ⟨.agg ds, ⟨ds, [], rfl, s, rfl⟩, s.one, cs, rfl, q⟩
  split at ha
  · rename_i fs hu
    obtain ⟨l, hl, rfl⟩ := Option.map_eq_some_iff.1 ha
    simp only [Value.okWide, hu] at hv
    obtain ⟨cs, h1, h2, _⟩ := hv
    exact big l hl rfl ⟨cs, h1, h2⟩
  · rename_i n e hu
    obtain ⟨l, hl, rfl⟩ := Option.map_eq_some_iff.1 ha
    simp only [Value.okWide, hu] at hv
    obtain ⟨cs, h1, h2, _⟩ := hv
    exact big l hl rfl ⟨cs, h1, h2⟩
  · rename_i n1 n2
    split at ha
    · rename_i x hx
      obtain rfl := Option.some.inj ha
      have hk : (∃ k, P.underlying t = some (.int k)) ∨ P.underlying t = some .bool ∨ P.underlying t = some .string ∨ ∃ e, P.underlying t = some (.slice e) := by
        rw [tyC] at hx
        split at hx
        · rename_i hu; exact .inr (.inl hu)
        · rename_i k hu; exact .inl ⟨k, hu⟩
        · rename_i hu; exact .inr (.inr (.inl hu))
        · rename_i e hu; exact .inr (.inr (.inr ⟨e, hu⟩))
        · rename_i fs hu; exact absurd hu (n1 fs)
        · rename_i n e hu; exact absurd hu (n2 n e)
        · cases hx
      have hc := okWide_cells n1 n2 hk hv
      rw [hc] at hf
      obtain ⟨ds, s, q⟩ := open_cells hL _ _ _ _ _ _ hx hf
      obtain ⟨d, ds', rfl, s1, s2⟩ := s
      rw [ShL] at s2
      subst s2
      obtain ⟨u, rest, e, q1, q2⟩ := q
      have : u = v := by
        have := congrArg List.head? e
        simpa using this.symm
      subst this
      exact ⟨d, ⟨d, [], rfl, s1, rfl⟩, q1⟩
    · cases ha

theorem open_args {r : Reach} {b0 : Nat} (hL : ∀ b, ¬ L b) : ∀ (ts : List TypeId) (vs : List Value) (ds : List (DataW H)) (ps : List MemPlace) (as : List ATy), DataW.TrodAll enc P w base spare held ts vs ds ps →
    (∀ (j : Nat) t v, ts[j]? = some t → vs[j]? = some v → Value.okWide P w r b0 t v) → tyAs P ts = some as → ∃ Ds, ShA as Ds ∧ RelL w L Ds vs
  | [], [], ds, ps, as, h, _, ha => by
    rw [tyAs] at ha
    obtain rfl := Option.some.inj ha
    exact ⟨[], rfl, rfl⟩
  | t :: ts, v :: vs, d :: ds, ps, as, h, hv, ha => by
    obtain ⟨p, q, h1, h2, _⟩ := h
    rw [tyAs] at ha
    split at ha
    · rename_i a rest ha1 ha2
      obtain rfl := Option.some.inj ha
      obtain ⟨dd, s1, q1⟩ := open_arg hL (hv 0 t v rfl rfl) h1 ha1
      obtain ⟨Ds, s2, q2⟩ := open_args hL ts vs ds q _ h2 (fun j t v h1 h2 => hv (j + 1) t v (by simpa using h1) (by simpa using h2)) ha2
      refine ⟨dd :: Ds, ?_, v, vs, rfl, q1, q2⟩
      cases a with
      | one x =>
        obtain ⟨d0, ds0, e, s3, _⟩ := s1
        simp only [List.cons.injEq] at e
        obtain ⟨rfl, _⟩ := e
        exact ⟨dd, Ds, rfl, s3, s2⟩
      | many l =>
        obtain ⟨m, ds0, e, s3, _⟩ := s1
        simp only [List.cons.injEq] at e
        obtain ⟨rfl, _⟩ := e
        exact ⟨m, Ds, rfl, s3, s2⟩
    · cases ha
  | [], _ :: _, _, _, _, h, _, _ => by simp [DataW.TrodAll] at h
  | _ :: _, [], _, _, _, h, _, _ => by simp [DataW.TrodAll] at h
  | _ :: _, _ :: _, [], _, _, h, _, _ => by simp [DataW.TrodAll] at h

theorem trodAll_len : ∀ (ts : List TypeId) (vs : List Value) (ds : List (DataW H)) (ps : List MemPlace), DataW.TrodAll enc P w base spare held ts vs ds ps → ds.length = ts.length
  | [], [], [], ps, _ => rfl
  | t :: ts, v :: vs, d :: ds, ps, h => by
    obtain ⟨p, q, h1, h2, rfl⟩ := h
    rw [List.length_cons, List.length_cons, trodAll_len ts vs ds q h2]
  | [], _ :: _, _, _, h => by simp [DataW.TrodAll] at h
  | _ :: _, [], _, _, h => by simp [DataW.TrodAll] at h
  | _ :: _, _ :: _, [], _, h => by simp [DataW.TrodAll] at h
  | [], [], _ :: _, _, h => by simp [DataW.TrodAll] at h
theorem spine1 {α : Type} {l : List α} (h : l.length = 1) : ∃ a, l = [a] := by
  match l, h with
  | [a], _ => exact ⟨a, rfl⟩
theorem spine2 {α : Type} {l : List α} (h : l.length = 2) : ∃ a b, l = [a, b] := by
  match l, h with
  | [a, b], _ => exact ⟨a, b, rfl⟩
theorem spine3 {α : Type} {l : List α} (h : l.length = 3) : ∃ a b c, l = [a, b, c] := by
  match l, h with
  | [a, b, c], _ => exact ⟨a, b, c, rfl⟩
theorem spine4 {α : Type} {l : List α} (h : l.length = 4) : ∃ a b c d, l = [a, b, c, d] := by
  match l, h with
  | [a, b, c, d], _ => exact ⟨a, b, c, d, rfl⟩

open Go.RowKit in
/-- The arguments are read behind the call as they were. -/
theorem shut_args (hl : laidOutB P = true) {W W' : World} (hb : Below W.heap.size W W') : ∀ (ts : List TypeId) (vs : List Value) (ds : List (DataW H)) (ps : List MemPlace), ts.all (fun t => P.readableRec t && Nat.blt t P.types.size) = true →
    DataW.TrodAll enc P W 0 (fun _ => true) true ts vs ds ps → (∀ x ∈ ps, x.block < W.heap.size) → DataW.TrodAll enc P W' 0 (fun b => decide (b < W.heap.size)) true ts vs ds ps
  | [], [], [], ps, _, h, _ => h
  | t :: ts, v :: vs, d :: ds, ps, ht, h, hlt => by
    obtain ⟨p, q, h1, h2, rfl⟩ := h
    rw [List.all_cons, Bool.and_eq_true, Bool.and_eq_true] at ht
    exact ⟨p, q, Below.trod hl ht.1.1 (by simpa using ht.1.2) h1 hb (fun x hx => hlt x (List.mem_append_left _ hx)), shut_args hl hb ts vs ds q ht.2 h2 (fun x hx => hlt x (List.mem_append_right _ hx)), rfl⟩
  | [], _ :: _, _, _, _, h, _ => by simp [DataW.TrodAll] at h
  | _ :: _, [], _, _, _, h, _ => by simp [DataW.TrodAll] at h
  | _ :: _, _ :: _, [], _, _, h, _ => by simp [DataW.TrodAll] at h
  | [], [], _ :: _, _, _, h, _ => by simp [DataW.TrodAll] at h
end Go.Vc
