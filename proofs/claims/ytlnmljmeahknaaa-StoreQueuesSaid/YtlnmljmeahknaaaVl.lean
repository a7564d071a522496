/- What each operation makes of descriptors: parts of slices and strings; fields; kinds. No condition. -/
import Derived.Test.YtlnmljmeahknaaaVk
namespace Go.Vc
set_option linter.unusedSimpArgs false
open Go
set_option linter.unusedVariables false

/-- A bound: its condition, its value. -/
def dC (x : Option D) (top : Nat) : Prop :=
  match x with
  | none => True
  | some (.is (.int _ n)) => 0 ≤ n ∧ n ≤ top
  | _ => False
def dV (x : Option D) (dflt : Nat) : Nat :=
  match x with
  | some (.is (.int _ n)) => n.toNat
  | _ => dflt

def vC (x : Option Value) (top : Nat) : Prop :=
  match x with
  | none => True
  | some (.int _ n) => 0 ≤ n ∧ n ≤ top
  | _ => False
def vV (x : Option Value) (dflt : Nat) : Nat :=
  match x with
  | some (.int _ n) => n.toNat
  | _ => dflt

theorem dC_v {w : World} {L : Nat → Prop} {E : Operand → D} {ε : Operand → Value} {x : Option Operand} (hr : ∀ y, x = some y → Rel w L (E y) (ε y)) {top : Nat} (h : dC (x.map E) top) (dflt : Nat) :
    vC (x.map ε) top ∧ vV (x.map ε) dflt = dV (x.map E) dflt := by
  cases x with
  | none => exact ⟨trivial, rfl⟩
  | some y =>
    have h1 := hr y rfl
    simp only [Option.map_some] at h ⊢
    unfold dC at h
    split at h
    · rename_i heq; cases heq
    · rename_i k n heq
      simp only [Option.some.injEq] at heq
      rw [heq] at h1 ⊢
      have h1' : ε y = .int k n := h1
      rw [h1']
      exact ⟨h, rfl⟩
    · exact h.elim


theorem run_bounds {P : Program} {w : World} (isS : Bool) (len cap : Nat) (lo hi mx : Option Value) (hmx : mx.isSome = true → hi.isSome = true)
    (h1 : vC mx cap) (h2 : vC hi (vV mx cap)) (h3 : vC lo (vV hi len)) :
    (Instr.sliceBounds isS len cap lo hi mx).run P w = .ok (vV lo 0, vV hi len, vV mx cap) w := by
  have low : ∀ (v : Value) (H : Nat) (c : BoundsCode), vC (some v) H → (Instr.sliceBound v H c).run P w = .ok (vV (some v) 0) w := by
    intro v H c hH
    cases v <;> try exact hH.elim
    rw [run_sliceBound_if]
    exact if_pos hH
  have vd : ∀ (v : Value) (H a b : Nat), vC (some v) H → vV (some v) a = vV (some v) b := by
    intro v H a b hH
    cases v <;> first | rfl | exact hH.elim
  unfold Instr.sliceBounds
  cases mx with
  | none =>
    cases hi with
    | none =>
      simp only [pure_bind]
      cases lo with
      | none => rfl
      | some l => rw [run_bind (low l len _ h3)]; rfl
    | some h =>
      simp only [pure_bind]
      rw [run_bind (low h cap _ h2)]
      cases lo with
      | none => rw [vd h _ len 0 h2]; rfl
      | some l => rw [vd h _ len 0 h2] at h3; rw [run_bind (low l _ _ h3), vd h _ len 0 h2]; rfl
  | some m =>
    cases hi with
    | none => simp at hmx
    | some h =>
      simp only []
      rw [run_bind (low m cap _ h1)]
      rw [vd m _ cap 0 h1] at h2 ⊢
      rw [run_bind (low h _ _ h2)]
      cases lo with
      | none => rw [vd h _ len 0 h2]; rfl
      | some l => rw [vd h _ len 0 h2] at h3; rw [run_bind (low l _ _ h3), vd h _ len 0 h2]; rfl

theorem run_slice_sl {P : Program} {w : World} {t e : TypeId} {inf : TypeInfo} {esz : Nat} (hu : P.underlying t = some (.slice e)) (hinf : P.info? e = some inf) (hsz : inf.size = esz)
    {a : Option Addr} {len cap : Nat} {lo hi mx : Option Value} (hmx : mx.isSome = true → hi.isSome = true) (h1 : vC mx cap) (h2 : vC hi (vV mx cap)) (h3 : vC lo (vV hi len)) :
    (Instr.sliceAt t (.slice a len cap) lo hi mx).run P w = .ok (.slice (if vV mx cap = vV lo 0 then a else a.map (·.add (vV lo 0 * esz))) (vV hi len - vV lo 0) (vV mx cap - vV lo 0)) w := by
  unfold Instr.sliceAt
  rw [run_bind (run_underlying hu w)]
  simp only
  unfold Instr.slice
  rw [run_bind (run_underlying hu w)]
  simp only
  rw [run_bind (run_bounds true len cap lo hi mx hmx h1 h2 h3)]
  simp only
  rw [run_bind (run_sz hinf w), hsz]
  rfl

theorem run_slice_str {P : Program} {w : World} {t : TypeId} (hu : P.underlying t = some .string) {s : ByteArray} {lo hi : Option Value} (h2 : vC hi s.size) (h3 : vC lo (vV hi s.size)) :
    (Instr.sliceAt t (.string s) lo hi none).run P w = .ok (.string (s.extract (vV lo 0) (vV hi s.size))) w := by
  unfold Instr.sliceAt
  rw [run_bind (run_underlying hu w)]
  simp only
  unfold Instr.slice
  rw [run_bind (run_underlying hu w)]
  simp only [Option.isSome_none, Bool.false_eq_true, if_false]
  rw [run_bind (run_bounds false s.size s.size lo hi none (by simp) trivial h2 h3)]
  rfl

def cSlice (kd : Kd) (x : D) (lo hi mx : Option D) (K : D → Prop) : Prop :=
  match kd, x with
  | .str, .is (.string s) => match mx with
    | none => (dC hi s.size ∧ dC lo (dV hi s.size)) ∧ K (.is (.string (s.extract (dV lo 0) (dV hi s.size))))
    | some _ => False
  | .slice _ esz _ _ _, .sl full esz' rows => (esz' = esz ∧ dC mx rows.length ∧ dC hi (dV mx rows.length) ∧ dC lo (dV hi rows.length)) ∧
      match mx, hi with
      | none, none => K (.sl full esz (rows.drop (dV lo 0)))
      | none, some _ => K (.sl false esz ((rows.take (dV hi 0)).drop (dV lo 0)))
      | some _, some _ => K (.sl (Nat.beq (dV mx 0) (dV hi 0)) esz ((rows.take (dV hi 0)).drop (dV lo 0)))
      | some _, none => False
  | .slice _ esz _ _ _, .gs (some (b, cap)) n => match mx with
    | none => (dC hi n ∧ dC lo (dV hi n)) ∧
      match lo with
      | none => K (.gs (some (b, cap)) (dV hi n))
      | some _ => K (.os b (dV lo 0 * esz) (dV hi n - dV lo 0) (cap - dV lo 0))
    | some _ => False
  | .slice .., .gs none _ => match mx with
    | none => (dC hi 0 ∧ dC lo 0) ∧ K (.gs none 0)
    | some _ => False
  | _, _ => False

theorem dC_mono {x : Option D} {a b : Nat} (h : dC x a) (hab : a ≤ b) : dC x b := by
  cases x with
  | none => trivial
  | some y =>
    cases y <;> first | exact h.elim | skip
    rename_i v
    cases v <;> first | exact h.elim | exact ⟨h.1, by have := h.2; omega⟩
theorem vC_mono {x : Option Value} {a b : Nat} (h : vC x a) (hab : a ≤ b) : vC x b := by
  cases x with
  | none => trivial
  | some v => cases v <;> first | exact h.elim | exact ⟨h.1, by have := h.2; omega⟩
theorem dV_any {x : Option D} {top : Nat} (h : dC x top) (hs : x.isSome = true) (a b : Nat) : dV x a = dV x b := by
  cases x with
  | none => simp at hs
  | some y => unfold dC at h; split at h <;> first | (rename_i heq; cases heq; done) | (rename_i heq; cases heq; rfl) | exact h.elim
theorem dV_le {x : Option D} {top a : Nat} (h : dC x top) (ha : a ≤ top) : dV x a ≤ top := by
  cases x with
  | none => exact ha
  | some y =>
    unfold dC at h
    split at h
    · rename_i heq; cases heq
    · rename_i heq; cases heq; simp only [dV]; omega
    · exact h.elim

theorem r_slice {P : Program} (T : Tab P) {o : Oper} {E : Operand → D} {H : Heap} {K : D → Heap → Prop} {t : TypeId} {x : Operand} {lo hi mx : Option Operand} (ho : o.op = .slice t x lo hi mx)
    (hk : cSlice (kdT (T.get t)) (E x) (lo.map E) (hi.map E) (mx.map E) (K · H)) : Op1 P o E H K := by
  have mem : ∀ (w : World) (L0 : Nat → Prop) (ε : Operand → Value), (∀ x, x ∈ o.op.operands → Rel w (live H L0) (E x) (ε x)) →
      Rel w (live H L0) (E x) (ε x) ∧ (∀ y, lo = some y → Rel w (live H L0) (E y) (ε y)) ∧ (∀ y, hi = some y → Rel w (live H L0) (E y) (ε y)) ∧ (∀ y, mx = some y → Rel w (live H L0) (E y) (ε y)) := by
    intro w L0 ε hx
    refine ⟨hx _ (by simp [ho, Op.operands]), fun y e => hx _ ?_, fun y e => hx _ ?_, fun y e => hx _ ?_⟩ <;> (subst e; simp [ho, Op.operands])
  have run : ∀ (ε : Operand → Value) (w : World) (v : Value), (Instr.sliceAt t (ε x) (lo.map ε) (hi.map ε) (mx.map ε)).run P w = .ok v w → (execOp ε o).run P w = .ok (.value v) w := by
    intro ε w v h
    simp only [execOp, ho]
    rw [run_bind h]; rfl
  unfold cSlice at hk
  split at hk
  · rename_i s hkd hx0
    have hu := kd_str T hkd
    split at hk
    · rename_i hmx0
      obtain ⟨⟨c1, c2⟩, hk⟩ := hk
      have hmx : mx = none := by cases mx <;> simp_all
      subst hmx
      refine Op1.value (d := .is (.string (s.extract (dV (lo.map E) 0) (dV (hi.map E) s.size)))) (fun w L0 ε hi' hx => ?_) hk
      obtain ⟨r1, r2, r3, _⟩ := mem w L0 ε hx
      rw [hx0] at r1
      have r1' : ε x = .string s := r1
      obtain ⟨v1, v2⟩ := dC_v r3 c1 s.size
      obtain ⟨v3, v4⟩ := dC_v r2 c2 0
      refine ⟨_, run ε w _ ?_, rfl⟩
      rw [r1', ← v4, ← v2]
      exact run_slice_str hu v1 (by rw [v2]; exact v3)
    · exact hk.elim
  · rename_i e esz eb ea ez full esz' rows hkd hx0
    obtain ⟨hu, hkn, hsz, _⟩ := kd_slice T hkd
    obtain ⟨d, inf, z, _, hinf, _, h4, _⟩ := knOf_facts hkn
    rw [hsz] at h4
    obtain ⟨⟨rfl, c1, c2, c3⟩, hk⟩ := hk
    have key : ∀ (f' : Bool) (rows' : List (List D)), (mx.isSome = true → hi.isSome = true) → rows' = (rows.take (dV (hi.map E) rows.length)).drop (dV (lo.map E) 0) →
        (f' = true → (mx = none ∧ hi = none ∧ full = true) ∨ (mx.isSome = true ∧ dV (mx.map E) 0 = dV (hi.map E) 0)) → K (.sl f' esz' rows') H → Op1 P o E H K := by
      intro f' rows' hms hrows' hf hk
      refine Op1.value (d := .sl f' esz' rows') (fun w L0 ε hi' hx => ?_) hk
      obtain ⟨r1, r2, r3, r4⟩ := mem w L0 ε hx
      rw [hx0, Rel] at r1
      obtain ⟨a, cap, hv, ⟨hcap, han⟩, hfull, hrows⟩ := r1
      obtain ⟨v1, v2⟩ := dC_v r4 c1 cap
      have hmle : dV (mx.map E) rows.length ≤ dV (mx.map E) cap := by
        cases mx with
        | none => exact hcap
        | some y => rw [dV_any c1 rfl rows.length cap]; exact Nat.le_refl _
      have c2' : dC (hi.map E) (dV (mx.map E) cap) := dC_mono c2 hmle
      have v1' : vC (mx.map ε) cap := vC_mono v1 hcap
      obtain ⟨v3, v4⟩ := dC_v r3 c2' rows.length
      obtain ⟨v5, v6⟩ := dC_v r2 c3 0
      have hl : dV (lo.map E) 0 ≤ dV (hi.map E) rows.length := dV_le c3 (Nat.zero_le _)
      have hh : dV (hi.map E) rows.length ≤ rows.length := by
        cases hi with
        | none => exact Nat.le_refl _
        | some y =>
          have := dV_le (a := 0) c2 (Nat.zero_le _)
          rw [dV_any c2 rfl rows.length 0]
          refine Nat.le_trans this ?_
          exact dV_le c1 (Nat.le_refl _)
      have hlen' : rows'.length = dV (hi.map E) rows.length - dV (lo.map E) 0 := by rw [hrows', List.length_drop, List.length_take]; omega
      have hhm : dV (hi.map E) rows.length ≤ dV (mx.map E) cap := by
        cases hi with
        | none =>
          cases mx with
          | none => exact hcap
          | some y => simp at hms
        | some y => rw [dV_any c2 rfl rows.length 0]; exact dV_le c2' (Nat.zero_le _)
      have hr := run_slice_sl (P := P) (w := w) (a := a) (len := rows.length) (cap := cap) hu hinf h4 (lo := lo.map ε) (hi := hi.map ε) (mx := mx.map ε) (by simpa using hms) v1' (by rw [v2]; exact v3) (by rw [v4]; exact v5)
      rw [v2, v4, v6] at hr
      refine ⟨_, run ε w _ (by rw [hv]; exact hr), ?_⟩
      refine ⟨_, _, by rw [hlen'], ⟨by rw [hlen']; omega, ?_⟩, ?_, ?_⟩
      · intro hnone
        have : a = none := by
          split at hnone
          · exact hnone
          · cases a with
            | none => rfl
            | some ad => cases hnone
        have h0 := han this
        have hm0 : dV (mx.map E) cap = 0 := by
          have : dV (mx.map E) cap ≤ cap := by
            cases mx with
            | none => exact Nat.le_refl _
            | some y => rw [dV_any c1 rfl cap 0]; exact Nat.le_trans (dV_le c1 (Nat.zero_le _)) hcap
          omega
        omega
      · intro hf'
        rw [hlen']
        rcases hf hf' with ⟨rfl, rfl, hff⟩ | ⟨hms', heq⟩
        · have := hfull hff
          simp only [Option.map_none, dV]
          omega
        · have hhs := hms hms'
          rw [dV_any c1 (by simpa using hms') cap 0, heq, dV_any c2 (by simpa using hhs) 0 rows.length]
      · rcases hrows with h | ⟨b, off, hab, hrows⟩
        · left; rw [hrows', h]; simp
        · by_cases hml : dV (mx.map E) cap = dV (lo.map E) 0
          · left
            exact List.eq_nil_of_length_eq_zero (by rw [hlen']; omega)
          · right
            rw [if_neg hml, hab]
            refine ⟨b, off + dV (lo.map E) 0 * esz', by simp [add0], ?_⟩
            rw [hrows']
            exact RowsAt.drop _ _ _ _ (RowsAt.take _ _ _ _ hrows)
    split at hk
    · rename_i e1 e2
      have hmx : mx = none := by cases mx <;> simp_all
      have hhi : hi = none := by cases hi <;> simp_all
      subst hmx; subst hhi
      refine key full _ (by simp) (by simp [dV]) (fun h => .inl ⟨rfl, rfl, h⟩) hk
    · rename_i y e1 e2
      have hmx : mx = none := by cases mx <;> simp_all
      subst hmx
      refine key false _ (by simp) ?_ (fun h => by cases h) hk
      rw [dV_any c2 (by rw [e2]; rfl) rows.length 0]
    · rename_i y z e1 e2
      refine key _ _ (fun _ => by cases hi <;> simp_all) ?_ (fun h => .inr ⟨by cases mx <;> simp_all, Nat.eq_of_beq_eq_true h⟩) hk
      rw [dV_any c2 (by rw [e2]; rfl) rows.length 0]
    · exact hk.elim
  · rename_i e esz eb ea ez b cap n hkd hx0
    obtain ⟨hu, hkn, hsz, _⟩ := kd_slice T hkd
    obtain ⟨d, inf, z, _, hinf, _, h4, _⟩ := knOf_facts hkn
    rw [hsz] at h4
    split at hk
    · rename_i hmx0
      have hmx : mx = none := by cases mx <;> simp_all
      subst hmx
      obtain ⟨⟨c1, c2⟩, hk⟩ := hk
      have base : ∀ (w : World) (L0 : Nat → Prop) (ε : Operand → Value), (∀ x, x ∈ o.op.operands → Rel w (live H L0) (E x) (ε x)) →
          n ≤ cap ∧ dV (lo.map E) 0 ≤ dV (hi.map E) n ∧ dV (hi.map E) n ≤ n ∧
          (execOp ε o).run P w = .ok (.value (.slice (if cap = dV (lo.map E) 0 then some ⟨b, 0, none⟩ else some ⟨b, dV (lo.map E) 0 * esz, none⟩) (dV (hi.map E) n - dV (lo.map E) 0) (cap - dV (lo.map E) 0))) w := by
        intro w L0 ε hx
        obtain ⟨r1, r2, r3, _⟩ := mem w L0 ε hx
        rw [hx0, Rel] at r1
        obtain ⟨hv, hnc⟩ := r1
        have hnc' : n ≤ cap := hnc
        have hh : dV (hi.map E) n ≤ n := dV_le c1 (Nat.le_refl _)
        have c1' : dC (hi.map E) cap := dC_mono c1 hnc'
        obtain ⟨v3, v4⟩ := dC_v r3 c1' n
        obtain ⟨v5, v6⟩ := dC_v r2 c2 0
        refine ⟨hnc', dV_le c2 (Nat.zero_le _), hh, run ε w _ ?_⟩
        have hr := run_slice_sl (P := P) (w := w) (a := some ⟨b, 0, none⟩) (len := n) (cap := cap) hu hinf h4 (lo := lo.map ε) (hi := hi.map ε) (mx := none) (by simp) trivial v3 (by rw [v4]; exact v5)
        rw [v4, v6] at hr
        rw [hv]
        simp only [Option.map_none, sv]
        rw [hr]
        simp only [vV, Option.map_some, add0, Nat.zero_add]
      split at hk
      · rename_i hlo0
        have hlo : lo = none := by cases lo <;> simp_all
        subst hlo
        refine Op1.value (d := .gs (some (b, cap)) (dV (hi.map E) n)) (fun w L0 ε hi' hx => ?_) hk
        obtain ⟨b1, b2, b3, b4⟩ := base w L0 ε hx
        refine ⟨_, b4, ?_, ?_⟩
        · simp [sv, dV]
        · show _ ≤ cap; omega
      · rename_i y hlo0
        refine Op1.value (d := .os b (dV (lo.map E) 0 * esz) (dV (hi.map E) n - dV (lo.map E) 0) (cap - dV (lo.map E) 0)) (fun w L0 ε hi' hx => ?_) hk
        obtain ⟨b1, b2, b3, b4⟩ := base w L0 ε hx
        refine ⟨_, b4, ?_⟩
        by_cases hc : cap = dV (lo.map E) 0
        · exact ⟨0, by rw [if_pos hc], by omega, fun h => by omega⟩
        · exact ⟨_, by rw [if_neg hc], by omega, fun _ => rfl⟩
    · exact hk.elim
  · rename_i e esz eb ea ez n hkd hx0
    obtain ⟨hu, hkn, hsz, _⟩ := kd_slice T hkd
    obtain ⟨d, inf, z, _, hinf, _, h4, _⟩ := knOf_facts hkn
    rw [hsz] at h4
    split at hk
    · rename_i hmx0
      have hmx : mx = none := by cases mx <;> simp_all
      subst hmx
      obtain ⟨⟨c1, c2⟩, hk⟩ := hk
      refine Op1.value (d := .gs none 0) (fun w L0 ε hi' hx => ?_) hk
      obtain ⟨r1, r2, r3, _⟩ := mem w L0 ε hx
      rw [hx0, Rel] at r1
      obtain ⟨v3, v4⟩ := dC_v r3 c1 0
      obtain ⟨v5, v6⟩ := dC_v r2 c2 0
      have e1 : dV (hi.map E) 0 = 0 := by have := dV_le c1 (Nat.le_refl 0); omega
      have e2 : dV (lo.map E) 0 = 0 := by have := dV_le c2 (Nat.le_refl 0); omega
      have hr := run_slice_sl (P := P) (w := w) (a := none) (len := 0) (cap := 0) hu hinf h4 (lo := lo.map ε) (hi := hi.map ε) (mx := none) (by simp) trivial v3 (by rw [v4, e1]; exact v5)
      rw [v4, v6, e1, e2] at hr
      refine ⟨.slice none 0 0, run ε w _ ?_, rfl, rfl⟩
      rw [r1.1]
      simp only [Option.map_none, sv]
      rw [hr]
      simp [vV]
    · exact hk.elim
  · exact hk.elim

end Go.Vc
