/- What each operation makes of descriptors: new blocks, cells that are written, slices. No condition. -/
import Derived.Test.YtlnmljmeahknaaaVf
namespace Go.Vc
set_option linter.unusedSimpArgs false
open Go
set_option linter.unusedVariables false

/-! ### Values built -/

def cellsD : D → Option (List D)
  | .agg l => some l
  | .is (.agg _) => none
  | .tup _ | .any => none
  | d => some [d]

def setL : List D → Nat → List D → List D
  | cells, _, [] => cells
  | cells, off, c :: cs => setL (cells.set off c) (off + 1) cs
def setLV : List Value → Nat → List Value → List Value
  | cells, _, [] => cells
  | cells, off, c :: cs => setLV (cells.set off c) (off + 1) cs

theorem setLV_length : ∀ (cs vs : List Value) (off : Nat), (setLV vs off cs).length = vs.length
  | [], vs, off => rfl
  | c :: cs, vs, off => by rw [setLV, setLV_length cs]; simp
theorem setL_length : ∀ (cs vs : List D) (off : Nat), (setL vs off cs).length = vs.length
  | [], vs, off => rfl
  | c :: cs, vs, off => by rw [setL, setL_length cs]; simp

theorem RelL.setL {w : World} {L : Nat → Prop} : ∀ (cs : List D) (us : List Value) (l : List D) (vs : List Value) (off : Nat), RelL w L l vs → RelL w L cs us → RelL w L (Vc.setL l off cs) (setLV vs off us)
  | [], us, l, vs, off, h, h' => by rw [RelL] at h'; subst h'; exact h
  | d :: ds, us, l, vs, off, h, h' => by
    rw [RelL] at h'
    obtain ⟨v, r, rfl, h1, h2⟩ := h'
    exact RelL.setL ds r _ _ (off + 1) (RelL.set off _ _ _ _ h h1) h2

theorem cellsD_spec {w : World} {L : Nat → Prop} {d : D} {c : List D} {v : Value} (h : cellsD d = some c) (hr : Rel w L d v) : RelL w L c v.cells.toList := by
  cases d with
  | is u =>
    rw [Rel] at hr; subst hr
    cases v <;> simp only [cellsD] at h <;> cases h <;> exact ⟨_, [], rfl, rfl, rfl⟩
  | sl full esz rows => simp only [cellsD, Option.some.injEq] at h; subst h; have hr' := hr; rw [Rel] at hr; obtain ⟨a, cap, rfl, _⟩ := hr; exact ⟨_, [], rfl, hr', rfl⟩
  | pt row => simp only [cellsD, Option.some.injEq] at h; subst h; have hr' := hr; rw [Rel] at hr; obtain ⟨b, o, rfl, _⟩ := hr; exact ⟨_, [], rfl, hr', rfl⟩
  | agg l => simp only [cellsD, Option.some.injEq] at h; subst h; rw [Rel] at hr; obtain ⟨_, cs, rfl, hr⟩ := hr; exact hr
  | tup l => cases h
  | ifc t d => simp only [cellsD, Option.some.injEq] at h; subst h; have hr' := hr; rw [Rel] at hr; obtain ⟨x, rfl, _⟩ := hr; exact ⟨_, [], rfl, hr', rfl⟩
  | gs g n => simp only [cellsD, Option.some.injEq] at h; subst h; have hr' := hr; rw [Rel] at hr; obtain ⟨rfl, _⟩ := hr; cases g <;> exact ⟨_, [], rfl, hr', rfl⟩
  | os b o n cap => simp only [cellsD, Option.some.injEq] at h; subst h; have hr' := hr; rw [Rel] at hr; obtain ⟨o', rfl, _⟩ := hr; exact ⟨_, [], rfl, hr', rfl⟩
  | any => cases h

def fillD (place : Nat → Option (Nat × Nat)) : List D → List (Nat × D) → Option (List D)
  | cells, [] => some cells
  | cells, (i, d) :: rest =>
    match place i, cellsD d with
    | some (off, sz), some c => match c.length == sz && Nat.ble (off + sz) cells.length with
      | true => fillD place (setL cells off c) rest
      | false => none
    | _, _ => none

theorem foldl_setLV (off : Nat) : ∀ (cs : List Value) (j : Nat) (a : Array Value), ((cs.zipIdx j).foldl (fun (x : Array Value) (p : Value × Nat) => x.setIfInBounds (off + p.2) p.1) a).toList = setLV a.toList (off + j) cs
  | [], j, a => rfl
  | c :: cs, j, a => by
    rw [List.zipIdx_cons, List.foldl_cons, foldl_setLV off cs (j + 1)]
    simp only [setLV, Array.toList_setIfInBounds]
    rfl

theorem fill_spec {w : World} {L : Nat → Prop} {place : Nat → Option (Nat × Nat)} {E : Operand → D} {ε : Operand → Value} : ∀ (ps : List (Nat × Operand)) (l : List D) (a : Array Value) (l' : List D),
    (∀ i x, (i, x) ∈ ps → Rel w L (E x) (ε x)) → fillD place l (ps.map fun p => (p.1, E p.2)) = some l' → RelL w L l a.toList →
    ∃ a', Instr.fill place a (ps.map fun p => (p.1, ε p.2)) = some a' ∧ RelL w L l' a'.toList ∧ a'.size = a.size
  | [], l, a, l', hv, h, hr => by
    simp only [List.map_nil, fillD, Option.some.injEq] at h; subst h; exact ⟨a, rfl, hr, rfl⟩
  | (i, x) :: ps, l, a, l', hv, h, hr => by
    simp only [List.map_cons, fillD] at h
    split at h
    · rename_i off sz c hp hc
      split at h
      · rename_i hb
        simp only [Bool.and_eq_true, beq_iff_eq, Nat.ble_eq] at hb
        have hcv := cellsD_spec hc (hv i x (List.mem_cons_self ..))
        have hlen := RelL.length _ _ hcv
        have hlen2 := RelL.length _ _ hr
        have e : ((ε x).cells.zipIdx.foldl (fun cs (p : Value × Nat) => cs.setIfInBounds (off + p.2) p.1) a).toList = setLV a.toList off (ε x).cells.toList := by
          rw [← Array.foldl_toList, Array.toList_zipIdx, foldl_setLV]
          simp
        have hset : RelL w L (setL l off c) ((ε x).cells.zipIdx.foldl (fun cs (p : Value × Nat) => cs.setIfInBounds (off + p.2) p.1) a).toList := by
          rw [e]
          exact RelL.setL _ _ _ _ _ hr hcv
        obtain ⟨a', h1, h2, h3⟩ := fill_spec ps _ _ l' (fun i x hm => hv i x (List.mem_cons_of_mem _ hm)) h hset
        refine ⟨a', ?_, h2, ?_⟩
        · simp only [List.map_cons, Instr.fill, hp]
          rw [if_neg]
          · exact h1
          · simp only [Array.length_toList] at hlen hlen2
            have := hb.1; have := hb.2
            simp only [ne_eq, gt_iff_lt, Bool.or_eq_true, decide_eq_true_eq]
            omega
        · rw [h3, ← Array.length_toList, e, setLV_length, Array.length_toList]
      · cases h
    · cases h

theorem run_places {P : Program} {w : World} : ∀ (fs : List Field), fs.all (fun f => knOf P f.type) = true →
    (fs.mapM fun f => do pure (f.offset, ← sizeOf f.type) : Sem (List (Nat × Nat))).run P w = .ok (fs.map fun f => (f.offset, szOf P f.type)) w
  | [], _ => rfl
  | f :: r, h => by
    simp only [List.all_cons, Bool.and_eq_true] at h
    obtain ⟨_, i, _, _, hi, _⟩ := knOf_facts h.1
    rw [List.mapM_cons, run_bind (a := (f.offset, szOf P f.type)) (w' := w), run_bind (run_places r h.2)]
    · rfl
    · rw [run_bind (run_sz hi w)]
      simp [szOf, hi]

theorem constL_rel (w : World) (L : Nat → Prop) : ∀ l : List Value, RelL w L (l.map constD) l
  | [] => rfl
  | v :: r => ⟨v, r, rfl, constD_rel w L v, constL_rel w L r⟩

def cBuild (ty : TyI) (parts : List (Nat × D)) (K : D → Prop) : Prop :=
  match kdT ty with
  | .struct fs =>
    match fillD (fun i => (fs[i]?).map fun x => (x.1, x.2.1)) (ty.zero.map constD) parts with
    | some l => l.all oneD = true ∧ K (.agg l)
    | none => False
  | _ => False

theorem r_build {P : Program} (T : Tab P) {o : Oper} {E : Operand → D} {H : Heap} {K : D → Heap → Prop} {t : TypeId} {ps : List (Nat × Operand)} (ho : o.op = .build t ps.toArray)
    (hk : cBuild (T.get t) (ps.map fun p => (p.1, E p.2)) (K · H)) : Op1 P o E H K := by
  unfold cBuild at hk
  split at hk
  · rename_i fs hkd
    split at hk
    · rename_i l hl
      obtain ⟨hone, hk⟩ := hk
      have hkn : (T.get t).known = true := by
        unfold kdT at hkd
        cases h : (T.get t).known with
        | true => rfl
        | false => rw [h] at hkd; cases hkd
      obtain ⟨d, inf, z, hu, hinf, hz, hkd', hagg, hsz, hzl, hlen, _⟩ := T.facts hkn
      have hstruct : ∃ F, d = .struct F ∧ F.toList.all (fun f => knOf P f.type) = true ∧ fs = F.toList.map fun f => (f.offset, szOf P f.type, aggOf P f.type) := by
        simp only [kdT, hkn] at hkd
        rw [hkd] at hkd'
        cases d with
        | struct F =>
          simp only [kdOf] at hkd'
          cases hq : F.toList.all (fun f => knOf P f.type) with
          | false => rw [hq] at hkd'; cases hkd'
          | true => rw [hq] at hkd'; simp only [Kd.struct.injEq] at hkd'; exact ⟨F, rfl, hq, hkd'⟩
        | slice e => simp only [kdOf] at hkd'; cases hq : knOf P e <;> simp [hq] at hkd'
        | array n e => simp only [kdOf] at hkd'; cases hq : knOf P e <;> simp [hq] at hkd'
        | _ => simp [kdOf] at hkd'
      obtain ⟨F, rfl, hall, hfs⟩ := hstruct
      refine Op1.value (d := .agg l) (fun w L0 ε hi hx => ?_) hk
      have hmem : ∀ i x, (i, x) ∈ ps → Rel w (live H L0) (E x) (ε x) := fun i x hm => hx x (by
        simp only [ho, Op.operands, List.mem_toArray, List.mem_map]
        exact ⟨(i, x), hm, rfl⟩)
      obtain ⟨a', h1, h2, _⟩ := fill_spec (ε := ε) ps _ z.cells l hmem hl (by rw [hzl]; exact constL_rel _ _ _)
      refine ⟨.agg a', ?_, hone, _, rfl, h2⟩
      simp only [execOp, ho, Instr.build]
      refine (run_bind (a := .agg a') (w' := w) ?_).trans rfl
      refine (run_bind (a := z) (w' := w) (by unfold zeroValue; rw [run_bind (run_info hinf w), hz]; rfl)).trans ?_
      rw [run_bind (run_underlying hu w)]
      simp only
      have hpl : (F.mapM fun f => do pure (f.offset, ← sizeOf f.type) : Sem (Array (Nat × Nat))).run P w = .ok (F.toList.map fun f => (f.offset, szOf P f.type)).toArray w := by
        rw [Array.mapM_eq_mapM_toList, map_eq_pure_bind]
        exact (run_bind (f := fun a => pure a.toArray) (run_places F.toList hall)).trans rfl
      rw [run_bind hpl]
      have hplace : (fun (i : Nat) => (F.toList.map fun f => (f.offset, szOf P f.type)).toArray[i]?) = fun (i : Nat) => (fs[i]?).map fun (x : Nat × Nat × Bool) => (x.1, x.2.1) := by
        funext i
        simp only [hfs, List.getElem?_toArray, List.getElem?_map, Option.map_map]
        rfl
      rw [hplace]
      simp only [List.map_toArray, h1]
      rfl
    · exact hk.elim
  · exact hk.elim

/-! ### Smaller ones -/

theorem r_nil {P : Program} {o : Oper} {E : Operand → D} {H : Heap} {K : D → Heap → Prop} {x : Operand} (ho : o.op = .nilCheck x) (hk : cNil (E x) (K · H)) : Op1 P o E H K := by
  have h : K (E x) H ∧ ((∃ a, E x = .is (.pointer (some a))) ∨ (∃ r, E x = .pt r) ∨ ∃ t d, E x = .ifc t d) := by
    unfold cNil at hk
    split at hk
    · rename_i a he; exact ⟨hk, .inl ⟨a, he⟩⟩
    · rename_i r he; exact ⟨hk, .inr (.inl ⟨r, he⟩)⟩
    · rename_i t d he; exact ⟨hk, .inr (.inr ⟨t, d, he⟩)⟩
    · exact hk.elim
  refine Op1.value (d := E x) (fun w L0 ε hi hx => ?_) h.1
  have h1 := hx x (by simp [ho, Op.operands])
  refine ⟨ε x, ?_, h1⟩
  rcases h.2 with ⟨a, e⟩ | ⟨r, e⟩ | ⟨t, d, e⟩
  · rw [e] at h1
    have h1' : ε x = .pointer (some a) := h1
    simp only [execOp, ho, h1']
    rfl
  · rw [e, Rel] at h1
    obtain ⟨b, off, h1, _⟩ := h1
    simp only [execOp, ho, h1]
    rfl
  · rw [e, Rel] at h1
    obtain ⟨y, h1, _⟩ := h1
    simp only [execOp, ho, h1]
    rfl

def cField (f : Option (Nat × Nat × Bool)) (x : D) (K : D → Prop) : Prop :=
  match f, x with
  | some (off, sz, true), .agg l => off + sz ≤ l.length ∧ K (.agg ((l.drop off).take sz))
  | some (off, _, false), .agg l => ∃ d, l[off]? = some d ∧ K d
  | _, _ => False

def cLen (kd : Kd) (x : D) (K : D → Prop) : Prop :=
  match kd, x with
  | .slice .., .sl _ _ rows => K (.is (.int .i64 rows.length))
  | .slice .., .gs _ n => K (.is (.int .i64 n))
  | .slice .., .os _ _ n _ => K (.is (.int .i64 n))
  | .slice .., .is (.slice _ n _) => K (.is (.int .i64 n))
  | .str, .is (.string s) => K (.is (.int .i64 s.size))
  | _, _ => False

theorem kd_str {P : Program} (T : Tab P) {t : TypeId} (h : kdT (T.get t) = .str) : P.underlying t = some .string := by
  unfold kdT at h
  cases hkn : (T.get t).known with
  | false => rw [hkn] at h; cases h
  | true =>
    rw [hkn] at h
    obtain ⟨d, i, z, h1, h2, h3, h4, _⟩ := T.facts hkn
    simp only [h4] at h
    cases d with
    | slice e => simp only [kdOf] at h; cases hq : knOf P e <;> simp [hq] at h
    | array n e => simp only [kdOf] at h; cases hq : knOf P e <;> simp [hq] at h
    | struct fs => simp only [kdOf] at h; split at h <;> cases h
    | string => exact h1
    | _ => simp [kdOf] at h
theorem kd_int {P : Program} (T : Tab P) {t : TypeId} {k : IntKind} (h : kdT (T.get t) = .int k) : P.underlying t = some (.int k) := by
  unfold kdT at h
  cases hkn : (T.get t).known with
  | false => rw [hkn] at h; cases h
  | true =>
    rw [hkn] at h
    obtain ⟨d, i, z, h1, h2, h3, h4, _⟩ := T.facts hkn
    simp only [h4] at h
    cases d with
    | slice e => simp only [kdOf] at h; cases hq : knOf P e <;> simp [hq] at h
    | array n e => simp only [kdOf] at h; cases hq : knOf P e <;> simp [hq] at h
    | struct fs => simp only [kdOf] at h; split at h <;> cases h
    | int j => simp only [kdOf, Kd.int.injEq] at h; subst h; exact h1
    | _ => simp [kdOf] at h

theorem run_builtin {P : Program} {ε : Operand → Value} {o : Oper} {b : Builtin} {as : Array Operand} {tys : Array TypeId} {s : Sem Value} {v : Value} {w w' : World}
    (ho : o.op = .call ⟨.builtin b, as, tys⟩) (hb : builtin b tys o.type (as.map fun | .const _ => true | _ => false) (as.map ε) = (do pure (.value (← s))))
    (h : s.run P w = .ok v w') : (execOp ε o).run P w = .ok (.value v) w' := by
  simp only [execOp, ho, resolve, invoke]
  rw [run_bind (a := { target := .builtin b tys o.type (as.map fun | .const _ => true | _ => false), args := as.map ε }) (w' := w) rfl]
  simp only
  rw [hb, run_bind h]
  rfl

theorem len_slice {P : Program} {t e : TypeId} (hu : P.underlying t = some (.slice e)) (y : TypeId) (a : Option Addr) (n cap : Nat) (w : World) : (Builtin.len_ #[t] y #[.slice a n cap]).run P w = .ok (.int .i64 n) w := by
  simp only [Builtin.len_, List.getElem?_toArray, List.getElem?_cons_zero]
  rw [run_bind (run_underlying hu w)]
  rfl

theorem r_len {P : Program} (T : Tab P) {o : Oper} {E : Operand → D} {H : Heap} {K : D → Heap → Prop} {x : Operand} {t : TypeId} (ho : o.op = .call ⟨.builtin .len, #[x], #[t]⟩)
    (hk : cLen (kdT (T.get t)) (E x) (K · H)) : Op1 P o E H K := by
  have run : ∀ (w : World) (ε : Operand → Value) (v : Value) (n : Nat), ε x = v → (∀ y, (Builtin.len_ #[t] y #[v]).run P w = .ok (.int .i64 n) w) → (execOp ε o).run P w = .ok (.value (.int .i64 n)) w := by
    intro w ε v n h1 h2
    exact run_builtin ho (s := Builtin.len_ #[t] o.type (#[x].map ε)) rfl (by have := h2 o.type; rw [← h1] at this; simpa using this)
  unfold cLen at hk
  split at hk
  · rename_i e esz eb ea ez full esz' rows hkd hx0
    obtain ⟨hu, _⟩ := kd_slice T hkd
    refine Op1.value (d := .is (.int .i64 rows.length)) (fun w L0 ε hi hx => ?_) hk
    have h1 := hx x (by simp [ho, Op.operands, Call.operands])
    rw [hx0, Rel] at h1
    obtain ⟨a, cap, h1, _⟩ := h1
    exact ⟨_, run w ε _ rows.length h1 (fun y => len_slice hu y _ _ _ w), rfl⟩
  · rename_i e esz eb ea ez g n hkd hx0
    obtain ⟨hu, _⟩ := kd_slice T hkd
    refine Op1.value (d := .is (.int .i64 n)) (fun w L0 ε hi hx => ?_) hk
    have h1 := hx x (by simp [ho, Op.operands, Call.operands])
    rw [hx0, Rel] at h1
    cases g with
    | none =>
      obtain rfl : n = 0 := h1.2
      exact ⟨_, run w ε _ 0 h1.1 (fun y => len_slice hu y _ _ _ w), rfl⟩
    | some g => exact ⟨_, run w ε _ n h1.1 (fun y => len_slice hu y _ _ _ w), rfl⟩
  · rename_i e esz eb ea ez b off n cap hkd hx0
    obtain ⟨hu, _⟩ := kd_slice T hkd
    refine Op1.value (d := .is (.int .i64 n)) (fun w L0 ε hi hx => ?_) hk
    have h1 := hx x (by simp [ho, Op.operands, Call.operands])
    rw [hx0, Rel] at h1
    obtain ⟨o', h1, _⟩ := h1
    exact ⟨_, run w ε _ n h1 (fun y => len_slice hu y _ _ _ w), rfl⟩
  · rename_i e esz eb ea ez a n cap hkd hx0
    obtain ⟨hu, _⟩ := kd_slice T hkd
    refine Op1.value (d := .is (.int .i64 n)) (fun w L0 ε hi hx => ?_) hk
    have h1 := hx x (by simp [ho, Op.operands, Call.operands])
    rw [hx0, Rel] at h1
    exact ⟨_, run w ε _ n h1 (fun y => len_slice hu y _ _ _ w), rfl⟩
  · rename_i s hkd hx0
    have hu := kd_str T hkd
    refine Op1.value (d := .is (.int .i64 s.size)) (fun w L0 ε hi hx => ?_) hk
    have h1 := hx x (by simp [ho, Op.operands, Call.operands])
    rw [hx0, Rel] at h1
    exact ⟨_, run w ε _ s.size h1 (fun y => by
      simp only [Builtin.len_, List.getElem?_toArray, List.getElem?_cons_zero]
      rw [run_bind (run_underlying hu w)]; rfl), rfl⟩
  · exact hk.elim

end Go.Vc
