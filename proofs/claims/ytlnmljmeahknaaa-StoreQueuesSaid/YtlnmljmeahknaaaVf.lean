/- What each operation makes of descriptors: addresses, parts, cells that are read. No condition. -/
import Derived.Test.YtlnmljmeahknaaaVe
namespace Go.Vc
set_option linter.unusedSimpArgs false
open Go
set_option linter.unusedVariables false

/-! ### The heap's list -/

def hget : Heap → Nat → Option HC
  | [], _ => none
  | (k, c) :: r, b => bif k == b then some c else hget r b
def hset : Heap → Nat → HC → Heap
  | [], _, _ => []
  | (k, c0) :: r, b, c => bif k == b then (k, c) :: r else (k, c0) :: hset r b c
def hdel : Heap → Nat → Heap
  | [], _ => []
  | (k, c0) :: r, b => bif k == b then r else (k, c0) :: hdel r b

theorem hget_mem : ∀ {H : Heap} {b : Nat} {c : HC}, hget H b = some c → (b, c) ∈ H
  | [], b, c, h => by simp [hget] at h
  | (k, c0) :: r, b, c, h => by
    simp only [hget] at h
    by_cases e : k = b
    · subst e; simp at h; subst h; exact List.mem_cons_self ..
    · have : (k == b) = false := by simpa using e
      rw [this] at h
      exact List.mem_cons_of_mem _ (hget_mem h)

theorem hset_blocks : ∀ (H : Heap) (b : Nat) (c : HC), (hset H b c).blocks = H.blocks
  | [], b, c => rfl
  | (k, c0) :: r, b, c => by
    simp only [hset]
    by_cases e : k = b
    · have : (k == b) = true := by simpa using e
      rw [this]; rfl
    · have : (k == b) = false := by simpa using e
      rw [this]
      simp only [cond_false, Heap.blocks, List.map_cons]
      congr 1
      exact hset_blocks r b c

theorem hset_mem : ∀ {H : Heap} {b : Nat} {c : HC} {k : Nat} {c' : HC}, H.blocks.Nodup → (k, c') ∈ hset H b c → (k = b ∧ c' = c) ∨ (k ≠ b ∧ (k, c') ∈ H)
  | [], b, c, k, c', _, h => by simp [hset] at h
  | (k0, c0) :: r, b, c, k, c', hn, h => by
    simp only [Heap.blocks, List.map_cons, List.nodup_cons] at hn
    simp only [hset] at h
    by_cases e : k0 = b
    · have e' : (k0 == b) = true := by simpa using e
      rw [e'] at h
      rcases List.mem_cons.1 h with h | h
      · cases h; exact .inl ⟨e, rfl⟩
      · refine .inr ⟨fun hk => hn.1 ?_, List.mem_cons_of_mem _ h⟩
        rw [e, ← hk]; exact List.mem_map.2 ⟨_, h, rfl⟩
    · have e' : (k0 == b) = false := by simpa using e
      rw [e'] at h
      rcases List.mem_cons.1 h with h | h
      · cases h; exact .inr ⟨e, List.mem_cons_self ..⟩
      · exact (hset_mem hn.2 h).imp id fun ⟨h1, h2⟩ => ⟨h1, List.mem_cons_of_mem _ h2⟩

theorem HInv.lt {w : World} {L0 : Nat → Prop} {H : Heap} (hi : HInv w L0 H) {b : Nat} (hb : b ∈ H.blocks) : b < w.heap.size := by
  obtain ⟨⟨b', c⟩, hm, rfl⟩ := List.mem_map.1 hb
  have := hi.rel _ _ hm
  cases c with
  | cells ty n l =>
    obtain ⟨_, arr, h1, _⟩ := this
    rcases Nat.lt_or_ge b' w.heap.size with h' | h'
    · exact h'
    · simp [Array.getElem?_eq_none h'] at h1
  | iter s pos =>
    rcases Nat.lt_or_ge b' w.heap.size with h' | h'
    · exact h'
    · have h1 : w.heap[b']? = _ := this
      simp [Array.getElem?_eq_none h'] at h1

theorem live_eq {H H' : Heap} (h : H'.blocks = H.blocks) (L0 : Nat → Prop) : live H' L0 = live H L0 := by
  funext b; simp only [live, h]

/-- One block of one's own has been written. -/
theorem HInv.set {w w' : World} {L0 : Nat → Prop} {H : Heap} {b : Nat} {c : HC} (hi : HInv w L0 H) (hb : b ∈ H.blocks) (hs : w.heap.size ≤ w'.heap.size) (hk : ∀ k, k ≠ b → k < w.heap.size → w'.heap[k]? = w.heap[k]?)
    (hr : HRel w' (live H L0) b c) : HInv w' L0 (hset H b c) := by
  have hl := live_eq (hset_blocks H b c) L0
  have keeps : Keeps w (live H L0) w' (live H L0) := fun k hk1 hn => ⟨hk k (fun e => hn (.inr (e ▸ hb))) hk1, hn⟩
  refine { rel := fun k c' hm => ?_, nodup := by rw [hset_blocks]; exact hi.nodup, apart := fun k hm => hi.apart k (by rwa [hset_blocks] at hm), old := fun k h => Nat.lt_of_lt_of_le (hi.old k h) hs }
  rw [hl]
  rcases hset_mem hi.nodup hm with ⟨rfl, rfl⟩ | ⟨hne, hm⟩
  · exact hr
  · exact (hi.rel k c' hm).mono keeps (hk k hne (hi.lt (List.mem_map.2 ⟨_, hm, rfl⟩)))

/-- A new block. -/
theorem HInv.new {w w' : World} {L0 : Nat → Prop} {H : Heap} {c : HC} (hi : HInv w L0 H) (hs : w.heap.size ≤ w'.heap.size) (hk : ∀ k, k < w.heap.size → w'.heap[k]? = w.heap[k]?)
    {b : Nat} (hb : w.heap.size ≤ b) (hr : HRel w' (live ((b, c) :: H) L0) b c) : HInv w' L0 ((b, c) :: H) := by
  have keeps : Keeps w (live H L0) w' (live ((b, c) :: H) L0) := fun k hk1 hn => ⟨hk k hk1, fun hl => by
    rcases hl with hl | hl
    · exact hn (.inl hl)
    · simp only [Heap.blocks, List.map_cons, List.mem_cons] at hl
      rcases hl with hl | hl
      · omega
      · exact hn (.inr hl)⟩
  have hne : ∀ k, k ∈ H.blocks → k ≠ b := fun k hm e => by have := hi.lt hm; omega
  refine { rel := fun k c' hm => ?_, nodup := ?_, apart := fun k hm => ?_, old := fun k h => Nat.lt_of_lt_of_le (hi.old k h) hs }
  · rcases List.mem_cons.1 hm with hm | hm
    · cases hm; exact hr
    · exact (hi.rel k c' hm).mono keeps (hk k (hi.lt (List.mem_map.2 ⟨_, hm, rfl⟩)))
  · simp only [Heap.blocks, List.map_cons, List.nodup_cons]
    exact ⟨fun hm => hne b hm rfl, hi.nodup⟩
  · simp only [Heap.blocks, List.map_cons, List.mem_cons] at hm
    rcases hm with rfl | hm
    · exact fun h => by have := hi.old _ h; omega
    · exact hi.apart k hm

/-! ### Loads -/

/-- The address within a block of one's own. -/
def cLoad (ty : TyI) (a : D) (H : Heap) (K : D → Prop) : Prop :=
  match ty.known with
  | false => False
  | true =>
    match a with
    | .is (.pointer (some ⟨b, o, none⟩)) =>
      match hget H b with
      | some (.cells _ _ l) =>
        match ty.agg with
        | true => o + ty.size ≤ l.length ∧ K (.agg ((l.drop o).take ty.size))
        | false => ∃ d, l[o]? = some d ∧ K d
      | _ => False
    | .pt row =>
      match ty.agg with
      | true => ty.size ≤ row.length ∧ K (.agg (row.take ty.size))
      | false => ∃ d, row[0]? = some d ∧ K d
    | _ => False

theorem all_take {l : List D} (h : l.all oneD = true) (n : Nat) : (l.take n).all oneD = true := by
  rw [List.all_eq_true] at h ⊢
  exact fun x hx => h x (List.mem_of_mem_take hx)
theorem all_drop {l : List D} (h : l.all oneD = true) (n : Nat) : (l.drop n).all oneD = true := by
  rw [List.all_eq_true] at h ⊢
  exact fun x hx => h x (List.mem_of_mem_drop hx)

theorem CellsAt.all {w : World} {L : Nat → Prop} : ∀ (l : List D) (b o : Nat), CellsAt w L l b o → l.all oneD = true
  | [], _, _, _ => rfl
  | d :: ds, b, o, h => by
    rw [CellsAt] at h
    simp [h.2.1.1, CellsAt.all ds b (o + 1) h.2.2]

theorem HRel.cell {w : World} {b n : Nat} {ty : TypeId} {l : List D} {L : Nat → Prop} (h : HRel w L b (.cells ty n l)) {o : Nat} {d : D} (hd : l[o]? = some d) :
    ∃ v, w.cell? ⟨b, o, none⟩ = some v ∧ Rel w L d v := by
  obtain ⟨cs, h1, h2⟩ := HRel.cells h
  obtain ⟨v, h3, h4⟩ := RelL.get _ _ h1 o d hd
  exact ⟨v, h2 o v h3, h4⟩

theorem r_load {P : Program} (T : Tab P) {o : Oper} {E : Operand → D} {H : Heap} {K : D → Heap → Prop} {t : TypeId} {x : Operand} (ho : o.op = .load t x) (hk : cLoad (T.get t) (E x) H (K · H)) : Op1 P o E H K := by
  have run : ∀ (ε : Operand → Value) (w : World) (ad : Addr) (v : Value), ε x = .pointer (some ad) → (loadVar t ad).run P w = .ok v w → (execOp ε o).run P w = .ok (.value v) w := by
    intro ε w ad v h1 h2
    simp only [execOp, ho, h1, Instr.loadAt]
    rw [run_bind (a := v) (w' := w) (by rw [run_bind (a := ad) (w' := w) rfl]; exact h2)]
    rfl
  unfold cLoad at hk
  split at hk
  · exact hk.elim
  rename_i hkn
  obtain ⟨d, i, z, hu, hinfo, hz, hkd, hagg, hsz, hzl, hlen, _⟩ := T.facts hkn
  split at hk
  · rename_i b off hx0
    split at hk
    · rename_i ty n l hg
      have hm := hget_mem hg
      split at hk
      · rename_i hag
        obtain ⟨hle, hk⟩ := hk
        refine Op1.value (fun w L0 ε hi hx => ?_) hk
        have h1 := hx x (by simp [ho, Op.operands])
        rw [hx0] at h1
        obtain ⟨cs, h2, h3⟩ := HRel.cells (hi.rel _ _ hm)
        have h4 : RelL w (live H L0) ((l.drop off).take (T.get t).size) ((cs.drop off).take (T.get t).size) := RelL.take _ _ _ (RelL.drop _ _ _ h2)
        have h5 := RelL.length _ _ h4
        refine ⟨.agg ((cs.drop off).take (T.get t).size).toArray, run ε w _ _ h1 (run_loadVar_cells _ hu hinfo ?_ ?_ (by rw [hagg, hag])), ?_, _, rfl, by simpa using h4⟩
        · rw [hsz, h5, List.length_take, List.length_drop]; omega
        · intro j v hv
          rw [List.getElem?_take] at hv
          split at hv
          · rw [List.getElem?_drop] at hv; exact h3 _ _ hv
          · cases hv
        · exact all_take (all_drop (hi.rel _ _ hm).1 _) _
      · rename_i hag
        obtain ⟨d0, hd0, hk⟩ := hk
        refine Op1.value (fun w L0 ε hi hx => ?_) hk
        have h1 := hx x (by simp [ho, Op.operands])
        rw [hx0] at h1
        obtain ⟨v, h2, h3⟩ := HRel.cell (hi.rel _ _ hm) hd0
        exact ⟨v, run ε w _ _ h1 (run_loadVar_cell hu h2 (by rw [hagg, hag])), h3⟩
    · exact hk.elim
  · rename_i row hx0
    split at hk
    · rename_i hag
      obtain ⟨hle, hk⟩ := hk
      refine Op1.value (fun w L0 ε hi hx => ?_) hk
      have h1 := hx x (by simp [ho, Op.operands])
      rw [hx0, Rel] at h1
      obtain ⟨b, off, h1, h2⟩ := h1
      have h2' := CellsAt.take (T.get t).size _ _ _ h2
      obtain ⟨cs, h4, h3⟩ := CellsAt.values _ _ _ h2'
      have h5 := RelL.length _ _ h4
      refine ⟨.agg cs.toArray, run ε w _ _ h1 (run_loadVar_cells _ hu hinfo ?_ h3 (by rw [hagg, hag])), CellsAt.all _ _ _ h2', _, rfl, by simpa using h4⟩
      rw [hsz, h5, List.length_take]; omega
    · rename_i hag
      obtain ⟨d0, hd0, hk⟩ := hk
      refine Op1.value (fun w L0 ε hi hx => ?_) hk
      have h1 := hx x (by simp [ho, Op.operands])
      rw [hx0, Rel] at h1
      obtain ⟨b, off, h1, h2⟩ := h1
      obtain ⟨_, _, v, h3, h4⟩ := CellsAt.get _ _ _ h2 0 d0 hd0
      exact ⟨v, run ε w _ _ h1 (run_loadVar_cell hu (by simpa using h3) (by rw [hagg, hag])), h4⟩
  · exact hk.elim

/-! ### Addresses -/

/-- A field: its place, its size, whether it is an aggregate. -/
def fieldAt (kd : Kd) (f : Nat) : Option (Nat × Nat × Bool) := match kd with | .struct fs => fs[f]? | _ => none

def kdT (ty : TyI) : Kd := match ty.known with | true => ty.kd | false => .other

theorem kd_struct {P : Program} (T : Tab P) {t : TypeId} {f : Nat} {x : Nat × Nat × Bool} (h : fieldAt (kdT (T.get t)) f = some x) :
    ∃ fs fd, P.underlying t = some (.struct fs) ∧ fs[f]? = some fd ∧ fd.offset = x.1 ∧ szOf P fd.type = x.2.1 ∧ aggOf P fd.type = x.2.2 ∧ knOf P fd.type = true := by
  unfold kdT at h
  cases hkn : (T.get t).known with
  | false => rw [hkn] at h; cases h
  | true =>
    rw [hkn] at h
    obtain ⟨d, i, z, h1, h2, h3, h4, _⟩ := T.facts hkn
    simp only [h4] at h
    cases d with
    | struct fs =>
      simp only [kdOf] at h
      cases hq : fs.toList.all (fun f => knOf P f.type) with
      | false => rw [hq] at h; simp [fieldAt] at h
      | true =>
      rw [hq] at h
      simp only [fieldAt] at h
      rw [List.getElem?_map] at h
      cases hf : fs.toList[f]? with
      | none => rw [hf] at h; cases h
      | some fd =>
        rw [hf] at h
        simp only [Option.map_some, Option.some.injEq] at h
        subst h
        exact ⟨fs, fd, h1, by simpa using hf, rfl, rfl, rfl, by
          rw [List.all_eq_true] at hq
          exact hq fd (List.mem_of_getElem? hf)⟩
    | slice e => simp only [kdOf] at h; cases hq : knOf P e <;> simp [hq, fieldAt] at h
    | array n e => simp only [kdOf] at h; cases hq : knOf P e <;> simp [hq, fieldAt] at h
    | _ => simp [kdOf, fieldAt] at h

def cFieldAddr (f : Option (Nat × Nat × Bool)) (a : D) (K : D → Prop) : Prop :=
  match f with
  | some (off, sz, _) =>
    match sz with
    | 0 => False
    | _ + 1 =>
      match a with
      | .is (.pointer (some ⟨b, o, none⟩)) => K (.is (.pointer (some ⟨b, o + off, none⟩)))
      | .pt row => K (.pt (row.drop off))
      | _ => False
  | none => False

theorem r_fieldAddr {P : Program} (T : Tab P) {o : Oper} {E : Operand → D} {H : Heap} {K : D → Heap → Prop} {t : TypeId} {x : Operand} {f : Nat} (ho : o.op = .fieldAddr t x f)
    (hk : cFieldAddr (fieldAt (kdT (T.get t)) f) (E x) (K · H)) : Op1 P o E H K := by
  unfold cFieldAddr at hk
  split at hk
  · rename_i off sz ag hf
    obtain ⟨fs, fd, hu, hfd, h1, h2, h3, h3'⟩ := kd_struct T hf
    clear h3 h3'
    simp only at h1 h2
    split at hk
    · exact hk.elim
    · rename_i sz
      have run : ∀ (ε : Operand → Value) (w : World) (b a : Nat), ε x = .pointer (some ⟨b, a, none⟩) → (execOp ε o).run P w = .ok (.value (.pointer (some ⟨b, a + off, none⟩))) w := by
        intro ε w b a hx
        have hi : ∃ i, P.info? fd.type = some i ∧ i.size = sz + 1 := by
          unfold szOf at h2
          cases hi : P.info? fd.type with
          | none => rw [hi] at h2; simp at h2
          | some i => rw [hi] at h2; exact ⟨i, rfl, by simpa using h2⟩
        obtain ⟨i, hi, hs⟩ := hi
        simp only [execOp, ho, hx, Instr.fieldAt]
        refine (run_bind (a := .pointer (some ⟨b, a + off, none⟩)) (w' := w) ?_).trans rfl
        rw [run_bind (run_underlying hu w)]
        simp only [hfd]
        refine (run_bind (a := (⟨b, a, none⟩ : Addr)) (w' := w) rfl).trans ?_
        refine (run_bind (a := (⟨b, a + off, none⟩ : Addr)) (w' := w) ?_).trans rfl
        unfold fieldPlace
        rw [run_bind (run_sz hi w), hs, if_neg (by omega), h1, add0]
        rfl
      split at hk
      · rename_i b a hx0
        refine Op1.value (d := .is (.pointer (some ⟨b, a + off, none⟩))) (fun w L0 ε hi hx => ?_) hk
        have h1 := hx x (by simp [ho, Op.operands])
        rw [hx0] at h1
        exact ⟨_, run ε w b a h1, rfl⟩
      · rename_i row hx0
        refine Op1.value (d := .pt (row.drop off)) (fun w L0 ε hi hx => ?_) hk
        have h1 := hx x (by simp [ho, Op.operands])
        rw [hx0, Rel] at h1
        obtain ⟨b, a, h1, h2⟩ := h1
        exact ⟨_, run ε w b a h1, b, a + off, rfl, CellsAt.drop _ _ _ _ h2⟩
      · exact hk.elim
  · exact hk.elim

/-- An element's address. -/
def cIndexAddr (kd : Kd) (x i : D) (K : D → Prop) : Prop :=
  match kd, i with
  | .slice _ esz _ _ _, .is (.int _ n) =>
    match x with
    | .sl _ esz' rows => (0 ≤ n ∧ n < rows.length) ∧ ∃ r, rows[n.toNat]? = some r ∧ esz' = esz ∧ K (.pt r)
    | .gs (some (b, cap)) len => (0 ≤ n ∧ n < len) ∧ K (.is (.pointer (some ⟨b, n.toNat * esz, none⟩)))
    | _ => False
  | _, _ => False

theorem kd_slice {P : Program} (T : Tab P) {t e : TypeId} {esz eb : Nat} {ea : Bool} {ez : List Value} (h : kdT (T.get t) = .slice e esz eb ea ez) :
    P.underlying t = some (.slice e) ∧ knOf P e = true ∧ szOf P e = esz ∧ btOf P e = eb ∧ aggOf P e = ea ∧ zeroOf P e = ez := by
  unfold kdT at h
  cases hkn : (T.get t).known with
  | false => rw [hkn] at h; cases h
  | true =>
    rw [hkn] at h
    obtain ⟨d, i, z, h1, h2, h3, h4, _⟩ := T.facts hkn
    simp only [h4] at h
    cases d with
    | slice e' =>
      simp only [kdOf] at h
      cases hq : knOf P e' with
      | false => simp [hq] at h
      | true =>
        simp only [hq, Kd.slice.injEq] at h
        obtain ⟨rfl, rfl, rfl, rfl, rfl⟩ := h
        exact ⟨h1, hq, rfl, rfl, rfl, rfl⟩
    | array n e => simp only [kdOf] at h; cases hq : knOf P e <;> simp [hq] at h
    | struct fs => simp only [kdOf] at h; split at h <;> cases h
    | _ => simp [kdOf] at h

theorem r_indexAddr {P : Program} (T : Tab P) {o : Oper} {E : Operand → D} {H : Heap} {K : D → Heap → Prop} {t : TypeId} {x i : Operand} (ho : o.op = .indexAddr t x i)
    (hk : cIndexAddr (kdT (T.get t)) (E x) (E i) (K · H)) : Op1 P o E H K := by
  unfold cIndexAddr at hk
  split at hk
  · rename_i e esz eb ea ez ik n hkd hi0
    obtain ⟨hu, hkn, hsz, _⟩ := kd_slice T hkd
    obtain ⟨d, inf, z, h1, h2, h3, h4, _⟩ := knOf_facts hkn
    rw [hsz] at h4
    have run : ∀ (ε : Operand → Value) (w : World) (b a len cap : Nat), ε x = .slice (some ⟨b, a, none⟩) len cap → ε i = .int ik n → 0 ≤ n → n < len →
        (execOp ε o).run P w = .ok (.value (.pointer (some ⟨b, a + n.toNat * esz, none⟩))) w := by
      intro ε w b a len cap hx hi hn1 hn2
      simp only [execOp, ho, hx, hi, Instr.indexAt]
      refine (run_bind (a := .pointer (some ⟨b, a + n.toNat * esz, none⟩)) (w' := w) ?_).trans rfl
      refine (run_bind (a := (ik, n)) (w' := w) rfl).trans ?_
      simp only
      rw [run_bind (run_underlying hu w)]
      simp only
      refine (run_bind (a := (some (⟨b, a, none⟩ : Addr), len, e)) (w' := w) rfl).trans ?_
      simp only
      rw [run_bind (run_underlying hu w)]
      simp only
      rw [if_pos ⟨hn1, hn2⟩, run_bind (run_sz h2 w), h4, add0]
      rfl
    split at hk
    · rename_i full esz' rows hx0
      obtain ⟨⟨hn1, hn2⟩, r, hr, rfl, hk⟩ := hk
      refine Op1.value (d := .pt r) (fun w L0 ε hi hx => ?_) hk
      have h1 := hx x (by simp [ho, Op.operands])
      have h2 := hx i (by simp [ho, Op.operands])
      rw [hx0, Rel] at h1
      rw [hi0] at h2
      obtain ⟨a, cap, hv, _, _, hrows⟩ := h1
      rcases hrows with h | ⟨b, off, rfl, hrows⟩
      · subst h; simp at hr
      · obtain ⟨_, hc⟩ := RowsAt.get _ _ _ hrows n.toNat r hr
        exact ⟨_, run ε w b off _ cap hv h2 hn1 hn2, b, _, rfl, hc⟩
    · rename_i b cap len hx0
      obtain ⟨⟨hn1, hn2⟩, hk⟩ := hk
      refine Op1.value (d := .is (.pointer (some ⟨b, n.toNat * esz, none⟩))) (fun w L0 ε hi hx => ?_) hk
      have h1 := hx x (by simp [ho, Op.operands])
      have h2 := hx i (by simp [ho, Op.operands])
      rw [hx0, Rel] at h1
      rw [hi0] at h2
      refine ⟨_, run ε w b 0 len cap h1.1 h2 hn1 hn2, ?_⟩
      rw [Nat.zero_add]; rfl
    · exact hk.elim
  · exact hk.elim

/-! ### Parts of values -/

def cExtract (x : D) (i : Nat) (K : D → Prop) : Prop :=
  match x with
  | .tup l => ∃ d, l[i]? = some d ∧ K d
  | _ => False

theorem r_extract {P : Program} {o : Oper} {E : Operand → D} {H : Heap} {K : D → Heap → Prop} {x : Operand} {i : Nat} (ho : o.op = .extract x i) (hk : cExtract (E x) i (K · H)) : Op1 P o E H K := by
  unfold cExtract at hk
  split at hk
  · rename_i l hx0
    obtain ⟨d, hd, hk⟩ := hk
    refine Op1.value (d := d) (fun w L0 ε hi hx => ?_) hk
    have h1 := hx x (by simp [ho, Op.operands])
    rw [hx0, Rel] at h1
    obtain ⟨cs, h1, h2⟩ := h1
    obtain ⟨v, h3, h4⟩ := RelL.get _ _ h2 i d hd
    refine ⟨v, ?_, h4⟩
    have h3' : cs[i]? = some v := by simpa using h3
    simp only [execOp, ho, h1, Instr.extract, h3']
    rfl
  · exact hk.elim

def cNil (x : D) (K : D → Prop) : Prop :=
  match x with
  | .is (.pointer (some a)) => K x
  | .pt row => K x
  | .ifc t d => K x
  | _ => False

end Go.Vc
