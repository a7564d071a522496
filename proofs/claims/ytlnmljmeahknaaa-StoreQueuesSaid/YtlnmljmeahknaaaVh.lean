/- What each operation makes of descriptors: new blocks, cells that are written. No condition. -/
import Derived.Test.YtlnmljmeahknaaaVg
namespace Go.Vc
set_option linter.unusedSimpArgs false
open Go
set_option linter.unusedVariables false

theorem alloc_old (w : World) (o : Obj) (k : Nat) (h : k < w.heap.size) : (w.alloc o).heap[k]? = w.heap[k]? := by
  show (w.heap.push o)[k]? = _
  rw [Array.getElem?_push, if_neg (by omega)]
theorem evo_alloc (w : World) (H : Heap) (o : Obj) (c : HC) : Evo w H (w.alloc o) ((w.heap.size, c) :: H) :=
  ⟨rfl, rfl, rfl, by simp, fun b hb _ => alloc_old w o b hb, fun b hb => by
    simp only [Heap.blocks, List.map_cons, List.mem_cons] at hb
    rcases hb with rfl | hb
    · exact .inr (Nat.le_refl _)
    · exact .inl hb⟩

/-- An operation that makes one block of one's own. -/
theorem Op1.new {P : Program} {o : Oper} {E : Operand → D} {H : Heap} {K : D → Heap → Prop} (cells : List D) (ty : TypeId) (n : Nat) (mk : Nat → Value) (d : Nat → D)
    (hd : ∀ w L b, Rel w L (d b) (mk b)) (hone : cells.all oneD = true)
    (h : ∀ (w : World) (L0 : Nat → Prop) (ε : Operand → Value), HInv w L0 H → (∀ x, x ∈ o.op.operands → Rel w (live H L0) (E x) (ε x)) →
      ∃ arr, (execOp ε o).run P w = .ok (.value (mk w.heap.size)) (w.alloc (.cells arr ty)) ∧ arr.size = n ∧ RelL w (live H L0) cells (arr.toList.take cells.length))
    (hk : ∀ b, b ∉ H.blocks → K (d b) ((b, .cells ty n cells) :: H)) : Op1 P o E H K := by
  refine ⟨fun d' H' => ∃ b, b ∉ H.blocks ∧ d' = d b ∧ H' = (b, .cells ty n cells) :: H, ?_, fun d' H' ⟨b, h1, h2, h3⟩ => h2 ▸ h3 ▸ hk b h1⟩
  intro w L0 ε hi hx
  obtain ⟨arr, hr, hn, hrel⟩ := h w L0 ε hi hx
  rw [hr]
  have hnew : (w.alloc (.cells arr ty)).heap[w.heap.size]? = some (.cells arr ty) := heap_alloc_new w _
  have hevo := evo_alloc w H (.cells arr ty) (.cells ty n cells)
  refine ⟨d w.heap.size, _, ⟨w.heap.size, fun hm => by have := hi.lt hm; omega, rfl, rfl⟩, hd _ _ _, ?_, hevo⟩
  exact HInv.new hi (by simp) (fun k hk => alloc_old w _ k hk) (Nat.le_refl _) ⟨hone, arr, hnew, hn, RelL.mono hevo.keeps _ _ hrel⟩

def cAlloc (t : TypeId) (ty : TyI) (H : Heap) (K : D → Heap → Prop) : Prop :=
  match ty.known with
  | true => (ty.zero.map constD).all oneD = true ∧ ∀ b, b ∉ H.blocks → K (.is (.pointer (some ⟨b, 0, none⟩))) ((b, .cells t ty.zero.length (ty.zero.map constD)) :: H)
  | false => False

theorem r_alloc {P : Program} (T : Tab P) {o : Oper} {E : Operand → D} {H : Heap} {K : D → Heap → Prop} {t : TypeId} (ho : o.op = .alloc t) (hk : cAlloc t (T.get t) H K) : Op1 P o E H K := by
  unfold cAlloc at hk
  split at hk
  · rename_i hkn
    obtain ⟨d, inf, z, hu, hinf, hz, _, _, hsz, hzl, hlen, _⟩ := T.facts hkn
    refine Op1.new ((T.get t).zero.map constD) t (T.get t).zero.length (fun b => .pointer (some ⟨b, 0, none⟩)) (fun b => .is (.pointer (some ⟨b, 0, none⟩))) (fun _ _ _ => rfl) hk.1 (fun w L0 ε hi hx => ?_) hk.2
    refine ⟨z.cells, ?_, by rw [← hzl, Array.length_toList], ?_⟩
    · simp only [execOp, ho, Instr.alloc]
      refine (run_bind (a := .pointer (some ⟨w.heap.size, 0, none⟩)) (w' := w.alloc (.cells z.cells t)) ?_).trans rfl
      refine (run_bind (a := z) (w' := w) (by unfold zeroValue; rw [run_bind (run_info hinf w), hz]; rfl)).trans ?_
      rfl
    · rw [List.length_map, ← hzl, List.take_length]
      exact constL_rel _ _ _
  · exact hk.elim

def cBox (t : TypeId) (x : D) (H : Heap) (K : D → Heap → Prop) : Prop :=
  match cellsD x with
  | some l => l.all oneD = true ∧ ∀ b, b ∉ H.blocks → K (.is (.pointer (some ⟨b, 0, none⟩))) ((b, .cells t l.length l) :: H)
  | none => False

theorem r_box {P : Program} {o : Oper} {E : Operand → D} {H : Heap} {K : D → Heap → Prop} {t : TypeId} {x : Operand} (ho : o.op = .box t x) (hk : cBox t (E x) H K) : Op1 P o E H K := by
  unfold cBox at hk
  split at hk
  · rename_i l hl
    refine Op1.new l t l.length (fun b => .pointer (some ⟨b, 0, none⟩)) (fun b => .is (.pointer (some ⟨b, 0, none⟩))) (fun _ _ _ => rfl) hk.1 (fun w L0 ε hi hx => ?_) hk.2
    have h1 := cellsD_spec hl (hx x (by simp [ho, Op.operands]))
    have h2 := RelL.length _ _ h1
    refine ⟨(ε x).cells, ?_, by rw [← h2, Array.length_toList], by rw [← h2, List.take_length]; exact h1⟩
    simp only [execOp, ho, Instr.box]
    rfl
  · exact hk.elim

/-! ### Stores -/

def cStore (sz : Nat) (a x : D) (H : Heap) (K : D → Heap → Prop) : Prop :=
  match a, cellsD x with
  | .is (.pointer (some ⟨b, o, none⟩)), some c =>
    match hget H b with
    | some (.cells ty n l) => (c.all oneD = true ∧ c.length = sz ∧ o + sz ≤ l.length) ∧ K (.is undef) (hset H b (.cells ty n (setL l o c)))
    | _ => False
  | _, _ => False

theorem setLV_split : ∀ (cs vs : List Value) (off : Nat), off + cs.length ≤ vs.length → setLV vs off cs = vs.take off ++ cs ++ vs.drop (off + cs.length)
  | [], vs, off, h => by simp [setLV]
  | c :: cs, vs, off, h => by
    simp only [List.length_cons] at h
    rw [setLV, setLV_split cs _ _ (by simp; omega)]
    apply List.ext_getElem?
    intro i
    simp only [List.getElem?_append, List.getElem?_take, List.getElem?_drop, List.length_append, List.length_take, List.length_set, List.getElem?_set, List.getElem?_cons, List.length_cons]
    grind

theorem all_setL : ∀ (cs l : List D) (off : Nat), l.all oneD = true → cs.all oneD = true → (setL l off cs).all oneD = true
  | [], l, off, h, _ => h
  | c :: cs, l, off, h, h' => by
    simp only [List.all_cons, Bool.and_eq_true] at h'
    refine all_setL cs _ _ ?_ h'.2
    rw [List.all_eq_true] at h ⊢
    intro x hx
    rcases List.mem_or_eq_of_mem_set hx with hx | hx
    · exact h x hx
    · exact hx ▸ h'.1

theorem run_storeVar {P : Program} {w : World} {t ty : TypeId} {i : TypeInfo} {b o n : Nat} {v : Value} {arr : Array Value} (hi : P.info? t = some i) (hs : v.cells.size = i.size)
    (hb : w.heap[b]? = some (.cells arr ty (0, 0))) (hfit : o + i.size ≤ arr.size) (h1 : ∀ u ∈ v.cells.toList, u.oneCell' = true) :
    (storeVar t ⟨b, o, none⟩ v).run P w = .ok () (w.setRow b (setLV arr.toList o v.cells.toList).toArray) := by
  unfold storeVar
  rw [run_bind (run_sz hi w), if_neg (by simpa using hs)]
  have := run_storeCells_at P b o ty v.cells.toList 0 arr w hb (by simp [hs]; omega) h1
  rw [this, setLV_split _ _ _ (by simp [hs]; omega)]
  simp

theorem evo_setRow {w : World} {H H' : Heap} {b : Nat} (hb : b ∈ H.blocks) (cs : Array Value) (h : H'.blocks = H.blocks) : Evo w H (w.setRow b cs) H' :=
  ⟨rfl, rfl, rfl, by simp [World.setRow], fun k _ hn => setRow_other w b k cs (fun e => hn (e ▸ hb)), fun k hk => .inl (h ▸ hk)⟩

theorem take_setLV (vs cs : List Value) (o n : Nat) (h : o + cs.length ≤ n) (h2 : n ≤ vs.length) : (setLV vs o cs).take n = setLV (vs.take n) o cs := by
  rw [setLV_split _ _ _ (by omega), setLV_split _ _ _ (by simp; omega)]
  apply List.ext_getElem?
  intro i
  simp only [List.getElem?_append, List.getElem?_take, List.getElem?_drop, List.length_append, List.length_take, List.length_drop]
  grind

theorem r_store {P : Program} (T : Tab P) {o : Oper} {E : Operand → D} {H : Heap} {K : D → Heap → Prop} {t : TypeId} {a x : Operand} (ho : o.op = .store t a x) (hkn : (T.get t).known = true)
    (hk : cStore (T.get t).size (E a) (E x) H K) : Op1 P o E H K := by
  obtain ⟨d, inf, z, hu, hinf, hz, _, _, hsz, hzl, hlen, _⟩ := T.facts hkn
  unfold cStore at hk
  split at hk
  · rename_i b off c ha hc
    split at hk
    · rename_i ty n l hg
      obtain ⟨⟨hone, hcl, hfit⟩, hk⟩ := hk
      have hm := hget_mem hg
      have hbm : b ∈ H.blocks := List.mem_map.2 ⟨_, hm, rfl⟩
      refine ⟨fun d' H' => d' = .is undef ∧ H' = hset H b (.cells ty n (setL l off c)), ?_, fun _ _ ⟨h1, h2⟩ => h1 ▸ h2 ▸ hk⟩
      intro w L0 ε hi hx
      have h1 := hx a (by simp [ho, Op.operands])
      have h2 := hx x (by simp [ho, Op.operands])
      rw [ha] at h1
      have h1' : ε a = .pointer (some ⟨b, off, none⟩) := h1
      have hcv := cellsD_spec hc h2
      have hclen := RelL.length _ _ hcv
      obtain ⟨hl1, arr, hb, hn, hrel⟩ := hi.rel _ _ hm
      have hll := RelL.length _ _ hrel
      simp only [List.length_take, Array.length_toList] at hll
      have hvs : (ε x).cells.size = inf.size := by rw [hsz, ← hcl, ← hclen, Array.length_toList]
      have hr := run_storeVar (P := P) (n := n) (o := off) hinf hvs hb (by rw [hsz]; omega) (RelL.one _ _ hone hcv)
      have hrun : (execOp ε o).run P w = .ok .skip (w.setRow b (setLV arr.toList off (ε x).cells.toList).toArray) := by
        simp only [execOp, ho, h1', Instr.storeAt]
        refine (run_bind (a := ()) (w' := w.setRow b (setLV arr.toList off (ε x).cells.toList).toArray) ?_).trans rfl
        rw [run_bind (a := (⟨b, off, none⟩ : Addr)) (w' := w) rfl]
        exact hr
      rw [hrun]
      have hevo : Evo w H (w.setRow b (setLV arr.toList off (ε x).cells.toList).toArray) (hset H b (.cells ty n (setL l off c))) := evo_setRow hbm _ (hset_blocks _ _ _)
      refine ⟨.is undef, _, ⟨rfl, rfl⟩, rfl, ?_, hevo⟩
      have hke : Keeps w (live H L0) (w.setRow b (setLV arr.toList off (ε x).cells.toList).toArray) (live H L0) := fun k hk1 hn => ⟨setRow_other w b k _ (fun e => hn (.inr (e ▸ hbm))), hn⟩
      refine HInv.set hi hbm (by simp [World.setRow]) (fun k hne hk1 => setRow_other w b k _ hne) ⟨all_setL _ _ _ hl1 hone, _, setRow_heap w b arr _ ty _ hb, ?_, ?_⟩
      · simp [setLV_length, hn]
      · rw [setL_length]
        simp only []
        rw [take_setLV _ _ _ _ (by rw [hclen]; omega) (by simp; omega)]
        exact RelL.setL _ _ _ _ _ (RelL.mono hke _ _ hrel) (RelL.mono hke _ _ hcv)
    · exact hk.elim
  · exact hk.elim

/-! ### New slices -/

def rowsOf (esz : Nat) : Nat → List D → List (List D)
  | 0, _ => []
  | n + 1, l => l.take esz :: rowsOf esz n (l.drop esz)

theorem rowsOf_length (esz : Nat) : ∀ (n : Nat) (l : List D), (rowsOf esz n l).length = n
  | 0, _ => rfl
  | n + 1, l => by rw [rowsOf, List.length_cons, rowsOf_length]

/-- Cells of a block that nothing writes any more, as cells that are read. -/
theorem CellsAt.of {w : World} {L : Nat → Prop} {b : Nat} (hb : ¬ L b) : ∀ (l : List D) (vs : List Value) (o : Nat), l.all oneD = true → RelL w L l vs → (∀ (j : Nat) v, vs[j]? = some v → w.cell? ⟨b, o + j, none⟩ = some v) → CellsAt w L l b o
  | [], _, _, _, _, _ => trivial
  | d :: ds, vs, o, h1, h, hc => by
    rw [RelL] at h
    obtain ⟨v, r, rfl, h2, h3⟩ := h
    simp only [List.all_cons, Bool.and_eq_true] at h1
    refine ⟨hb, ⟨h1.1, v, by simpa using hc 0 v rfl, h2⟩, CellsAt.of hb ds r (o + 1) h1.2 h3 fun j u hu => ?_⟩
    have := hc (j + 1) u (by simpa using hu)
    rwa [show o + (j + 1) = o + 1 + j by omega] at this

theorem RowsAt.of {w : World} {L : Nat → Prop} {b esz : Nat} (hb : ¬ L b) : ∀ (n : Nat) (l : List D) (vs : List Value) (o : Nat), n * esz ≤ l.length → l.all oneD = true → RelL w L l vs →
    (∀ (j : Nat) v, vs[j]? = some v → w.cell? ⟨b, o + j, none⟩ = some v) → RowsAt w L esz (rowsOf esz n l) b o
  | 0, _, _, _, _, _, _, _ => trivial
  | n + 1, l, vs, o, hlen, h1, h, hc => by
    have he : (n + 1) * esz = n * esz + esz := by rw [Nat.add_mul]; omega
    refine ⟨by rw [List.length_take]; omega, CellsAt.of hb _ _ _ (all_take h1 _) (RelL.take esz _ _ h) fun j v hv => ?_, RowsAt.of hb n _ _ _ (by rw [List.length_drop]; omega) (all_drop h1 _) (RelL.drop esz _ _ h) fun j v hv => ?_⟩
    · rw [List.getElem?_take] at hv
      split at hv
      · exact hc j v hv
      · cases hv
    · rw [List.getElem?_drop] at hv
      have := hc _ v hv
      rwa [show o + (esz + j) = o + esz + j by omega] at this

def cBuildSlice (kd : Kd) (n : Nat) (parts : List (Nat × D)) (H : Heap) (K : D → Heap → Prop) : Prop :=
  match kd with
  | .slice e esz _ _ ez =>
    match fillD (fun i => some (i * esz, esz)) ((List.replicate n (ez.map constD)).flatten) parts with
    | some l => (l.all oneD = true ∧ n * esz ≤ 16777216) ∧ K (.sl true esz (rowsOf esz n l)) H
    | none => False
  | _ => False

end Go.Vc
