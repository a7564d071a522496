/- What append and copy make of descriptors. No condition. -/
import Derived.Test.YtlnmljmeahknaaaVi
namespace Go.Vc
set_option linter.unusedSimpArgs false
open Go
set_option linter.unusedVariables false

/-- The heap, with the block of a slice of one's own at its head. -/
def shp (g : Option (Nat × Nat)) (e : TypeId) (esz : Nat) (l : List D) (H0 : Heap) : Heap :=
  match g with
  | none => H0
  | some (b, cap) => (b, .cells e (cap * esz) l) :: H0

/-- The cells of a slice that is read. -/
def srcOk (esz : Nat) (x : D) (H : Heap) (news : List D) (m : Nat) : Prop :=
  match x with
  | .sl _ esz' rows => esz' = esz ∧ news = rows.flatten ∧ m = rows.length
  | .gs none _ => news = [] ∧ m = 0
  | .gs (some (b, _)) n => ∃ ty k l, hget H b = some (.cells ty k l) ∧ n * esz ≤ l.length ∧ news = l.take (n * esz) ∧ m = n
  | .os b o n _ => ∃ ty k l, hget H b = some (.cells ty k l) ∧ o + n * esz ≤ l.length ∧ news = (l.drop o).take (n * esz) ∧ m = n
  | _ => False

theorem RowsAt.values {w : World} {L : Nat → Prop} {esz : Nat} : ∀ (l : List (List D)) (b o : Nat), RowsAt w L esz l b o →
    l.flatten.all oneD = true ∧ l.flatten.length = l.length * esz ∧ ∃ cs : List Value, RelL w L l.flatten cs ∧ ∀ (j : Nat) v, cs[j]? = some v → w.cell? ⟨b, o + j, none⟩ = some v
  | [], b, o, _ => ⟨rfl, by simp, [], rfl, fun j v hv => by simp at hv⟩
  | r :: rs, b, o, h => by
    rw [RowsAt] at h
    obtain ⟨h1, h2, h3⟩ := h
    obtain ⟨c1, hc1, hv1⟩ := CellsAt.values _ _ _ h2
    obtain ⟨a2, l2, c2, hc2, hv2⟩ := RowsAt.values rs b (o + esz) h3
    have hlen := RelL.length _ _ hc1
    refine ⟨?_, ?_, c1 ++ c2, by rw [List.flatten_cons]; exact RelL.append _ _ _ _ hc1 hc2, fun j v hv => ?_⟩
    · rw [List.flatten_cons, List.all_append, CellsAt.all _ _ _ h2, a2]; rfl
    · rw [List.flatten_cons, List.length_append, l2, h1, List.length_cons, Nat.add_mul]; omega
    · rw [List.getElem?_append] at hv
      split at hv
      · exact hv1 j v hv
      · have := hv2 _ v hv
        rwa [show o + esz + (j - c1.length) = o + j by omega] at this

theorem src_spec {w : World} {L0 : Nat → Prop} {H : Heap} (hi : HInv w L0 H) {esz m : Nat} {x : D} {news : List D} {v : Value} (h : srcOk esz x H news m) (hr : Rel w (live H L0) x v) :
    ∃ nv : List Value, RelL w (live H L0) news nv ∧ news.all oneD = true ∧ news.length = m * esz ∧
      ((m = 0 ∧ v = .slice none 0 0) ∨ ∃ ad c, v = .slice (some ad) m c ∧ ∀ (j : Nat) u, nv[j]? = some u → w.cell? (ad.add j) = some u) := by
  cases x with
  | sl full esz' rows =>
    obtain ⟨rfl, rfl, rfl⟩ := h
    rw [Rel] at hr
    obtain ⟨a, cap, rfl, hcap, _, hrows⟩ := hr
    rcases hrows with rfl | ⟨b, o, rfl, hrows⟩
    · refine ⟨[], rfl, rfl, by simp, ?_⟩
      cases a with
      | none => have := hcap.2 rfl; subst this; exact .inl ⟨rfl, rfl⟩
      | some ad => exact .inr ⟨ad, cap, rfl, fun j u hu => by simp at hu⟩
    · obtain ⟨h1, h2, cs, h3, h4⟩ := RowsAt.values _ _ _ hrows
      exact ⟨cs, h3, h1, h2, .inr ⟨_, cap, rfl, fun j u hu => by rw [add0]; exact h4 j u hu⟩⟩
  | gs g n =>
    rw [Rel] at hr
    obtain ⟨rfl, hn⟩ := hr
    cases g with
    | none =>
      obtain ⟨rfl, rfl⟩ := h
      exact ⟨[], rfl, rfl, by simp, .inl ⟨rfl, rfl⟩⟩
    | some g =>
      obtain ⟨b, cap⟩ := g
      obtain ⟨ty, k, l, hg, hle, rfl, rfl⟩ := h
      have hrel := hi.rel _ _ (hget_mem hg)
      obtain ⟨cs, h1, h2⟩ := HRel.cells hrel
      refine ⟨cs.take (m * esz), RelL.take _ _ _ h1, all_take hrel.1 _, by rw [List.length_take]; omega, .inr ⟨_, cap, rfl, fun j u hu => ?_⟩⟩
      rw [List.getElem?_take] at hu
      split at hu
      · rw [add0, Nat.zero_add]; exact h2 j u hu
      · cases hu
  | os b o n cap =>
    rw [Rel] at hr
    obtain ⟨o', rfl, hnc, ho⟩ := hr
    obtain ⟨ty, k, l, hg, hle, rfl, rfl⟩ := h
    have hrel := hi.rel _ _ (hget_mem hg)
    obtain ⟨cs, h1, h2⟩ := HRel.cells hrel
    refine ⟨(cs.drop o).take (m * esz), RelL.take _ _ _ (RelL.drop _ _ _ h1), all_take (all_drop hrel.1 _) _, by rw [List.length_take, List.length_drop]; omega, .inr ⟨_, cap, rfl, fun j u hu => ?_⟩⟩
    rw [List.getElem?_take] at hu
    split at hu
    · rename_i hj
      rw [List.getElem?_drop] at hu
      have hc : cap ≠ 0 := fun e => by
        have : m = 0 := by omega
        rw [this] at hj; omega
      rw [ho hc, add0]; exact h2 _ u hu
    · cases hu
  | is v => exact h.elim
  | pt r => exact h.elim
  | agg l => exact h.elim
  | tup l => exact h.elim
  | ifc t d => exact h.elim
  | any => exact h.elim

def cAppend (kd : Kd) (s x : D) (H : Heap) (K : D → Heap → Prop) : Prop :=
  match kd, s with
  | .slice e esz eb _ _, .gs g n => ∃ l H0 news m, H = shp g e esz l H0 ∧ l.length = n * esz ∧ srcOk esz x H news m ∧ (0 < esz ∧ 0 < eb ∧ (n + m) * eb ≤ 140737488355328) ∧
      ∀ g', gOk g' (n + m) → (∀ b c, g' = some (b, c) → b ∉ H0.blocks) → K (.gs g' (n + m)) (shp g' e esz (l ++ news) H0)
  | .slice e esz eb _ _, .sl true esz' rows => ∃ news m, srcOk esz x H news m ∧ (esz' = esz ∧ 0 < esz ∧ 0 < eb ∧ (rows.length + m) * eb ≤ 140737488355328) ∧
      (m = 0 → K s H) ∧ (m ≠ 0 → ∀ b cap, b ∉ H.blocks → rows.length + m ≤ cap → K (.gs (some (b, cap)) (rows.length + m)) ((b, .cells e (cap * esz) (rows.flatten ++ news)) :: H))
  | _, _ => False

theorem grown_size (olds news : List Value) (z : Value) (esz n m cap : Nat) (h1 : olds.length = n * esz) (h2 : news.length = m * esz) (hz : z.cells.size = esz) (hc : n + m ≤ cap) :
    (olds.toArray ++ news.toArray ++ Builtin.zeroCells z.cells (cap - (n + m))).size = cap * esz := by
  simp only [Array.size_append, List.size_toArray, size_zeroCells, hz, h1, h2, ← Nat.add_mul]
  congr 1
  omega

theorem grown_take (olds news : List Value) (z : Array Value) (k j : Nat) (h : j = (olds ++ news).length) : ((olds.toArray ++ news.toArray ++ Builtin.zeroCells z k).toList).take j = olds ++ news := by
  simp only [Array.toList_append, List.append_assoc]
  rw [← List.append_assoc, h]
  exact List.take_left

/-- The new block of an append that grows. -/
theorem grown_inv {w : World} {L0 : Nat → Prop} {H : Heap} (hi : HInv w L0 H) {e : TypeId} {esz n m cap : Nat} {olds news : List Value} {lo ln : List D} {z : Value}
    (h1 : RelL w (live H L0) lo olds) (h2 : RelL w (live H L0) ln news) (a1 : lo.all oneD = true) (a2 : ln.all oneD = true) (e1 : lo.length = n * esz) (e2 : ln.length = m * esz)
    (hz : z.cells.size = esz) (hc : n + m ≤ cap) {w' : World} (hw' : w' = w.drew.alloc (.cells (olds.toArray ++ news.toArray ++ Builtin.zeroCells z.cells (cap - (n + m))) e)) :
    HInv w' L0 ((w.heap.size, .cells e (cap * esz) (lo ++ ln)) :: H) ∧ Evo w H w' ((w.heap.size, .cells e (cap * esz) (lo ++ ln)) :: H) := by
  subst hw'
  have hnew : (w.drew.alloc (.cells (olds.toArray ++ news.toArray ++ Builtin.zeroCells z.cells (cap - (n + m))) e)).heap[w.heap.size]? = some (.cells (olds.toArray ++ news.toArray ++ Builtin.zeroCells z.cells (cap - (n + m))) e) := heap_alloc_new w.drew _
  have hevo : Evo w H (w.drew.alloc (.cells (olds.toArray ++ news.toArray ++ Builtin.zeroCells z.cells (cap - (n + m))) e)) ((w.heap.size, .cells e (cap * esz) (lo ++ ln)) :: H) :=
    let h := evo_alloc w.drew H (.cells (olds.toArray ++ news.toArray ++ Builtin.zeroCells z.cells (cap - (n + m))) e) (.cells e (cap * esz) (lo ++ ln))
    ⟨h.os, h.tape, h.output, h.size, h.block, h.fresh⟩
  have l1 := RelL.length _ _ h1
  have l2 := RelL.length _ _ h2
  refine ⟨HInv.new hi hevo.size (fun k hk => alloc_old w.drew _ k hk) (Nat.le_refl _) ⟨by rw [List.all_append, a1, a2]; rfl, _, hnew, grown_size _ _ _ _ _ _ _ (by rw [l1, e1]) (by rw [l2, e2]) hz hc, ?_⟩, hevo⟩
  rw [grown_take _ _ _ _ _ (by rw [List.length_append, List.length_append, l1, l2])]
  exact RelL.mono hevo.keeps _ _ (RelL.append _ _ _ _ h1 h2)

end Go.Vc
