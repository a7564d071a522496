/- The abstract data of a walk: descriptors of values, and what they say of a world. No condition. -/
import Derived.WalkKit
import Derived.Orders
namespace Go.Vc
set_option linter.unusedSimpArgs false
open Go
set_option linter.unusedVariables false

/-- What is known of a value. 'is': the very value; 'sl': a slice that is only read: its rows of cells; 'pt': a pointer to cells that are only read. -/
inductive D where
  | is (v : Value)
  | sl (full : Bool) (esz : Nat) (rows : List (List D))
  | pt (row : List D)
  | agg (l : List D)
  | tup (l : List D)
  | ifc (t : TypeId) (d : D)
  | gs (g : Option (Nat × Nat)) (n : Nat)
  | os (b o n cap : Nat)
  | any
  deriving Inhabited

/-- A slice at the head of a block of one's own (the block, the capacity), or nil. -/
def sv (g : Option (Nat × Nat)) (n : Nat) : Value :=
  match g with
  | none => .slice none 0 0
  | some (b, cap) => .slice (some ⟨b, 0, none⟩) n cap

/-- The length is in the capacity. -/
def gOk (g : Option (Nat × Nat)) (n : Nat) : Prop :=
  match g with
  | none => n = 0
  | some (_, cap) => n ≤ cap

/-- The value takes one cell. -/
def oneD : D → Bool
  | .is v => v.oneCell'
  | .agg _ | .tup _ | .any => false
  | _ => true

mutual
/-- 'v' is as 'd' says, in the world 'w'; no cell that is read lies in a block of 'L'. -/
def Rel (w : World) (L : Nat → Prop) : D → Value → Prop
  | .is u, v => v = u
  | .sl full esz rows, v => ∃ a cap, v = .slice a rows.length cap ∧ (rows.length ≤ cap ∧ (a = none → cap = 0)) ∧ (full = true → cap = rows.length) ∧ (rows = [] ∨ ∃ b o, a = some ⟨b, o, none⟩ ∧ RowsAt w L esz rows b o)
  | .pt row, v => ∃ b o, v = .pointer (some ⟨b, o, none⟩) ∧ CellsAt w L row b o
  | .agg l, v => l.all oneD = true ∧ ∃ cs, v = .agg cs ∧ RelL w L l cs.toList
  | .tup l, v => ∃ cs, v = .tuple cs ∧ RelL w L l cs.toList
  | .ifc t d, v => ∃ x, v = .iface t x ∧ Rel w L d x
  | .gs g n, v => v = sv g n ∧ gOk g n
  | .os b o n cap, v => ∃ o', v = .slice (some ⟨b, o', none⟩) n cap ∧ n ≤ cap ∧ (cap ≠ 0 → o' = o)
  | .any, _ => True
def RelL (w : World) (L : Nat → Prop) : List D → List Value → Prop
  | [], vs => vs = []
  | d :: ds, vs => ∃ v r, vs = v :: r ∧ Rel w L d v ∧ RelL w L ds r
def CellsAt (w : World) (L : Nat → Prop) : List D → Nat → Nat → Prop
  | [], _, _ => True
  | d :: ds, b, o => ¬ L b ∧ (oneD d = true ∧ ∃ v, w.cell? ⟨b, o, none⟩ = some v ∧ Rel w L d v) ∧ CellsAt w L ds b (o + 1)
def RowsAt (w : World) (L : Nat → Prop) (esz : Nat) : List (List D) → Nat → Nat → Prop
  | [], _, _ => True
  | r :: rs, b, o => r.length = esz ∧ CellsAt w L r b o ∧ RowsAt w L esz rs b (o + esz)
end

/-- What was in no block of 'L' is as it was, and is in no block of 'L''. -/
def Keeps (w : World) (L : Nat → Prop) (w' : World) (L' : Nat → Prop) : Prop :=
  ∀ b, b < w.heap.size → ¬ L b → w'.heap[b]? = w.heap[b]? ∧ ¬ L' b

theorem cell_lt {w : World} {b o : Nat} {v : Value} (h : w.cell? ⟨b, o, none⟩ = some v) : b < w.heap.size := by
  simp only [World.cell?] at h
  rcases Nat.lt_or_ge b w.heap.size with h' | h'
  · exact h'
  · simp [Array.getElem?_eq_none h'] at h

mutual
theorem Rel.mono {w w' : World} {L L' : Nat → Prop} (h : Keeps w L w' L') : ∀ (d : D) (v : Value), Rel w L d v → Rel w' L' d v
  | .is u, v, r => r
  | .sl full esz rows, v, r => by
    obtain ⟨a, cap, rfl, hc, hf, hr⟩ := r
    refine ⟨a, cap, rfl, hc, hf, ?_⟩
    rcases hr with hr | ⟨b, o, ha, hr⟩
    · exact .inl hr
    · exact .inr ⟨b, o, ha, RowsAt.mono h esz rows b o hr⟩
  | .pt row, v, r => by
    obtain ⟨b, o, rfl, hr⟩ := r
    exact ⟨b, o, rfl, CellsAt.mono h row b o hr⟩
  | .agg l, v, r => by
    obtain ⟨h1, cs, rfl, hr⟩ := r
    exact ⟨h1, cs, rfl, RelL.mono h l _ hr⟩
  | .tup l, v, r => by
    obtain ⟨cs, rfl, hr⟩ := r
    exact ⟨cs, rfl, RelL.mono h l _ hr⟩
  | .ifc t d, v, r => by
    obtain ⟨x, rfl, hr⟩ := r
    exact ⟨x, rfl, Rel.mono h d _ hr⟩
  | .gs g n, v, r => r
  | .os b o n cap, v, r => r
  | .any, _, _ => trivial
theorem RelL.mono {w w' : World} {L L' : Nat → Prop} (h : Keeps w L w' L') : ∀ (l : List D) (vs : List Value), RelL w L l vs → RelL w' L' l vs
  | [], vs, r => r
  | d :: ds, vs, r => by
    obtain ⟨v, rest, rfl, h1, h2⟩ := r
    exact ⟨v, rest, rfl, Rel.mono h d v h1, RelL.mono h ds rest h2⟩
theorem CellsAt.mono {w w' : World} {L L' : Nat → Prop} (h : Keeps w L w' L') : ∀ (l : List D) (b o : Nat), CellsAt w L l b o → CellsAt w' L' l b o
  | [], _, _, _ => trivial
  | d :: ds, b, o, r => by
    obtain ⟨hb, ⟨h1, v, hv, hr⟩, hs⟩ := r
    obtain ⟨k1, k2⟩ := h b (cell_lt hv) hb
    exact ⟨k2, ⟨h1, v, by rw [World.cell?_of_block (a := ⟨b, o, none⟩) k1]; exact hv, Rel.mono h d v hr⟩, CellsAt.mono h ds b (o + 1) hs⟩
theorem RowsAt.mono {w w' : World} {L L' : Nat → Prop} (h : Keeps w L w' L') (esz : Nat) : ∀ (l : List (List D)) (b o : Nat), RowsAt w L esz l b o → RowsAt w' L' esz l b o
  | [], _, _, _ => trivial
  | r :: rs, b, o, hh => by
    obtain ⟨h1, h2, h3⟩ := hh
    exact ⟨h1, CellsAt.mono h r b o h2, RowsAt.mono h esz rs b (o + esz) h3⟩
end

theorem Keeps.refl (w : World) (L : Nat → Prop) : Keeps w L w L := fun _ _ h => ⟨rfl, h⟩
theorem Keeps.less {w : World} {L L' : Nat → Prop} (h : ∀ b, b < w.heap.size → L' b → L b) : Keeps w L w L' := fun b hb hn => ⟨rfl, fun hl => hn (h b hb hl)⟩

theorem oneD_spec {w : World} {L : Nat → Prop} {d : D} {v : Value} (h : oneD d = true) (hr : Rel w L d v) : v.oneCell' = true := by
  cases d with
  | is u => rw [Rel] at hr; subst hr; exact h
  | sl full esz rows => rw [Rel] at hr; obtain ⟨a, cap, rfl, _⟩ := hr; rfl
  | pt row => rw [Rel] at hr; obtain ⟨b, o, rfl, _⟩ := hr; rfl
  | agg l => simp [oneD] at h
  | tup l => simp [oneD] at h
  | ifc t d => rw [Rel] at hr; obtain ⟨x, rfl, _⟩ := hr; rfl
  | gs g n => rw [Rel] at hr; obtain ⟨rfl, _⟩ := hr; cases g <;> rfl
  | os b o n cap => rw [Rel] at hr; obtain ⟨o', rfl, _⟩ := hr; rfl
  | any => simp [oneD] at h

theorem RelL.one {w : World} {L : Nat → Prop} : ∀ (l : List D) (vs : List Value), l.all oneD = true → RelL w L l vs → ∀ v ∈ vs, v.oneCell' = true
  | [], vs, _, h => by rw [RelL] at h; subst h; simp
  | d :: ds, vs, ho, h => by
    rw [RelL] at h
    obtain ⟨v, r, rfl, h1, h2⟩ := h
    simp only [List.all_cons, Bool.and_eq_true] at ho
    intro u hu
    rcases List.mem_cons.1 hu with rfl | hu
    · exact oneD_spec ho.1 h1
    · exact RelL.one ds r ho.2 h2 u hu

theorem RelL.length {w : World} {L : Nat → Prop} : ∀ (l : List D) (vs : List Value), RelL w L l vs → vs.length = l.length
  | [], vs, h => by rw [RelL] at h; simp [h]
  | d :: ds, vs, h => by
    rw [RelL] at h
    obtain ⟨v, r, rfl, _, h2⟩ := h
    simp [RelL.length ds r h2]

theorem RelL.get {w : World} {L : Nat → Prop} : ∀ (l : List D) (vs : List Value), RelL w L l vs → ∀ (i : Nat) d, l[i]? = some d → ∃ v, vs[i]? = some v ∧ Rel w L d v
  | [], vs, h, i, d, hd => by simp at hd
  | d0 :: ds, vs, h, i, d, hd => by
    rw [RelL] at h
    obtain ⟨v, r, rfl, h1, h2⟩ := h
    cases i with
    | zero => simp at hd; subst hd; exact ⟨v, by simp, h1⟩
    | succ i =>
      obtain ⟨v', h3, h4⟩ := RelL.get ds r h2 i d (by simpa using hd)
      exact ⟨v', by simpa using h3, h4⟩

theorem RelL.append {w : World} {L : Nat → Prop} : ∀ (l l' : List D) (vs vs' : List Value), RelL w L l vs → RelL w L l' vs' → RelL w L (l ++ l') (vs ++ vs')
  | [], l', vs, vs', h, h' => by rw [RelL] at h; subst h; simpa using h'
  | d :: ds, l', vs, vs', h, h' => by
    rw [RelL] at h
    obtain ⟨v, r, rfl, h1, h2⟩ := h
    exact ⟨v, r ++ vs', by simp, h1, RelL.append ds l' r vs' h2 h'⟩

theorem RelL.drop {w : World} {L : Nat → Prop} : ∀ (n : Nat) (l : List D) (vs : List Value), RelL w L l vs → RelL w L (l.drop n) (vs.drop n)
  | 0, l, vs, h => by simpa using h
  | n + 1, [], vs, h => by rw [RelL] at h; subst h; simp [RelL]
  | n + 1, d :: ds, vs, h => by
    rw [RelL] at h
    obtain ⟨v, r, rfl, h1, h2⟩ := h
    simpa using RelL.drop n ds r h2

theorem RelL.take {w : World} {L : Nat → Prop} : ∀ (n : Nat) (l : List D) (vs : List Value), RelL w L l vs → RelL w L (l.take n) (vs.take n)
  | 0, l, vs, h => by simp [RelL]
  | n + 1, [], vs, h => by rw [RelL] at h; subst h; simp [RelL]
  | n + 1, d :: ds, vs, h => by
    rw [RelL] at h
    obtain ⟨v, r, rfl, h1, h2⟩ := h
    exact ⟨v, r.take n, by simp, h1, RelL.take n ds r h2⟩

theorem RelL.set {w : World} {L : Nat → Prop} : ∀ (i : Nat) (l : List D) (vs : List Value) (d : D) (v : Value), RelL w L l vs → Rel w L d v → RelL w L (l.set i d) (vs.set i v)
  | _, [], vs, d, v, h, _ => by rw [RelL] at h; subst h; simp [RelL]
  | 0, d0 :: ds, vs, d, v, h, hv => by
    rw [RelL] at h
    obtain ⟨v0, r, rfl, h1, h2⟩ := h
    exact ⟨v, r, by simp, hv, h2⟩
  | i + 1, d0 :: ds, vs, d, v, h, hv => by
    rw [RelL] at h
    obtain ⟨v0, r, rfl, h1, h2⟩ := h
    exact ⟨v0, r.set i v, by simp, h1, RelL.set i ds r d v h2 hv⟩

theorem CellsAt.get {w : World} {L : Nat → Prop} : ∀ (l : List D) (b o : Nat), CellsAt w L l b o → ∀ (i : Nat) d, l[i]? = some d → ¬ L b ∧ oneD d = true ∧ ∃ v, w.cell? ⟨b, o + i, none⟩ = some v ∧ Rel w L d v
  | [], b, o, h, i, d, hd => by simp at hd
  | d0 :: ds, b, o, h, i, d, hd => by
    rw [CellsAt] at h
    obtain ⟨hb, hv, h2⟩ := h
    cases i with
    | zero => simp at hd; subst hd; exact ⟨hb, hv⟩
    | succ i =>
      have := CellsAt.get ds b (o + 1) h2 i d (by simpa using hd)
      rwa [show o + 1 + i = o + (i + 1) by omega] at this

theorem CellsAt.drop {w : World} {L : Nat → Prop} : ∀ (n : Nat) (l : List D) (b o : Nat), CellsAt w L l b o → CellsAt w L (l.drop n) b (o + n)
  | 0, l, b, o, h => by simpa using h
  | n + 1, [], b, o, h => by simp [CellsAt]
  | n + 1, d :: ds, b, o, h => by
    rw [CellsAt] at h
    have := CellsAt.drop n ds b (o + 1) h.2.2
    rw [show o + 1 + n = o + (n + 1) by omega] at this
    simpa using this

theorem CellsAt.take {w : World} {L : Nat → Prop} : ∀ (n : Nat) (l : List D) (b o : Nat), CellsAt w L l b o → CellsAt w L (l.take n) b o
  | 0, l, b, o, h => by simp [CellsAt]
  | n + 1, [], b, o, h => by simp [CellsAt]
  | n + 1, d :: ds, b, o, h => by
    rw [CellsAt] at h
    exact ⟨h.1, h.2.1, CellsAt.take n ds b (o + 1) h.2.2⟩

theorem RowsAt.get {w : World} {L : Nat → Prop} {esz : Nat} : ∀ (l : List (List D)) (b o : Nat), RowsAt w L esz l b o → ∀ (i : Nat) r, l[i]? = some r → r.length = esz ∧ CellsAt w L r b (o + i * esz)
  | [], b, o, h, i, r, hr => by simp at hr
  | r0 :: rs, b, o, h, i, r, hr => by
    rw [RowsAt] at h
    obtain ⟨h1, h2, h3⟩ := h
    cases i with
    | zero => simp at hr; subst hr; simpa using ⟨h1, h2⟩
    | succ i =>
      have := RowsAt.get rs b (o + esz) h3 i r (by simpa using hr)
      rwa [show o + esz + i * esz = o + (i + 1) * esz by rw [Nat.add_mul]; omega] at this

theorem RowsAt.drop {w : World} {L : Nat → Prop} {esz : Nat} : ∀ (n : Nat) (l : List (List D)) (b o : Nat), RowsAt w L esz l b o → RowsAt w L esz (l.drop n) b (o + n * esz)
  | 0, l, b, o, h => by simpa using h
  | n + 1, [], b, o, h => by simp [RowsAt]
  | n + 1, r :: rs, b, o, h => by
    rw [RowsAt] at h
    have := RowsAt.drop n rs b (o + esz) h.2.2
    rw [show o + esz + n * esz = o + (n + 1) * esz by rw [Nat.add_mul]; omega] at this
    simpa using this

theorem RowsAt.take {w : World} {L : Nat → Prop} {esz : Nat} : ∀ (n : Nat) (l : List (List D)) (b o : Nat), RowsAt w L esz l b o → RowsAt w L esz (l.take n) b o
  | 0, l, b, o, h => by simp [RowsAt]
  | n + 1, [], b, o, h => by simp [RowsAt]
  | n + 1, r :: rs, b, o, h => by
    rw [RowsAt] at h
    exact ⟨h.1, h.2.1, RowsAt.take n rs b (o + esz) h.2.2⟩

end Go.Vc
