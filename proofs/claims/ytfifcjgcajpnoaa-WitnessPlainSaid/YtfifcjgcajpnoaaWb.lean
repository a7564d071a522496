/- Buffers, in plain Lean: what is pushed, popped, and what stands next. No condition. -/
import Derived.Test.YtfifcjgcajpnoaaWa
import Derived.Test.YtfifcjgcajpnoaaK2
import Derived.Laws.StructEq
namespace Go.Proofs.Ytfifcjgcajpnoaa
set_option linter.unusedSimpArgs false
set_option linter.unusedVariables false
open Go Go.Proofs Go.Vc
attribute [local irreducible] retQ VCg VCw

abbrev En := Int × Int
def eR (x : En) : List D := [iD x.1, iD x.2]
def eRs (b : List En) : List (List D) := b.map eR
abbrev buf (b : List En) : D := .sl false 2 (eRs b)
def iRs (l : List Int) : List (List D) := l.map fun n => [iD n]
abbrev ints (l : List Int) : D := .sl false 1 (iRs l)

/-- The first entry of a location. -/
def fstI (loc : Int) : List En → Option Nat
  | [] => none
  | x :: r => match decide (x.1 = loc) with | true => some 0 | false => (fstI loc r).map (· + 1)
def cntF (loc : Int) (b : List En) : Nat := b.countP fun x => decide (x.1 = loc)
def insF (e : En) : List En → List En
  | [] => [e]
  | x :: r => match decide (x.1 > e.1) with | true => e :: x :: r | false => x :: insF e r
def pushF (m : Int) (e : En) (b : List En) : List En := if m = 2 then b ++ [e] else if m = 3 then insF e b else b
def lastF (loc : Int) : List En → Option Int
  | [] => none
  | x :: r => match lastF loc r with
    | some n => some n
    | none => match decide (x.1 = loc) with | true => some x.2 | false => none
def selF (m : Int) (b : List En) (i : Nat) : Bool := (decide (m = 2) && decide (i = 0)) || (decide (m = 3) && decide (fstI ((b[i]?).getD (0, 0)).1 b = some i))
def headsK (m : Int) (b : List En) (k : Nat) : List Int := ((List.range k).filter (selF m b)).map fun i => ((b[i]?).getD (0, 0)).1
def headsF (m : Int) (b : List En) : List Int := headsK m b b.length
def nextF (m loc : Int) (b : List En) : Option Nat := if m = 3 then fstI loc b else if m = 2 ∧ b ≠ [] ∧ (loc < 0 ∨ (b.head?.map (·.1)) = some loc) then some 0 else none
theorem eRs_row (b : List En) : ∀ r, r ∈ eRs b → r.length = 2 := by
  intro r h
  obtain ⟨x, _, rfl⟩ := List.mem_map.1 h
  rfl
theorem eRs_len (b : List En) : (eRs b).length = b.length := List.length_map ..
theorem eRs_at (b : List En) (i : Nat) : (eRs b)[i]? = (b[i]?).map eR := List.getElem?_map ..
theorem eRs_flat (b : List En) : (eRs b).flatten.length = b.length * 2 := by
  induction b with
  | nil => rfl
  | cons x b ih => simp only [eRs, List.map_cons, List.flatten_cons, List.length_append, List.length_cons] at ih ⊢; rw [ih]; simp [eR]; omega

/-! ### Queues -/

def Srt : List En → Prop
  | [] => True
  | x :: r => (∀ y, y ∈ r → x.1 ≤ y.1) ∧ Srt r
def que (loc : Int) (b : List En) : List En := b.filter fun x => decide (x.1 = loc)

theorem insF_mem (e : En) : ∀ (b : List En) (y : En), y ∈ insF e b ↔ y = e ∨ y ∈ b
  | [], y => by simp [insF]
  | x :: r, y => by
    unfold insF
    split
    · simp
    · simp only [List.mem_cons, insF_mem e r y]
      constructor
      · rintro (h | h | h)
        · exact .inr (.inl h)
        · exact .inl h
        · exact .inr (.inr h)
      · rintro (h | h | h)
        · exact .inr (.inl h)
        · exact .inl h
        · exact .inr (.inr h)
theorem insF_len (e : En) : ∀ b : List En, (insF e b).length = b.length + 1
  | [] => rfl
  | x :: r => by
    unfold insF
    split
    · simp
    · simp [insF_len e r]
theorem insF_srt (e : En) : ∀ b : List En, Srt b → Srt (insF e b)
  | [], _ => ⟨fun y h => (by cases h), trivial⟩
  | x :: r, ⟨h1, h2⟩ => by
    unfold insF
    split
    · rename_i hx
      have hx' : x.1 > e.1 := of_decide_eq_true hx
      refine ⟨fun y hy => ?_, h1, h2⟩
      rcases List.mem_cons.1 hy with rfl | hy
      · omega
      · have := h1 y hy; omega
    · rename_i hx
      have hx' : ¬ x.1 > e.1 := of_decide_eq_false hx
      refine ⟨fun y hy => ?_, insF_srt e r h2⟩
      rcases (insF_mem e r y).1 hy with rfl | hy
      · omega
      · exact h1 y hy
theorem insF_que (e : En) (loc : Int) : ∀ b : List En, Srt b → que loc (insF e b) = que loc b ++ que loc [e]
  | [], _ => by simp [insF, que]
  | x :: r, ⟨h1, h2⟩ => by
    unfold insF
    split
    · rename_i hx
      have hx' : x.1 > e.1 := of_decide_eq_true hx
      have hno : e.1 = loc → que loc (x :: r) = [] := fun he => by
        rw [que, List.filter_eq_nil_iff]
        intro y hy
        have : x.1 ≤ y.1 := by
          rcases List.mem_cons.1 hy with rfl | hy
          · exact Int.le_refl _
          · exact h1 y hy
        simp; omega
      by_cases he : e.1 = loc
      · rw [hno he, List.nil_append]
        show que loc (e :: x :: r) = _
        have : que loc (e :: x :: r) = que loc [e] ++ que loc (x :: r) := by rw [que, que, que, ← List.filter_append]; rfl
        rw [this, hno he, List.append_nil]
      · have e1 : que loc [e] = [] := by simp [que, he]
        have e2 : que loc (e :: x :: r) = que loc (x :: r) := by simp [que, he]
        rw [e1, e2, List.append_nil]
    · have : que loc (x :: insF e r) = que loc [x] ++ que loc (insF e r) := by rw [que, que, que, ← List.filter_append]; rfl
      rw [this, insF_que e loc r h2, ← List.append_assoc]
      congr 1
      rw [que, que, que, ← List.filter_append]; rfl

/-- Two buffers with the same queues. -/
def SameQ (a b : List En) : Prop := ∀ loc, que loc a = que loc b
theorem SameQ.nil {b : List En} (h : SameQ [] b) : b = [] := by
  cases b with
  | nil => rfl
  | cons x r =>
    have := h x.1
    simp [que] at this
theorem que_append (loc : Int) (a b : List En) : que loc (a ++ b) = que loc a ++ que loc b := List.filter_append ..

theorem fstI_none {loc : Int} : ∀ {b : List En}, fstI loc b = none → que loc b = []
  | [], _ => rfl
  | x :: r, h => by
    unfold fstI at h
    split at h
    · cases h
    · rename_i hx
      have := fstI_none (Option.map_eq_none_iff.1 h)
      rw [que, List.filter_cons, hx]
      simpa [que] using this
theorem fstI_some {loc : Int} : ∀ {b : List En} {i : Nat}, fstI loc b = some i → ∃ x p q, b = p ++ x :: q ∧ p.length = i ∧ x.1 = loc ∧ que loc p = []
  | [], i, h => by simp [fstI] at h
  | x :: r, i, h => by
    unfold fstI at h
    split at h
    · rename_i hx
      obtain rfl := Option.some.inj h
      exact ⟨x, [], r, rfl, rfl, of_decide_eq_true hx, rfl⟩
    · rename_i hx
      obtain ⟨j, hj, rfl⟩ := Option.map_eq_some_iff.1 h
      obtain ⟨y, p, q, rfl, h1, h2, h3⟩ := fstI_some hj
      exact ⟨y, x :: p, q, rfl, by simp [h1], h2, by rw [que, List.filter_cons, hx]; simpa [que] using h3⟩
theorem fstI_lt {loc : Int} {b : List En} {i : Nat} (h : fstI loc b = some i) : i < b.length := by
  obtain ⟨x, p, q, rfl, rfl, _⟩ := fstI_some h
  simp
/-- The first of one queue taken out of both. -/
theorem SameQ.cut {a b : List En} {loc : Int} {i j : Nat} (h : SameQ a b) (hi : fstI loc a = some i) (hj : fstI loc b = some j) : a[i]? = b[j]? ∧ SameQ (a.take i ++ a.drop (i + 1)) (b.take j ++ b.drop (j + 1)) := by
  obtain ⟨x, p, q, rfl, rfl, h1, h2⟩ := fstI_some hi
  obtain ⟨y, p', q', rfl, rfl, h3, h4⟩ := fstI_some hj
  have hx : que loc (x :: q) = x :: que loc q := by rw [que, List.filter_cons]; simp [h1, que]
  have hy : que loc (y :: q') = y :: que loc q' := by rw [que, List.filter_cons]; simp [h3, que]
  have hq := h loc
  rw [que_append, que_append, h2, h4, hx, hy, List.nil_append, List.nil_append, List.cons.injEq] at hq
  obtain ⟨rfl, hq⟩ := hq
  refine ⟨by simp, fun l => ?_⟩
  have e1 : (p ++ x :: q).take p.length ++ (p ++ x :: q).drop (p.length + 1) = p ++ q := by simp [List.drop_append]
  have e2 : (p' ++ x :: q').take p'.length ++ (p' ++ x :: q').drop (p'.length + 1) = p' ++ q' := by simp [List.drop_append]
  rw [e1, e2, que_append, que_append]
  by_cases hl : l = loc
  · subst hl; rw [h2, h4, hq]
  · have hh := h l
    have hxl : ∀ q : List En, que l (x :: q) = que l q := fun q => by rw [que, List.filter_cons]; simp [h1, Ne.symm hl, que]
    rwa [que_append, que_append, hxl, hxl] at hh

/-! ### The order of two pushes -/
end Go.Proofs.Ytfifcjgcajpnoaa
