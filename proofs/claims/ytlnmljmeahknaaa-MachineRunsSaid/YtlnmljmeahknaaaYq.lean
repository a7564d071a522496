/- Less said of data; the unit of the known calls. No condition. -/
import Derived.Test.YtlnmljmeahknaaaXe
import Derived.Test.YtlnmljmeahknaaaK2
namespace Go.Proofs.Ytlnmljmeahknaaa
set_option linter.unusedSimpArgs false
set_option linter.unusedVariables false
set_option maxRecDepth 20000
open Go Go.Proofs Go.Vc

mutual
/-- What is said by 'd' holds of all that is as the second says. -/
def Wk : D → D → Prop
  | .sl full esz rows', d => d = .sl full esz rows' ∨ (full = false ∧ ((∃ f rows, d = .sl f esz rows ∧ WkR rows' rows) ∨ (rows' = [] ∧ d = .gs none 0)))
  | .pt row', d => ∃ row, d = .pt row ∧ WkL row' row
  | .agg l', d => ∃ l, d = .agg l ∧ WkL l' l
  | .tup l', d => ∃ l, d = .tup l ∧ WkL l' l
  | .ifc t x', d => ∃ x, d = .ifc t x ∧ Wk x' x
  | .is v, d => d = .is v
  | .gs g n, d => d = .gs g n
  | .os b o n cap, d => d = .os b o n cap
  | .any, d => d = .any
termination_by structural d => d
def WkL : List D → List D → Prop
  | [], l => l = []
  | d' :: ds', l => ∃ d ds, l = d :: ds ∧ Wk d' d ∧ WkL ds' ds
def WkR : List (List D) → List (List D) → Prop
  | [], l => l = []
  | r' :: rs', l => ∃ r rs, l = r :: rs ∧ WkL r' r ∧ WkR rs' rs
end
theorem Wk.one {d' d : D} (h : Wk d' d) (h1 : oneD d = true) : oneD d' = true := by
  cases d' with
  | sl => rfl
  | pt => rfl
  | agg l' => obtain ⟨l, rfl, _⟩ := h; cases h1
  | tup l' => obtain ⟨l, rfl, _⟩ := h; cases h1
  | ifc t x' => rfl
  | is v => obtain rfl : d = .is v := h; exact h1
  | gs g n => rfl
  | os => rfl
  | any => obtain rfl : d = .any := h; exact h1
theorem WkL.one : ∀ {ds' ds : List D}, WkL ds' ds → ds.all oneD = true → ds'.all oneD = true
  | [], _, _, _ => rfl
  | d' :: ds', l, h, h1 => by
    obtain ⟨d, ds, rfl, h2, h3⟩ := h
    rw [List.all_cons, Bool.and_eq_true] at h1
    rw [List.all_cons, h2.one h1.1, h3.one h1.2]; rfl
theorem WkL.len : ∀ {ds' ds : List D}, WkL ds' ds → ds'.length = ds.length
  | [], _, h => by cases h; rfl
  | d' :: ds', l, h => by
    obtain ⟨d, ds, rfl, h2, h3⟩ := h
    simp [h3.len]
theorem WkR.len : ∀ {ds' ds : List (List D)}, WkR ds' ds → ds'.length = ds.length
  | [], _, h => by cases h; rfl
  | d' :: ds', l, h => by
    obtain ⟨d, ds, rfl, h2, h3⟩ := h
    simp [h3.len]
mutual
theorem Rel.wk {w : World} {L : Nat → Prop} : ∀ (d' d : D) (v : Value), Wk d' d → Rel w L d v → Rel w L d' v
  | .sl full esz rows', d, v, h, r => by
    rcases h with rfl | ⟨rfl, ⟨f, rows, rfl, hr⟩ | ⟨rfl, rfl⟩⟩
    · exact r
    · obtain ⟨a, cap, h1, h2, h3, h4⟩ := r
      refine ⟨a, cap, by rw [hr.len]; exact h1, by rw [hr.len]; exact h2, fun h => (by cases h), ?_⟩
      rcases h4 with h4 | ⟨b, o, h5, h6⟩
      · subst h4
        cases rows' with
        | nil => exact .inl rfl
        | cons r rs => obtain ⟨_, _, e, _⟩ := hr; cases e
      · exact .inr ⟨b, o, h5, RowsAt.wk esz rows' rows b o hr h6⟩
    · obtain ⟨rfl, _⟩ := r
      exact ⟨none, 0, rfl, ⟨Nat.le_refl _, fun _ => rfl⟩, fun h => (by cases h), .inl rfl⟩
  | .pt row', d, v, h, r => by
    obtain ⟨row, rfl, hr⟩ := h
    obtain ⟨b, o, h1, h2⟩ := r
    exact ⟨b, o, h1, CellsAt.wk row' row b o hr h2⟩
  | .agg l', d, v, h, r => by
    obtain ⟨l, rfl, h⟩ := h
    obtain ⟨h1, cs, rfl, hr⟩ := r
    exact ⟨WkL.one h h1, cs, rfl, RelL.wk l' l _ h hr⟩
  | .tup l', d, v, h, r => by
    obtain ⟨l, rfl, h⟩ := h
    obtain ⟨cs, rfl, hr⟩ := r
    exact ⟨cs, rfl, RelL.wk l' l _ h hr⟩
  | .ifc t x', d, v, h, r => by
    obtain ⟨x, rfl, h⟩ := h
    obtain ⟨y, rfl, hr⟩ := r
    exact ⟨y, rfl, Rel.wk x' x y h hr⟩
  | .is u, d, v, h, r => by obtain rfl : d = .is u := h; exact r
  | .gs g n, d, v, h, r => by obtain rfl : d = .gs g n := h; exact r
  | .os b o n cap, d, v, h, r => by obtain rfl : d = .os b o n cap := h; exact r
  | .any, d, v, h, r => trivial
theorem RelL.wk {w : World} {L : Nat → Prop} : ∀ (l' l : List D) (vs : List Value), WkL l' l → RelL w L l vs → RelL w L l' vs
  | [], l, vs, h, r => by obtain rfl : l = [] := h; exact r
  | d' :: ds', l, vs, h, r => by
    obtain ⟨d, ds, rfl, h1, h2⟩ := h
    obtain ⟨v, rest, rfl, r1, r2⟩ := r
    exact ⟨v, rest, rfl, Rel.wk d' d v h1 r1, RelL.wk ds' ds rest h2 r2⟩
theorem CellsAt.wk {w : World} {L : Nat → Prop} : ∀ (l' l : List D) (b o : Nat), WkL l' l → CellsAt w L l b o → CellsAt w L l' b o
  | [], _, _, _, _, _ => trivial
  | d' :: ds', l, b, o, h, r => by
    obtain ⟨d, ds, rfl, h1, h2⟩ := h
    obtain ⟨q1, ⟨q2, v, q3, q4⟩, q5⟩ := r
    exact ⟨q1, ⟨h1.one q2, v, q3, Rel.wk d' d v h1 q4⟩, CellsAt.wk ds' ds b (o + 1) h2 q5⟩
theorem RowsAt.wk {w : World} {L : Nat → Prop} (esz : Nat) : ∀ (l' l : List (List D)) (b o : Nat), WkR l' l → RowsAt w L esz l b o → RowsAt w L esz l' b o
  | [], _, _, _, _, _ => trivial
  | r' :: rs', l, b, o, h, r => by
    obtain ⟨r0, rs, rfl, h1, h2⟩ := h
    obtain ⟨q1, q2, q3⟩ := r
    exact ⟨by rw [h1.len]; exact q1, CellsAt.wk r' r0 b o h1 q2, RowsAt.wk esz rs' rs b (o + esz) h2 q3⟩
end
theorem Pure.wk {P : Program} {f : FuncId} {args : List D} {d' d : D} (h : Pure P f args d) (hw : Wk d' d) : Pure P f args d' :=
  ⟨h.1, fun w L0 vs hi hr => (h.2 w L0 vs hi hr).mono fun e w' ⟨v, he, d0, H', ⟨h1, h2⟩, h3, h4, h5⟩ => ⟨v, he, d', [], ⟨rfl, rfl⟩, by subst h1; subst h2; exact Rel.wk _ _ _ hw h3, by subst h2; exact h4, by subst h2; exact h5⟩⟩

theorem wk_is {v : Value} : Wk (.is v) (.is v) := rfl
theorem wk_sl {e : Nat} {f : Bool} {rows' rows : List (List D)} (h : WkR rows' rows) : Wk (.sl false e rows') (.sl f e rows) := .inr ⟨rfl, .inl ⟨f, rows, rfl, h⟩⟩
theorem wk_nil {e : Nat} : Wk (.sl false e []) (.gs none 0) := .inr ⟨rfl, .inr ⟨rfl, rfl⟩⟩
theorem wk_agg {l' l : List D} (h : WkL l' l) : Wk (.agg l') (.agg l) := ⟨l, rfl, h⟩
theorem wk_cons {d' d : D} {ds' ds : List D} (h : Wk d' d) (hs : WkL ds' ds) : WkL (d' :: ds') (d :: ds) := ⟨d, ds, rfl, h, hs⟩
theorem wk_end : WkL [] [] := rfl
theorem wkr_cons {d' d : List D} {ds' ds : List (List D)} (h : WkL d' d) (hs : WkR ds' ds) : WkR (d' :: ds') (d :: ds) := ⟨d, ds, rfl, h, hs⟩
theorem wkr_end : WkR [] [] := rfl

def one1 : List Opc := [(1, 1, 0)]
/-- The unit of the known calls. -/
def U10 : Un := ⟨4, [0], [0, 0], [[⟨4, 0, 0, one1, [], false, 0⟩, ⟨8, 0, 0, [], [], false, 0⟩, ⟨22, 0, 0, [], [], false, 0⟩], [⟨9, 0, 0, one1, [], false, 0⟩, ⟨22, 0, 0, [], [], false, 0⟩]]⟩
def opT : D := .sl true 3 [[iD 1, iD 1, iD 0]]
set_option maxHeartbeats 4000000 in
theorem unit10_ok : Pure Try.prog 63 [] (.agg (unC U10)) := by
  refine Pure.wk (d := .agg [iD 4, .sl true 1 [[iD 0]], .sl true 1 [[iD 0], [iD 0]], .sl true 1 [[.sl true 7 [[iD 4, iD 0, iD 0, opT, .gs none 0, bD false, iD 0], [iD 8, iD 0, iD 0, .gs none 0, .gs none 0, bD false, iD 0], [iD 22, iD 0, iD 0, .gs none 0, .gs none 0, bD false, iD 0]]],
    [.sl true 7 [[iD 9, iD 0, iD 0, opT, .gs none 0, bD false, iD 0], [iD 22, iD 0, iD 0, .gs none 0, .gs none 0, bD false, iD 0]]]]]) ?_ ?_
  · refine Fun.of T [.cell 0 42] Try.func63 rfl Try.ntmps63 Try.results63 rfl (by kernel_rfl) ?_
    repeat' first | refine VCo.step T rfl rfl (fun K hK => ?_); (try simp (disch := omega) only [WB, argE, fillD, setL, rowsOf, Nat.reduceBEq, Nat.reduceAdd, Nat.reduceMul, Nat.reduceLeDiff, T31, T40, T42, T60, T62, T63, T113]); (first | refine hK _ _ ?_; clear hK K | intro bq hbq; (try simp only [HB] at hbq); refine hK _ _ ?_; clear hK K) | refine VC.region ?_ | refine VC.seq' ?_ | (first | refine VCo.nil ?_ | refine VC.ret ?_); (try simp only [QB]) | refine retc T rfl (by (simp (disch := omega) only [hget_eq]) <;> rfl) rfl rfl rfl (List.nil_sublist _) ?_; (try simp only [and_true])
    all_goals rfl
  · refine wk_agg ?_
    repeat' first | exact wk_is | exact wk_nil | exact wk_end | exact wkr_end | apply wk_sl | apply wk_cons | apply wkr_cons
end Go.Proofs.Ytlnmljmeahknaaa
