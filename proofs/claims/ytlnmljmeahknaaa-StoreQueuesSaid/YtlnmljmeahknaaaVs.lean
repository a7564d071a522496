/- Append to a slice of one's own that lies anywhere among the blocks; blocks let go; own cells that are handed back to be read. No condition. -/
import Derived.Test.YtlnmljmeahknaaaVk
namespace Go.Vc
set_option linter.unusedSimpArgs false
open Go
set_option linter.unusedVariables false

theorem blocks_perm {H H' : Heap} (h : H.Perm H') : H.blocks.Perm H'.blocks := h.map _
theorem live_perm {H H' : Heap} (h : H.Perm H') (L0 : Nat → Prop) : live H' L0 = live H L0 :=
  funext fun b => propext (or_congr Iff.rfl (blocks_perm h).mem_iff.symm)
theorem HInv.perm {w : World} {L0 : Nat → Prop} {H H' : Heap} (h : H.Perm H') (hi : HInv w L0 H) : HInv w L0 H' where
  rel b c hm := by rw [live_perm h]; exact hi.rel b c (h.mem_iff.2 hm)
  nodup := (blocks_perm h).nodup_iff.1 hi.nodup
  apart b hb := hi.apart b ((blocks_perm h).mem_iff.2 hb)
  old := hi.old
theorem Evo.perm {w w' : World} {H H' G G' : Heap} (h1 : H.Perm G) (h2 : H'.Perm G') (he : Evo w H w' H') : Evo w G w' G' where
  os := he.os
  tape := he.tape
  output := he.output
  size := he.size
  block b hb hn := he.block b hb fun hm => hn ((blocks_perm h1).mem_iff.1 hm)
  fresh b hb := (he.fresh b ((blocks_perm h2).mem_iff.2 hb)).imp (blocks_perm h1).mem_iff.1 id

theorem Good.mono {P : Program} {R R' : Value → World → Prop} {r : Result Next} (h : Good P R r) (hk : ∀ v w, R v w → R' v w) : Good P R' r := by
  cases r with
  | ok n w1 =>
    cases n <;> simp only [Good] at h ⊢
    case value v => exact hk _ _ h
    case skip => exact hk _ _ h
    case enter f args => exact h.mono fun e w' ⟨v, he, hr⟩ => ⟨v, he, hk _ _ hr⟩
  | halt x w1 => exact h

theorem hget_of_mem : ∀ {H : Heap} {b : Nat} {c : HC}, H.blocks.Nodup → (b, c) ∈ H → hget H b = some c
  | (k, c0) :: r, b, c, hn, h => by
    simp only [Heap.blocks, List.map_cons, List.nodup_cons] at hn
    simp only [hget]
    rcases List.mem_cons.1 h with h | h
    · cases h; simp
    · have : k ≠ b := fun e => hn.1 (by rw [e]; exact List.mem_map.2 ⟨_, h, rfl⟩)
      have e' : (k == b) = false := by simpa using this
      rw [e', cond_false]
      exact hget_of_mem hn.2 h
theorem hget_perm {H H' : Heap} (h : H.Perm H') (hn : H.blocks.Nodup) {b : Nat} {c : HC} (hg : hget H b = some c) : hget H' b = some c :=
  hget_of_mem ((blocks_perm h).nodup_iff.1 hn) (h.mem_iff.1 (hget_mem hg))

theorem srcOk_perm {H H' : Heap} (h : H.Perm H') (hn : H.blocks.Nodup) {esz : Nat} {x : D} {news : List D} {m : Nat} (hs : srcOk esz x H news m) : srcOk esz x H' news m := by
  unfold srcOk at *
  split <;> simp only at hs
  · exact hs
  · exact hs
  · obtain ⟨ty, k, l, h1, h2⟩ := hs; exact ⟨ty, k, l, hget_perm h hn h1, h2⟩
  · obtain ⟨ty, k, l, h1, h2⟩ := hs; exact ⟨ty, k, l, hget_perm h hn h1, h2⟩

/-- The blocks, the one of the slice 'g' with other cells. -/
def Sp (H : Heap) (g : Option (Nat × Nat)) (e : TypeId) (esz : Nat) (l : List D) (F : Option (Nat × Nat) → List D → Heap) : Prop :=
  ∃ X, H.Perm (shp g e esz l X) ∧ ∀ g' l', (shp g' e esz l' X).Perm (F g' l')

theorem shp_cons (g : Option (Nat × Nat)) (e : TypeId) (esz : Nat) (l : List D) (x : Nat × HC) (X : Heap) : (x :: shp g e esz l X).Perm (shp g e esz l (x :: X)) := by
  cases g with
  | none => exact .refl _
  | some p => exact .swap _ _ _
theorem shp_shp (g g2 : Option (Nat × Nat)) (e e2 : TypeId) (esz esz2 : Nat) (l l2 : List D) (X : Heap) : (shp g2 e2 esz2 l2 (shp g e esz l X)).Perm (shp g e esz l (shp g2 e2 esz2 l2 X)) := by
  cases g2 with
  | none => exact .refl _
  | some p => exact shp_cons _ _ _ _ _ _
theorem shp_perm (g : Option (Nat × Nat)) (e : TypeId) (esz : Nat) (l : List D) {X Y : Heap} (h : X.Perm Y) : (shp g e esz l X).Perm (shp g e esz l Y) := by
  cases g with
  | none => exact h
  | some p => exact h.cons _

theorem Sp.here {g : Option (Nat × Nat)} {e : TypeId} {esz : Nat} {l : List D} {X : Heap} : Sp (shp g e esz l X) g e esz l (fun g' l' => shp g' e esz l' X) := ⟨X, .refl _, fun _ _ => .refl _⟩
theorem Sp.nil {e : TypeId} {esz : Nat} {X : Heap} : Sp X none e esz [] (fun g' l' => shp g' e esz l' X) := ⟨X, .refl _, fun _ _ => .refl _⟩
theorem Sp.cons {g : Option (Nat × Nat)} {e : TypeId} {esz : Nat} {l : List D} {H : Heap} {F : Option (Nat × Nat) → List D → Heap} {x : Nat × HC} (h : Sp H g e esz l F) : Sp (x :: H) g e esz l (fun g' l' => x :: F g' l') := by
  obtain ⟨X, h1, h2⟩ := h
  exact ⟨x :: X, (h1.cons x).trans (shp_cons _ _ _ _ _ _), fun g' l' => (shp_cons _ _ _ _ _ _).symm.trans ((h2 g' l').cons x)⟩
theorem Sp.over {g g2 : Option (Nat × Nat)} {e e2 : TypeId} {esz esz2 : Nat} {l l2 : List D} {H : Heap} {F : Option (Nat × Nat) → List D → Heap} (h : Sp H g e esz l F) :
    Sp (shp g2 e2 esz2 l2 H) g e esz l (fun g' l' => shp g2 e2 esz2 l2 (F g' l')) := by
  obtain ⟨X, h1, h2⟩ := h
  exact ⟨shp g2 e2 esz2 l2 X, (shp_perm _ _ _ _ h1).trans (shp_shp _ _ _ _ _ _ _ _ _), fun g' l' => (shp_shp _ _ _ _ _ _ _ _ _).symm.trans (shp_perm _ _ _ _ (h2 g' l'))⟩

def cAppS (kd : Kd) (s x : D) (H : Heap) (K : D → Heap → Prop) : Prop :=
  match kd, s with
  | .slice e esz eb _ _, .gs g n => ∃ F l news m, Sp H g e esz l F ∧ l.length = n * esz ∧ srcOk esz x H news m ∧ (0 < esz ∧ 0 < eb ∧ (n + m) * eb ≤ 140737488355328) ∧
      ∀ g', gOk g' (n + m) → K (.gs g' (n + m)) (F g' (l ++ news))
  | .slice e esz eb ea ez, .sl full esz' rows => cAppend (.slice e esz eb ea ez) (.sl full esz' rows) x H K
  | _, _ => False

theorem r_appS {P : Program} (T : Tab P) {o : Oper} {E : Operand → D} {H : Heap} {K : D → Heap → Prop} {s x : Operand} {t : TypeId} (ho : o.op = .call ⟨.builtin .append, #[s, x], #[t, t]⟩)
    (hk : cAppS (kdT (T.get t)) (E s) (E x) H K) : Op1 P o E H K := by
  unfold cAppS at hk
  split at hk
  · rename_i e esz eb ea ez g n hkd hs0
    obtain ⟨F, l, news, m, ⟨X, p1, p2⟩, hl, hsrc, hb, hk⟩ := hk
    refine ⟨fun d H' => ∃ g', gOk g' (n + m) ∧ d = .gs g' (n + m) ∧ H' = F g' (l ++ news), ?_, fun d H' ⟨g', k1, k2, k3⟩ => k2 ▸ k3 ▸ hk g' k1⟩
    intro w L0 ε hi hx
    have hi' := hi.perm p1
    obtain ⟨Φ, hop, hc⟩ := r_append T (E := E) (H := shp g e esz l X) (K := fun d G => ∃ g', gOk g' (n + m) ∧ d = .gs g' (n + m) ∧ G = shp g' e esz (l ++ news) X) ho (by
      rw [hkd, hs0]
      exact ⟨l, X, news, m, rfl, hl, srcOk_perm p1 hi.nodup hsrc, hb, fun g' k1 _ => ⟨g', k1, rfl, rfl⟩⟩)
    refine (hop w L0 ε hi' (fun y hy => by rw [live_perm p1]; exact hx y hy)).mono fun v w' ⟨d, G, h1, h2, h3, h4⟩ => ?_
    obtain ⟨g', k1, k2, k3⟩ := hc d G h1
    subst k3
    refine ⟨d, _, ⟨g', k1, k2, rfl⟩, ?_, h3.perm (p2 g' _), h4.perm p1.symm (p2 g' _)⟩
    rw [live_perm (p2 g' _)]; exact h2
  · rename_i e esz eb ea ez full esz' rows hkd hs0
    exact r_append T ho (by rw [hkd, hs0]; exact hk)
  · exact hk.elim

/-! ### Blocks let go -/

theorem VC.nodup {P : Program} {n : Nat} {c : Code} {s : St} {Q : Exit → St → Prop} (h : s.heap.blocks.Nodup → VC P n c s Q) : VC P n c s Q := fun x a w hn hs => h hs.inv.nodup x a w hn hs

theorem Weak.heap {env : Nat → D} {H H' : Heap} (h : H'.Sublist H) : Weak ⟨env, H⟩ ⟨env, H'⟩ := fun x a w hs =>
  { env := fun t => Rel.mono (SubH.live h w x.L0) _ _ (hs.env t)
    inv := SubH.inv h hs.inv, evo := SubH.evo h hs.evo, defers := hs.defers, size := hs.size }
theorem Weak.subH {env : Nat → D} {env' : List (Nat × D)} {H H' : Heap} (hh : H'.Sublist H) (h : Vc.sub env env') : Weak ⟨env, H⟩ ⟨lookD env', H'⟩ := fun x a w hs =>
  Weak.heap hh x a w ((Weak.sub (H := H) h) x a w hs)

/-! ### Own cells, handed back to be read -/

theorem rowsOf_flatten {esz : Nat} : ∀ (rows : List (List D)), (∀ r, r ∈ rows → r.length = esz) → rowsOf esz rows.length rows.flatten = rows
  | [], _ => rfl
  | r :: rs, h => by
    have h1 := h r (List.mem_cons_self ..)
    rw [List.length_cons, rowsOf, List.flatten_cons, List.take_left' h1, List.drop_left' h1, rowsOf_flatten rs fun r hr => h r (List.mem_cons_of_mem _ hr)]

theorem flatten_len {esz : Nat} : ∀ (rows : List (List D)), (∀ r, r ∈ rows → r.length = esz) → rows.flatten.length = rows.length * esz
  | [], _ => by simp
  | r :: rs, h => by
    rw [List.flatten_cons, List.length_append, h r (List.mem_cons_self ..), flatten_len rs fun r hr => h r (List.mem_cons_of_mem _ hr), List.length_cons, Nat.add_mul]; omega

theorem Fun.freeze {P : Program} {f : FuncId} {args : List D} {esz : Nat} {rows : List (List D)} (hr : ∀ r, r ∈ rows → r.length = esz)
    (h : Fun P f args [] false (fun d H' => ∃ g e, d = .gs g rows.length ∧ H' = shp g e esz rows.flatten [])) : Pure P f args (.sl false esz rows) := by
  refine ⟨h.1, fun w L0 vs hi hv => (h.2 w L0 vs hi hv).mono fun ee w' ⟨v, he, d, H', ⟨g, e, hd, hH⟩, h2, h3, h4⟩ => ?_⟩
  subst hd; subst hH
  refine ⟨v, he, .sl false esz rows, [], ⟨rfl, rfl⟩, ?_, SubH.inv (List.nil_sublist _) h3, SubH.evo (List.nil_sublist _) h4⟩
  rw [Rel] at h2
  obtain ⟨rfl, hg⟩ := h2
  cases g with
  | none =>
    have h0 : rows = [] := List.eq_nil_of_length_eq_zero hg
    subst h0
    exact ⟨none, 0, rfl, ⟨Nat.le_refl _, fun _ => rfl⟩, fun h => (by cases h), .inl rfl⟩
  | some p =>
    obtain ⟨b, cap⟩ := p
    refine ⟨some ⟨b, 0, none⟩, cap, rfl, ⟨hg, fun h => (by cases h)⟩, fun h => (by cases h), .inr ⟨b, 0, rfl, ?_⟩⟩
    have hc := h3.rel b _ (List.mem_cons_self ..)
    have hone := hc.1
    obtain ⟨cs, hcs, hcell⟩ := HRel.cells hc
    have hb : ¬ live [] (fun b => L0 b ∨ (false = true ∧ b < w.heap.size ∧ b ∉ Heap.blocks [])) b := fun hl => by
      rcases hl with (hl | hl) | hl
      · exact h3.apart b (by simp [Heap.blocks, shp]) hl
      · cases hl.1
      · simp [Heap.blocks] at hl
    have hkeep : Keeps w' (live (shp (some (b, cap)) e esz rows.flatten []) L0) w' (live [] (fun b => L0 b ∨ (false = true ∧ b < w.heap.size ∧ b ∉ Heap.blocks []))) := Keeps.less fun k _ hl => by
      rcases hl with (hl | hl) | hl
      · exact .inl hl
      · cases hl.1
      · simp [Heap.blocks] at hl
    have := RowsAt.of (esz := esz) hb rows.length rows.flatten cs 0 (by rw [flatten_len _ hr]; exact Nat.le_refl _) hone (RelL.mono hkeep _ _ hcs) (fun j v hv => by simpa using hcell j v hv)
    rwa [rowsOf_flatten _ hr] at this

/-! ### Two structs, compared -/

def EqS (P : Program) (t : TypeId) (l1 l2 : List Value) (r : Bool) : Prop :=
  P.eqGuardType P.depth t = false ∧ ∀ w, (Op.equalIn 10000 t (.agg l1.toArray) (.agg l2.toArray)).run P w = .ok r w

theorem RelL.is {w : World} {L : Nat → Prop} : ∀ (l : List Value) (vs : List Value), RelL w L (l.map D.is) vs → vs = l
  | [], vs, h => h
  | v :: l, vs, h => by
    rw [List.map_cons, RelL] at h
    obtain ⟨u, r, rfl, h1, h2⟩ := h
    rw [RelL.is l r h2, show u = v from h1]

theorem run_eqGuard_no {P : Program} {t : TypeId} (h : P.eqGuardType P.depth t = false) (op : BinOp) (x y : Operand) (a b : Array Value) (w : World) : (eqGuard op t x y (.agg a) (.agg b)).run P w = .ok () w := by
  unfold eqGuard
  refine run_ite rfl ?_
  refine (run_bind (a := P) (w' := w) rfl).trans ?_
  simp [h]

theorem hget_eq {b : Nat} {c : HC} {H : Heap} : hget ((b, c) :: H) b = some c := by simp [hget]
theorem hget_ne {k b : Nat} {c : HC} {H : Heap} (h : ¬ k = b) : hget ((k, c) :: H) b = hget H b := by
  have : (k == b) = false := by simpa using h
  simp [hget, this]
theorem hset_eq {b : Nat} {c c' : HC} {H : Heap} : hset ((b, c) :: H) b c' = (b, c') :: H := by simp [hset]
theorem hset_ne {k b : Nat} {c c' : HC} {H : Heap} (h : ¬ k = b) : hset ((k, c) :: H) b c' = (k, c) :: hset H b c' := by
  have : (k == b) = false := by simpa using h
  simp [hset, this]

def eqRes (op : BinOp) (r : Bool) : Option Bool := match op with | .eql => some r | .neq => some !r | _ => none

theorem Op1.eqS {P : Program} {o : Oper} {E : Operand → D} {H : Heap} {K : D → Heap → Prop} {op : BinOp} {t u : TypeId} {x y : Operand} {l1 l2 : List Value} {r r' : Bool} (ho : o.op = .binOp op t x y u)
    (h : EqS P t l1 l2 r) (hx0 : E x = .agg (l1.map D.is)) (hy0 : E y = .agg (l2.map D.is)) (hr : eqRes op r = some r') (hk : K (.is (.bool r')) H) : Op1 P o E H K := by
  refine Op1.value (d := .is (.bool r')) (fun w L0 ε hi hx => ?_) hk
  have h1 := hx x (by simp [ho, Op.operands])
  have h2 := hx y (by simp [ho, Op.operands])
  rw [hx0, Rel] at h1
  rw [hy0, Rel] at h2
  obtain ⟨_, c1, e1, q1⟩ := h1
  obtain ⟨_, c2, e2, q2⟩ := h2
  have d1 : c1 = l1.toArray := by rw [← RelL.is _ _ q1]
  have d2 : c2 = l2.toArray := by rw [← RelL.is _ _ q2]
  subst d1; subst d2
  refine ⟨_, ?_, rfl⟩
  have he : (Op.equal t (.agg l1.toArray) (.agg l2.toArray)).run P w = .ok r w := h.2 w
  simp only [execOp, ho, e1, e2]
  refine (run_bind (a := .bool r') (w' := w) ?_).trans rfl
  rw [run_bind (run_eqGuard_no h.1 op x y _ _ w)]
  cases op <;> simp only [eqRes] at hr <;> cases hr
  · show (Op.equal t _ _ >>= fun r => pure (Value.bool r)).run P w = _
    rw [run_bind (a := r) (w' := w) he]; rfl
  · show (Op.equal t _ _ >>= fun r => pure (Value.bool (!r))).run P w = _
    rw [run_bind (a := r) (w' := w) he]; rfl

end Go.Vc
