/- A function's contract over descriptors; how it is proved from a walk, and met at a call. No condition. -/
import Derived.Test.YtlnmljmeahknaaaVb
namespace Go.Vc
set_option linter.unusedSimpArgs false
open Go
set_option linter.unusedVariables false

/-- 'f' is a function with a body. -/
def Body (P : Program) (f : FuncId) : Prop := ∃ fn, P.funcs[f]? = some fn ∧ fn.body.isSome = true ∧ (fn.name == "runtime.NumGoroutine") = false

/-- The call of function 'f' with arguments as 'args' says, its own blocks being as 'H' says, hands back what 'Φ' says, and turns no other block. 'fr': what it hands back lies in new blocks. -/
def Fun (P : Program) (f : FuncId) (args : List D) (H : Heap) (fr : Bool) (Φ : D → Heap → Prop) : Prop :=
  Body P f ∧ ∀ (w : World) (L0 : Nat → Prop) (vs : List Value), HInv w L0 H → RelL w (live H L0) args vs →
    Calls P f vs.toArray w fun e w' => ∃ v, e = .returned v ∧ ∃ d H', Φ d H' ∧
      Rel w' (live H' (fun b => L0 b ∨ (fr = true ∧ b < w.heap.size ∧ b ∉ H.blocks))) d v ∧ HInv w' L0 H' ∧ Evo w H w' H'

theorem Fun.mono {P : Program} {f : FuncId} {args : List D} {H : Heap} {fr : Bool} {Φ Ψ : D → Heap → Prop} (h : Fun P f args H fr Φ) (hk : ∀ d H', Φ d H' → Ψ d H') : Fun P f args H fr Ψ :=
  ⟨h.1, fun w L0 vs hi hr => (h.2 w L0 vs hi hr).mono fun e w' ⟨v, he, d, H', h1, h2⟩ => ⟨v, he, d, H', hk _ _ h1, h2⟩⟩

/-- A result that is one value, the function having no block of its own before and behind. -/
abbrev Pure (P : Program) (f : FuncId) (args : List D) (d : D) : Prop := Fun P f args [] false (fun d' H' => d' = d ∧ H' = [])

/-! ### From a walk -/

def argE : List D → Nat → Nat → D
  | [], _ => fun _ => .any
  | d :: r, i => upd (argE r (i + 1)) i d

theorem argE_spec {w : World} {L : Nat → Prop} : ∀ (args : List D) (vs : List Value), RelL w L args vs → ∀ (i t : Nat), Rel w L (argE args i t) ((if i ≤ t then vs[t - i]? else none).getD undef)
  | [], vs, h, i, t => trivial
  | d :: r, vs, h, i, t => by
    rw [RelL] at h
    obtain ⟨v, rest, rfl, h1, h2⟩ := h
    simp only [argE, upd]
    by_cases e : i = t
    · subst e; simpa using h1
    · have e' : (i == t) = false := by simpa using e
      have := argE_spec r rest h2 (i + 1) t
      rw [e', cond_false]
      by_cases hle : i ≤ t
      · rw [if_pos hle]
        rw [if_pos (by omega)] at this
        rwa [show t - i = (t - (i + 1)) + 1 by omega, List.getElem?_cons_succ]
      · rw [if_neg hle]
        rwa [if_neg (by omega)] at this

def aggT : TypeDesc → Bool
  | .struct _ | .array _ _ => true
  | _ => false

/-- A type's kind, as a walk asks it. -/
inductive Kd where
  | other
  | int (k : IntKind)
  | str
  | bool
  | struct (fields : List (Nat × Nat × Bool))
  | slice (e : TypeId) (esz : Nat) (ebytes : Nat) (eagg : Bool) (ezero : List Value)
  | array (n : Nat) (esz : Nat) (eagg : Bool)

structure TyI where
  known : Bool
  kd : Kd
  agg : Bool
  size : Nat
  zero : List Value

def aggOf (P : Program) (t : TypeId) : Bool := match P.underlying t with | some d => aggT d | none => false
def zeroOf (P : Program) (t : TypeId) : List Value := match P.info? t with | some i => (match i.zero with | some z => z.cells.toList | none => []) | none => []
def szOf (P : Program) (t : TypeId) : Nat := match P.info? t with | some i => i.size | none => 0
def btOf (P : Program) (t : TypeId) : Nat := match P.info? t with | some i => i.bytes | none => 0
def knOf (P : Program) (t : TypeId) : Bool := match P.underlying t, P.info? t with | some _, some i => i.zero.isSome && Nat.beq (zeroOf P t).length i.size | _, _ => false

def kdOf (P : Program) : TypeDesc → Kd
  | .int k => .int k
  | .string => .str
  | .bool => .bool
  | .struct fs => match fs.toList.all (fun f => knOf P f.type) with
    | true => .struct (fs.toList.map fun f => (f.offset, szOf P f.type, aggOf P f.type))
    | false => .other
  | .slice e => match knOf P e with | true => .slice e (szOf P e) (btOf P e) (aggOf P e) (zeroOf P e) | false => .other
  | .array n e => match knOf P e with | true => .array n (szOf P e) (aggOf P e) | false => .other
  | _ => .other

def tyOf (P : Program) (t : TypeId) : TyI :=
  match P.underlying t with
  | some d => ⟨knOf P t, kdOf P d, aggT d, szOf P t, zeroOf P t⟩
  | none => ⟨false, .other, false, 0, []⟩

theorem knOf_facts {P : Program} {t : TypeId} (h : knOf P t = true) :
    ∃ d i z, P.underlying t = some d ∧ P.info? t = some i ∧ i.zero = some z ∧ i.size = szOf P t ∧ aggT d = aggOf P t ∧ z.cells.toList = zeroOf P t ∧ (zeroOf P t).length = szOf P t ∧ i.bytes = btOf P t := by
  unfold knOf at h
  cases hu : P.underlying t with
  | none => simp [hu] at h
  | some d =>
    cases hi : P.info? t with
    | none => simp [hu, hi] at h
    | some i =>
      simp only [hu, hi, Bool.and_eq_true] at h
      cases hz : i.zero with
      | none => simp [hz] at h
      | some z =>
        refine ⟨d, i, z, rfl, rfl, hz, by simp [szOf, hi], by simp [aggOf, hu], by simp [zeroOf, hi, hz], ?_, by simp [btOf, hi]⟩
        have := h.2
        simp only [szOf, hi]
        exact Nat.eq_of_beq_eq_true this

theorem tyOf_facts {P : Program} {t : TypeId} {x : TyI} (h : tyOf P t = x) (hx : x.known = true) :
    ∃ d i z, P.underlying t = some d ∧ P.info? t = some i ∧ i.zero = some z ∧ x.kd = kdOf P d ∧ aggT d = x.agg ∧ i.size = x.size ∧ z.cells.toList = x.zero ∧ x.zero.length = x.size ∧ knOf P t = true := by
  subst h
  unfold tyOf at hx ⊢
  cases hu : P.underlying t with
  | none => simp [hu] at hx
  | some d =>
    simp only [hu] at hx ⊢
    obtain ⟨d', i, z, h1, h2, h3, h4, h5, h6, h7, h8⟩ := knOf_facts hx
    rw [hu] at h1
    cases h1
    exact ⟨d, i, z, rfl, h2, h3, rfl, rfl, h4, h6, h7, hx⟩

/-- The types' table, as far as it is laid. -/
structure Tab (P : Program) where
  get : TypeId → TyI
  ok : ∀ t, (get t).known = true → get t = tyOf P t

def lookT : List (TypeId × TyI) → TypeId → TyI
  | [], _ => ⟨false, .other, false, 0, []⟩
  | (k, i) :: r, t => bif k == t then i else lookT r t
theorem lookT_ok {P : Program} : ∀ (l : List (TypeId × TyI)), l.map (fun x => tyOf P x.1) = l.map (·.2) → ∀ t, (lookT l t).known = true → lookT l t = tyOf P t
  | [], _, t, hk => by simp [lookT] at hk
  | (k, i) :: r, h, t, hk => by
    simp only [List.map_cons, List.cons.injEq] at h
    simp only [lookT] at hk ⊢
    by_cases e : k = t
    · subst e; simp [h.1]
    · have e' : (k == t) = false := by simpa using e
      simp only [e', cond_false] at hk ⊢
      exact lookT_ok r h.2 t hk

theorem Tab.facts {P : Program} (T : Tab P) {t : TypeId} (hx : (T.get t).known = true) :
    ∃ d i z, P.underlying t = some d ∧ P.info? t = some i ∧ i.zero = some z ∧ (T.get t).kd = kdOf P d ∧ aggT d = (T.get t).agg ∧ i.size = (T.get t).size ∧ z.cells.toList = (T.get t).zero ∧ (T.get t).zero.length = (T.get t).size ∧ knOf P t = true :=
  tyOf_facts (T.ok t hx).symm hx

/-! ### Cells read -/

theorem run_bind {α β : Type} {P : Program} {x : Sem α} {f : α → Sem β} {a : α} {w w' : World} (h : x.run P w = .ok a w') : (x >>= f).run P w = (f a).run P w' := by
  simp [go_sem, h]
theorem run_pure {α : Type} {P : Program} {a : α} {w : World} : (pure a : Sem α).run P w = .ok a w := rfl

theorem add0 (b o n : Nat) : (⟨b, o, none⟩ : Addr).add n = ⟨b, o + n, none⟩ := by
  unfold Addr.add
  split
  · rename_i h; subst h; rfl
  · rfl

theorem run_isAgg {P : Program} {t : TypeId} {d : TypeDesc} (h : P.underlying t = some d) (w : World) :
    (isAgg t).run P w = .ok (aggT d) w := by
  simp [isAgg, run_underlying h, go_sem]
  cases d <;> simp [go_sem, aggT]

theorem run_info {P : Program} {t : TypeId} {i : TypeInfo} (h : P.info? t = some i) (w : World) : (typeInfo t).run P w = .ok i w := by
  simp [typeInfo, h, go_sem]

theorem run_sz {P : Program} {t : TypeId} {i : TypeInfo} (h : P.info? t = some i) (w : World) : (sizeOf t).run P w = .ok i.size w := by
  simp [sizeOf, run_info h, go_sem]

theorem run_loadVar_cells {P : Program} {w : World} {b o : Nat} {t : TypeId} {d : TypeDesc} {i : TypeInfo} (cs : List Value) (hu : P.underlying t = some d) (hi : P.info? t = some i) (hk : i.size = cs.length)
    (hc : ∀ (j : Nat) v, cs[j]? = some v → w.cell? ⟨b, o + j, none⟩ = some v) (ha : aggT d = true) :
    (loadVar t ⟨b, o, none⟩).run P w = .ok (.agg cs.toArray) w := by
  have h1 := run_isAgg hu w
  rw [ha] at h1
  have h2 := run_loadCells_list (P := P) (w := w) ⟨b, o, none⟩ cs (fun j v hv => by rw [add0]; exact hc j v hv)
  unfold loadVar
  rw [run_bind h1]
  simp only [if_true]
  rw [run_bind (run_sz hi w), hk, run_bind h2]
  rfl

theorem run_loadVar_cell {P : Program} {w : World} {b o : Nat} {t : TypeId} {d : TypeDesc} {v : Value} (hu : P.underlying t = some d)
    (hc : w.cell? ⟨b, o, none⟩ = some v) (ha : aggT d = false) : (loadVar t ⟨b, o, none⟩).run P w = .ok v w := by
  have h1 := run_isAgg hu w
  rw [ha] at h1
  unfold loadVar
  rw [run_bind h1]
  simp only [Bool.false_eq_true, if_false]
  simp [load, Sem.run, hc]

theorem HRel.cells {w : World} {b n : Nat} {ty : TypeId} {l : List D} {L : Nat → Prop} (h : HRel w L b (.cells ty n l)) :
    ∃ cs : List Value, RelL w L l cs ∧ ∀ (j : Nat) v, cs[j]? = some v → w.cell? ⟨b, j, none⟩ = some v := by
  obtain ⟨_, arr, hb, hn, hr⟩ := h
  refine ⟨_, hr, fun j v hv => ?_⟩
  rw [List.getElem?_take] at hv
  split at hv
  · simp only [World.cell?, hb]; simpa using hv
  · cases hv

/-- A row of cells that is read: the values. -/
theorem CellsAt.values {w : World} {L : Nat → Prop} : ∀ (l : List D) (b o : Nat), CellsAt w L l b o → ∃ cs : List Value, RelL w L l cs ∧ ∀ (j : Nat) v, cs[j]? = some v → w.cell? ⟨b, o + j, none⟩ = some v
  | [], b, o, _ => ⟨[], rfl, fun j v hv => by simp at hv⟩
  | d :: ds, b, o, h => by
    rw [CellsAt] at h
    obtain ⟨_, ⟨_, v, hv, hr⟩, h2⟩ := h
    obtain ⟨cs, hcs, hc⟩ := CellsAt.values ds b (o + 1) h2
    refine ⟨v :: cs, ⟨v, cs, rfl, hr, hcs⟩, fun j u hu => ?_⟩
    cases j with
    | zero => simp at hu; subst hu; simpa using hv
    | succ j =>
      have := hc j u (by simpa using hu)
      rwa [show o + 1 + j = o + (j + 1) by omega] at this

/-! ### Results -/

/-- The results of a function, off the state at its end. -/
def ResL {P : Program} (T : Tab P) (s : St) : List ResultVar → List D → Prop
  | [], ds => ds = []
  | .tmp t :: r, ds => ∃ rest, ds = s.env t :: rest ∧ ResL T s r rest
  | .cell a t :: r, ds => ∃ b ty n l rest, s.env a = .is (.pointer (some ⟨b, 0, none⟩)) ∧ (b, HC.cells ty n l) ∈ s.heap ∧
      (T.get t).known = true ∧ (T.get t).size = l.length ∧
      (match (T.get t).agg with
        | true => ds = .agg l :: rest
        | false => ∃ d, l = [d] ∧ ds = d :: rest) ∧ ResL T s r rest

def resD : List D → D
  | [d] => d
  | ds => .tup ds

theorem run_resL {P : Program} (T : Tab P) {s : St} {w : World} {L0 : Nat → Prop} {tmps : Array Value} (hi : HInv w L0 s.heap) (he : ∀ t, Rel w (live s.heap L0) (s.env t) (tmps.getD t undef)) :
    ∀ (rs : List ResultVar) (ds : List D), ResL T s rs ds → ∃ vs, RelL w (live s.heap L0) ds vs ∧
      (rs.mapM (fun | .tmp t => pure (tmps.getD t undef) | .cell a t => do loadVar t (← asAddr (tmps.getD a undef)) : ResultVar → Sem Value)).run P w = .ok vs w
  | [], ds, h => by
    rw [ResL] at h; subst h
    exact ⟨[], rfl, by simp [go_sem]⟩
  | .tmp t :: r, ds, h => by
    rw [ResL] at h
    obtain ⟨rest, rfl, h⟩ := h
    obtain ⟨vs, h1, h2⟩ := run_resL T hi he r rest h
    refine ⟨tmps.getD t undef :: vs, ⟨_, _, rfl, he t, h1⟩, ?_⟩
    rw [List.mapM_cons, run_bind run_pure, run_bind h2]
    rfl
  | .cell a t :: r, ds, h => by
    rw [ResL] at h
    obtain ⟨b, ty, n, l, rest, ha, hb, hk, hs, hm, h⟩ := h
    obtain ⟨vs, h1, h2⟩ := run_resL T hi he r rest h
    obtain ⟨d, i, z, hu, hinfo, _, _, hagg, hsz, _⟩ := T.facts hk
    obtain ⟨cs, hcs, hc⟩ := HRel.cells (hi.rel _ _ hb)
    have hlen := RelL.length _ _ hcs
    have hpa : tmps.getD a undef = .pointer (some ⟨b, 0, none⟩) := by have := he a; rw [ha] at this; exact this
    cases hag : (T.get t).agg with
    | true =>
      rw [hag] at hm
      obtain rfl := hm
      have hl := run_loadVar_cells (P := P) (w := w) (b := b) (o := 0) cs hu hinfo (by rw [hsz, hs, hlen]) (by simpa using hc) (by rw [hagg, hag])
      refine ⟨.agg cs.toArray :: vs, ⟨_, _, rfl, ⟨(hi.rel _ _ hb).1, _, rfl, by simpa using hcs⟩, h1⟩, ?_⟩
      have hl' : (asAddr (tmps.getD a undef) >>= fun x => loadVar t x).run P w = .ok (.agg cs.toArray) w := by
        rw [hpa, run_bind (a := ⟨b, 0, none⟩) (w' := w) rfl, hl]
      rw [List.mapM_cons, run_bind hl', run_bind h2]
      rfl
    | false =>
      rw [hag] at hm
      obtain ⟨d0, rfl, rfl⟩ := hm
      obtain ⟨v, hv, hr⟩ := RelL.get _ _ hcs 0 d0 rfl
      have hl := run_loadVar_cell (P := P) (w := w) (b := b) (o := 0) hu (hc 0 v hv) (by rw [hagg, hag])
      refine ⟨v :: vs, ⟨_, _, rfl, hr, h1⟩, ?_⟩
      have hl' : (asAddr (tmps.getD a undef) >>= fun x => loadVar t x).run P w = .ok v w := by
        rw [hpa, run_bind (a := ⟨b, 0, none⟩) (w' := w) rfl, hl]
      rw [List.mapM_cons, run_bind hl', run_bind h2]
      rfl

theorem run_results {P : Program} (T : Tab P) {s : St} {w : World} {L0 : Nat → Prop} {tmps : Array Value} (hi : HInv w L0 s.heap) (he : ∀ t, Rel w (live s.heap L0) (s.env t) (tmps.getD t undef))
    (fn : Func) (ds : List D) (h : ResL T s fn.results.toList ds) : ∃ v, (results fn tmps).run P w = .ok v w ∧ Rel w (live s.heap L0) (resD ds) v := by
  obtain ⟨vs, h1, h2⟩ := run_resL T hi he _ _ h
  have h3 := RelL.length _ _ h1
  refine ⟨if h : vs.toArray.size = 1 then vs.toArray[0] else .tuple vs.toArray, ?_, ?_⟩
  · unfold results
    rw [Array.mapM_eq_mapM_toList]
    rw [run_bind (w' := w) (a := vs.toArray) (by rw [map_eq_pure_bind]; exact (run_bind (f := fun a => pure a.toArray) h2).trans rfl)]
    rfl
  · match ds, vs, h1, h3 with
    | [], [], _, _ => exact ⟨#[], by simp, rfl⟩
    | [d], [v], h1, _ =>
      obtain ⟨v', r, e, h4, _⟩ := h1
      cases e
      simpa [resD] using h4
    | d1 :: d2 :: ds, v1 :: v2 :: vs, h1, _ => exact ⟨_, by simp; rfl, by simpa using h1⟩

/-! ### From a walk to a contract -/

/-- A part of the blocks of one's own, the others let go. -/
def SubH : Heap → Heap → Prop
  | H', H => H'.Sublist H

theorem SubH.blocks {H' H : Heap} (h : H'.Sublist H) : ∀ b, b ∈ H'.blocks → b ∈ H.blocks := fun b hb => (h.map (·.1)).subset hb
theorem SubH.live {H' H : Heap} (h : H'.Sublist H) (w : World) (L0 : Nat → Prop) : Keeps w (live H L0) w (live H' L0) :=
  Keeps.less fun b _ hl => hl.imp id (SubH.blocks h b)
theorem HRel.mono {w w' : World} {L L' : Nat → Prop} {b : Nat} {c : HC} (h : HRel w L b c) (hk : Keeps w L w' L') (hb : w'.heap[b]? = w.heap[b]?) : HRel w' L' b c := by
  cases c with
  | cells ty n l =>
    obtain ⟨h0, arr, h1, h2, h3⟩ := h
    exact ⟨h0, arr, hb.trans h1, h2, RelL.mono hk _ _ h3⟩
  | iter s pos => exact hb.trans h
theorem SubH.inv {H' H : Heap} (h : H'.Sublist H) {w : World} {L0 : Nat → Prop} (hi : HInv w L0 H) : HInv w L0 H' where
  rel b c hm := (hi.rel b c (h.subset hm)).mono (SubH.live h w L0) rfl
  nodup := List.Sublist.nodup (show List.Sublist (List.map Prod.fst H') (List.map Prod.fst H) from h.map _) hi.nodup
  apart b hb := hi.apart b (SubH.blocks h b hb)
  old := hi.old
theorem SubH.evo {H' H : Heap} (h : H'.Sublist H) {w w' : World} {H0 : Heap} (he : Evo w H0 w' H) : Evo w H0 w' H' :=
  ⟨he.os, he.tape, he.output, he.size, he.block, fun b hb => he.fresh b (SubH.blocks h b hb)⟩

/-- What is to be shown at a function's end. -/
def retQ {P : Program} (T : Tab P) (rs : List ResultVar) (Φ : D → Heap → Prop) : Exit → St → Prop
  | .ret, s | .normal, s => ∃ ds H', ResL T s rs ds ∧ H'.Sublist s.heap ∧ Φ (resD ds) H'
  | _, _ => False

theorem Fun.of {P : Program} (T : Tab P) {f : FuncId} {fn : Func} {c : Code} {n : Nat} {args : List D} {H : Heap} {Φ : D → Heap → Prop} (rs : List ResultVar)
    (hf : P.funcs[f]? = some fn) (hb : fn.body = some c) (hn : fn.ntmps = n) (hrs : fn.results = rs.toArray) (hargs : Nat.ble args.length n = true) (hname : (fn.name == "runtime.NumGoroutine") = false)
    (h : VC P n c ⟨argE args 0, H⟩ (retQ T rs Φ)) : Fun P f args H false Φ := by
  refine ⟨⟨fn, hf, by rw [hb]; rfl, hname⟩, ?_⟩
  intro w L0 vs hi hr
  have hlen := RelL.length _ _ hr
  have hle : args.length ≤ n := by simpa using hargs
  refine calls_of_wp hf hb ?_
  let x : Ctx := ⟨w, L0, H, n⟩
  have hs : SRel x ⟨argE args 0, H⟩ { tmps := vs.toArray ++ Array.replicate (fn.ntmps - vs.toArray.size) undef, defers := [] } w := by
    refine ⟨fun t => ?_, hi, Evo.refl _ _, rfl, ?_⟩
    · have := argE_spec args vs hr 0 t
      simp only [Nat.zero_le, if_true, Nat.sub_zero] at this
      have e : (vs.toArray ++ Array.replicate (fn.ntmps - vs.toArray.size) undef).getD t undef = (vs[t]?).getD undef := by
        rw [Array.getD_eq_getD_getElem?, Array.getElem?_append]
        split
        · simp
        · rename_i hlt
          have h1 : vs[t]? = none := by simp at hlt ⊢; exact hlt
          rw [h1]
          rw [Array.getElem?_replicate]
          split <;> rfl
      rw [e]; exact this
    · show (vs.toArray ++ Array.replicate (fn.ntmps - vs.toArray.size) undef).size = n
      simp [hn, hlen]; omega
  refine wp_mono (h x _ w rfl hs) ?_
  rintro e a' w' ⟨s', hq, hr'⟩
  have fin : (∃ ds H', ResL T s' rs ds ∧ H'.Sublist s'.heap ∧ Φ (resD ds) H') → a'.defers = [] ∧ ∃ v, (results fn a'.tmps).run P w' = .ok v w' ∧
      ∃ u, Ending.returned v = .returned u ∧ ∃ d H', Φ d H' ∧ Rel w' (live H' (fun b => L0 b ∨ (false = true ∧ b < w.heap.size ∧ b ∉ H.blocks))) d u ∧ HInv w' L0 H' ∧ Evo w H w' H' := by
    rintro ⟨ds, H', h1, h2, h3⟩
    obtain ⟨v, hv, hrel⟩ := run_results T hr'.inv hr'.env fn ds (by rw [hrs]; exact h1)
    refine ⟨hr'.defers, v, hv, v, rfl, resD ds, H', h3, ?_, SubH.inv h2 hr'.inv, SubH.evo h2 hr'.evo⟩
    refine Rel.mono (Keeps.less fun b _ hl => ?_) _ _ hrel
    rcases hl with hl | hl
    · exact .inl (hl.elim id (fun h => absurd h.1 (by simp)))
    · exact .inr (SubH.blocks h2 b hl)
  cases e with
  | normal => obtain ⟨h1, v, h2, h3⟩ := fin hq; exact ⟨h1, v, h2, h3⟩
  | ret => obtain ⟨h1, v, h2, h3⟩ := fin hq; exact ⟨h1, v, h2, h3⟩
  | exit id => exact hq.elim
  | goto l => exact hq.elim
  | panic ch => exact hq.elim
  | outgrown => exact hq.elim

/-! ### A call -/

theorem run_callFunc {P : Program} {f : FuncId} {fn : Func} (hf : P.funcs[f]? = some fn) (hb : fn.body.isSome = true) (hname : (fn.name == "runtime.NumGoroutine") = false) (args : Array Value) (w : World) :
    (callFunc f args).run P w = .ok (.enter f args) w := by
  have : fn.body.isNone = false := by cases h : fn.body <;> simp_all
  unfold callFunc
  rw [run_bind (a := P) (w' := w) rfl]
  simp only [hf, hname, this, Bool.false_eq_true, if_false]
  rfl

theorem Op1.call {P : Program} {o : Oper} {E : Operand → D} {f : FuncId} {as : Array Operand} {tys : Array TypeId} {Hp Hr : Heap} {fr : Bool} {Φ : D → Heap → Prop} {K : D → Heap → Prop}
    (ho : o.op = .call ⟨.value (.func f), as, tys⟩) (hE : E (.func f) = .is (.func (.func f) #[] #[])) (h : Fun P f (as.toList.map E) Hp fr Φ) (hk : ∀ d Hp', Φ d Hp' → K d (Hp' ++ Hr)) : Op1 P o E (Hp ++ Hr) K := by
  refine ⟨fun d H' => ∃ Hp', Φ d Hp' ∧ H' = Hp' ++ Hr, ?_, fun d H' ⟨Hp', h1, h2⟩ => h2 ▸ hk d Hp' h1⟩
  intro w L0 ε hi hx
  obtain ⟨⟨fn, hf, hbody, hname⟩, h⟩ := h
  have hrun : (execOp ε o).run P w = .ok (.enter f (as.toList.map ε).toArray) w := by
    have hff : ε (.func f) = .func (.func f) #[] #[] := by
      have := hx (.func f) (by simp [ho, Op.operands, Call.operands])
      rw [hE] at this; exact this
    have := run_callFunc hf hbody hname (as.map ε) w
    have e : (as.toList.map ε).toArray = as.map ε := by rw [← Array.toList_map]
    rw [e]
    simp [execOp, ho, resolve, Deferred.ofValue, hff, invoke, go_sem]
    exact this
  rw [hrun]
  have hmem : ∀ b, b ∈ (Hp ++ Hr).blocks ↔ b ∈ Hp.blocks ∨ b ∈ Hr.blocks := fun b => by simp [Heap.blocks]
  let L1 : Nat → Prop := fun b => L0 b ∨ b ∈ Hr.blocks
  have hlt : ∀ b, b ∈ (Hp ++ Hr).blocks → b < w.heap.size := fun b hb => by
    obtain ⟨⟨b', c⟩, hm, rfl⟩ := List.mem_map.1 hb
    have := hi.rel _ _ hm
    cases c with
    | cells ty n l =>
      obtain ⟨_, arr, h1, _⟩ := this
      rcases Nat.lt_or_ge b' w.heap.size with h' | h'
      · exact h'
      · simp [Array.getElem?_eq_none h'] at h1
    | iter s pos =>
      rcases Nat.lt_or_ge b' w.heap.size with h' | h'
      · exact h'
      · have h1 : w.heap[b']? = _ := this
        simp [Array.getElem?_eq_none h'] at h1
  have hnd : Hp.blocks.Nodup ∧ Hr.blocks.Nodup ∧ ∀ b, b ∈ Hp.blocks → b ∉ Hr.blocks := by
    have := hi.nodup
    simp only [Heap.blocks, List.map_append] at this
    obtain ⟨h1, h2, h3⟩ := List.nodup_append.1 this
    exact ⟨h1, h2, fun b hp hr => h3 b hp b hr rfl⟩
  have same : ∀ b, live Hp L1 b ↔ live (Hp ++ Hr) L0 b := fun b => by
    simp only [live, L1, hmem]
    constructor
    · rintro ((h | h) | h)
      · exact .inl h
      · exact .inr (.inr h)
      · exact .inr (.inl h)
    · rintro (h | h | h)
      · exact .inl (.inl h)
      · exact .inr h
      · exact .inl (.inr h)
  have hk1 : Keeps w (live (Hp ++ Hr) L0) w (live Hp L1) := Keeps.less fun b _ hl => (same b).1 hl
  have hi1 : HInv w L1 Hp :=
    { rel := fun b c hm => (hi.rel b c (List.mem_append_left _ hm)).mono hk1 rfl
      nodup := hnd.1
      apart := fun b hb hl => by
        rcases hl with hl | hl
        · exact hi.apart b ((hmem b).2 (.inl hb)) hl
        · exact hnd.2.2 b hb hl
      old := fun b hl => by
        rcases hl with hl | hl
        · exact hi.old b hl
        · exact hlt b ((hmem b).2 (.inr hl)) }
  have hargs : RelL w (live Hp L1) (as.toList.map E) (as.toList.map ε) := by
    have : ∀ l : List Operand, (∀ x ∈ l, x ∈ as.toList) → RelL w (live Hp L1) (l.map E) (l.map ε) := by
      intro l
      induction l with
      | nil => intro _; rfl
      | cons x l ih =>
        intro hl
        refine ⟨ε x, l.map ε, rfl, Rel.mono hk1 _ _ (hx x ?_), ih fun y hy => hl y (List.mem_cons_of_mem _ hy)⟩
        have := hl x (List.mem_cons_self ..)
        simp only [ho, Op.operands, Call.operands]
        exact Array.mem_append.2 (.inr (Array.mem_toList_iff.1 this))
    exact this _ fun _ h => h
  refine (h w L1 _ hi1 hargs).mono ?_
  rintro e w' ⟨v, rfl, d, Hp', hΦ, hrel, hi', he⟩
  have hmem' : ∀ b, b ∈ (Hp' ++ Hr).blocks ↔ b ∈ Hp'.blocks ∨ b ∈ Hr.blocks := fun b => by simp [Heap.blocks]
  have hevo : Evo w (Hp ++ Hr) w' (Hp' ++ Hr) :=
    ⟨he.os, he.tape, he.output, he.size, fun b hb hn => he.block b hb (fun h => hn ((hmem b).2 (.inl h))), fun b hb => by
      rcases (hmem' b).1 hb with h | h
      · exact (he.fresh b h).imp (fun h => (hmem b).2 (.inl h)) id
      · exact .inl ((hmem b).2 (.inr h))⟩
  refine ⟨v, rfl, d, Hp' ++ Hr, ⟨Hp', hΦ, rfl⟩, ?_, ?_, hevo⟩
  · refine Rel.mono (Keeps.less fun b _ hl => ?_) _ _ hrel
    rcases hl with hl | hl
    · exact .inl (.inl (.inl hl))
    · rcases (hmem' b).1 hl with hl | hl
      · exact .inr hl
      · exact .inl (.inl (.inr hl))
  · exact
      { rel := fun b c hm => by
          rcases List.mem_append.1 hm with hm | hm
          · refine (hi'.rel b c hm).mono (Keeps.less fun b _ hl => ?_) rfl
            rcases hl with hl | hl
            · exact .inl (.inl hl)
            · rcases (hmem' b).1 hl with hl | hl
              · exact .inr hl
              · exact .inl (.inr hl)
          · have hbr : b ∈ Hr.blocks := List.mem_map.2 ⟨(b, c), hm, rfl⟩
            exact (hi.rel b c (List.mem_append_right _ hm)).mono hevo.keeps (he.block b (hlt b ((hmem b).2 (.inr hbr))) (fun h => hnd.2.2 b h hbr))
        nodup := by
          simp only [Heap.blocks, List.map_append]
          refine List.nodup_append.2 ⟨hi'.nodup, hnd.2.1, fun a ha b hb hab => ?_⟩
          subst hab
          rcases he.fresh a ha with h | h
          · exact hnd.2.2 a h hb
          · have := hlt a ((hmem a).2 (.inr hb)); omega
        apart := fun b hb hl => by
          rcases (hmem' b).1 hb with h | h
          · exact hi'.apart b h (.inl hl)
          · exact hi.apart b ((hmem b).2 (.inr h)) hl
        old := fun b hl => Nat.lt_of_lt_of_le (hi.old b hl) he.size }

/-- A call of a function that has, and leaves, no block of one's own; its result is one. -/
theorem Op1.callp {P : Program} {o : Oper} {E : Operand → D} {f : FuncId} {as : Array Operand} {tys : Array TypeId} {H : Heap} {fr : Bool} {d0 : D} {args : List D} {K : D → Heap → Prop}
    (ho : o.op = .call ⟨.value (.func f), as, tys⟩) (hE : E (.func f) = .is (.func (.func f) #[] #[])) (h : Fun P f args [] fr (fun d H' => d = d0 ∧ H' = [])) (ha : as.toList.map E = args) (hk : K d0 H) : Op1 P o E H K :=
  Op1.call (Hp := []) ho hE (ha ▸ h) fun d Hp' ⟨h1, h2⟩ => by subst h1; subst h2; exact hk

/-- A call of a function that has no block of one's own ahead. -/
theorem Op1.callq {P : Program} {o : Oper} {E : Operand → D} {f : FuncId} {as : Array Operand} {tys : Array TypeId} {H : Heap} {fr : Bool} {Φ : D → Heap → Prop} {args : List D} {K : D → Heap → Prop}
    (ho : o.op = .call ⟨.value (.func f), as, tys⟩) (hE : E (.func f) = .is (.func (.func f) #[] #[])) (h : Fun P f args [] fr Φ) (ha : as.toList.map E = args) (hk : ∀ d Hp, Φ d Hp → K d (Hp ++ H)) : Op1 P o E H K :=
  Op1.call (Hp := []) ho hE (ha ▸ h) hk

end Go.Vc
