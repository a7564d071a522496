/- All operations' rules under one name; the step of a walk. No condition. -/
import Derived.Test.YtlnmljmeahknaaaVq
import Derived.Test.YtlnmljmeahknaaaVs
namespace Go.Vc
set_option linter.unusedSimpArgs false
open Go
set_option linter.unusedVariables false

theorem r_field {P : Program} (T : Tab P) {o : Oper} {E : Operand → D} {H : Heap} {K : D → Heap → Prop} {t : TypeId} {x : Operand} {f : Nat} (ho : o.op = .field t x f)
    (hk : cField (fieldAt (kdT (T.get t)) f) (E x) (K · H)) : Op1 P o E H K := by
  unfold cField at hk
  split at hk
  · rename_i off sz l hf hx0
    obtain ⟨fs, fd, hu, hfd, h1, h2, h3, h4⟩ := kd_struct T hf
    simp only at h1 h2 h3
    obtain ⟨d, inf, z, g1, g2, g3, g4, g5, _⟩ := knOf_facts h4
    obtain ⟨hle, hk⟩ := hk
    refine Op1.value (d := .agg ((l.drop off).take sz)) (fun w L0 ε hi hx => ?_) hk
    have r1 := hx x (by simp [ho, Op.operands])
    rw [hx0, Rel] at r1
    obtain ⟨hone, cs, hv, hr⟩ := r1
    refine ⟨.agg (cs.extract off (off + sz)), ?_, all_take (all_drop hone _) _, _, rfl, ?_⟩
    · simp only [execOp, ho, hv, Instr.field]
      refine (run_bind (a := .agg (cs.extract off (off + sz))) (w' := w) ?_).trans rfl
      rw [run_bind (run_underlying hu w)]
      simp only [hfd]
      rw [run_bind (a := cs) (w' := w) rfl]
      unfold part
      rw [run_bind (run_isAgg g1 w), show aggT d = true by rw [g5]; exact h3, h1]
      simp only [if_true]
      rw [run_bind (run_sz g2 w), g4, h2]
      rfl
    · rw [Array.toList_extract, List.extract_eq_take_drop, show off + sz - off = sz by omega]
      exact RelL.take _ _ _ (RelL.drop _ _ _ hr)
  · rename_i off sz l hf hx0
    obtain ⟨fs, fd, hu, hfd, h1, h2, h3, h4⟩ := kd_struct T hf
    simp only at h1 h2 h3
    obtain ⟨d, inf, z, g1, g2, g3, g4, g5, _⟩ := knOf_facts h4
    obtain ⟨d0, hd0, hk⟩ := hk
    refine Op1.value (d := d0) (fun w L0 ε hi hx => ?_) hk
    have r1 := hx x (by simp [ho, Op.operands])
    rw [hx0, Rel] at r1
    obtain ⟨hone, cs, hv, hr⟩ := r1
    obtain ⟨v, q1, q2⟩ := RelL.get _ _ hr off d0 hd0
    refine ⟨v, ?_, q2⟩
    have q1' : cs[off]? = some v := by simpa using q1
    simp only [execOp, ho, hv, Instr.field]
    refine (run_bind (a := v) (w' := w) ?_).trans rfl
    rw [run_bind (run_underlying hu w)]
    simp only [hfd]
    rw [run_bind (a := cs) (w' := w) rfl]
    unfold part
    rw [run_bind (run_isAgg g1 w), show aggT d = false by rw [g5]; exact h3, h1]
    simp only [Bool.false_eq_true, if_false, q1']
    rfl
  · exact hk.elim

/-- A byte of a string. -/
def cIndex (kd : Kd) (x i : D) (K : D → Prop) : Prop :=
  match kd, x, i with
  | .str, .is (.string s), .is (.int _ n) => (0 ≤ n ∧ n < s.size) ∧ K (.is (.int .u8 (s.data.toList.getD n.toNat 0).toNat))
  | _, _, _ => False

theorem r_index {P : Program} (T : Tab P) {o : Oper} {E : Operand → D} {H : Heap} {K : D → Heap → Prop} {t : TypeId} {x i : Operand} (ho : o.op = .index t x i)
    (hk : cIndex (kdT (T.get t)) (E x) (E i) (K · H)) : Op1 P o E H K := by
  unfold cIndex at hk
  split at hk
  · rename_i s k n hkt hx0 hi0
    have hu := kd_str T hkt
    obtain ⟨⟨h0, h1⟩, hk⟩ := hk
    refine Op1.value (d := .is (.int .u8 (s.data.toList.getD n.toNat 0).toNat)) (fun w L0 ε hi hx => ?_) hk
    have r1 := hx x (by simp [ho, Op.operands])
    have r2 := hx i (by simp [ho, Op.operands])
    rw [hx0] at r1; rw [hi0] at r2
    have r1' : ε x = .string s := r1
    have r2' : ε i = .int k n := r2
    refine ⟨_, ?_, rfl⟩
    have hlt : n.toNat < s.size := by omega
    simp only [execOp, ho, r1', r2', Instr.index]
    refine (run_bind (a := .int .u8 (s.data.toList.getD n.toNat 0).toNat) (w' := w) ?_).trans rfl
    rw [run_bind (a := (k, n)) (w' := w) rfl, run_bind (run_underlying hu w)]
    have hb : (if 0 ≤ n then s[n.toNat]? else none) = some s[n.toNat] := by
      rw [if_pos h0, ByteArray.getElem?_lt' s _ hlt]
    simp only [hb]
    have e : s.data.toList.getD n.toNat 0 = s[n.toNat] := by
      have hlt' : n.toNat < s.data.size := hlt
      rw [List.getD_eq_getElem?_getD, Array.getElem?_toList, Array.getElem?_eq_getElem hlt']
      rfl
    rw [e]
    rfl
  · exact hk.elim

def cMkI (P : Program) (t : TypeId) (x : D) (K : D → Prop) : Prop := (∃ d, P.underlying t = some d ∧ ∀ ms, d ≠ .interface ms) ∧ K (.ifc t x)

theorem r_mkI {P : Program} {o : Oper} {E : Operand → D} {H : Heap} {K : D → Heap → Prop} {t : TypeId} {x : Operand} (ho : o.op = .makeInterface t x) (hk : cMkI P t (E x) (K · H)) : Op1 P o E H K := by
  obtain ⟨⟨d, hu, hd⟩, hk⟩ := hk
  refine Op1.value (d := .ifc t (E x)) (fun w L0 ε hi hx => ?_) hk
  have r1 := hx x (by simp [ho, Op.operands])
  refine ⟨.iface t (ε x), ?_, _, rfl, r1⟩
  simp only [execOp, ho, Instr.makeInterface]
  refine (run_bind (a := .iface t (ε x)) (w' := w) ?_).trans rfl
  rw [run_bind (run_underlying hu w)]
  cases d <;> first | rfl | exact absurd rfl (hd _)

/-- What an operation makes of the state. -/
def opC {P : Program} (T : Tab P) (o : Oper) (E : Operand → D) (H : Heap) (K : D → Heap → Prop) : Prop :=
  match o.op with
  | .move x => K (E x) H
  | .assign x => K (E x) H
  | .pick c a b => cPick (E c) (E a) (E b) (K · H)
  | .binOp op t x y _ => match kdT (T.get t) with
    | .struct _ => Op1 P o E H K
    | kd => cBin kd op (E x) (E y) (K · H)
  | .unOp op _ x => cUn op (E x) (K · H)
  | .load t x => cLoad (T.get t) (E x) H (K · H)
  | .fieldAddr t x f => cFieldAddr (fieldAt (kdT (T.get t)) f) (E x) (K · H)
  | .field t x f => cField (fieldAt (kdT (T.get t)) f) (E x) (K · H)
  | .indexAddr t x i => cIndexAddr (kdT (T.get t)) (E x) (E i) (K · H)
  | .index t x i => cIndex (kdT (T.get t)) (E x) (E i) (K · H)
  | .extract x i => cExtract (E x) i (K · H)
  | .nilCheck x => cNil (E x) (K · H)
  | .build t ps => cBuild (T.get t) (ps.toList.map fun p => (p.1, E p.2)) (K · H)
  | .alloc t => cAlloc t (T.get t) H K
  | .box t x => cBox t (E x) H K
  | .store t a x => (T.get t).known = true ∧ cStore (T.get t).size (E a) (E x) H K
  | .buildSlice t n ps => cBuildSlice (kdT (T.get t)) n (ps.toList.map fun p => (p.1, E p.2)) H K
  | .makeSlice t l c => cMake (kdT (T.get t)) (E l) (E c) H K
  | .slice t x lo hi mx => cSlice (kdT (T.get t)) (E x) (lo.map E) (hi.map E) (mx.map E) (K · H)
  | .convert t u x => cConvS (kdElem T.get (kdT (T.get t))) (kdT (T.get t)) (kdT (T.get u)) (E x) (K · H)
  | .range t x => cRange (kdT (T.get t)) (E x) H K
  | .next x s => cNext (E x) s H K
  | .makeInterface t x => cMkI P t (E x) (K · H)
  | .call ⟨.builtin .len, as, ts⟩ =>
    match as.toList, ts.toList with
    | [x], [t] => cLen (kdT (T.get t)) (E x) (K · H)
    | _, _ => False
  | .call ⟨.builtin .append, as, ts⟩ =>
    match as.toList, ts.toList with
    | [s, x], [t, u] => match Nat.beq t u with
      | true => cAppS (kdT (T.get t)) (E s) (E x) H K
      | false => False
    | _, _ => False
  | _ => Op1 P o E H K

theorem opC_sound {P : Program} (T : Tab P) {o : Oper} {E : Operand → D} {H : Heap} {K : D → Heap → Prop} (h : opC T o E H K) : Op1 P o E H K := by
  unfold opC at h
  split at h
  · rename_i ho; exact r_move (.inl ho) h
  · rename_i ho; exact r_move (.inr ho) h
  · rename_i ho; exact r_pick ho h
  · rename_i ho
    split at h
    · exact h
    · exact r_bin T ho h
  · rename_i ho; exact r_un ho h
  · rename_i ho; exact r_load T ho h
  · rename_i ho; exact r_fieldAddr T ho h
  · rename_i ho; exact r_field T ho h
  · rename_i ho; exact r_indexAddr T ho h
  · rename_i ho; exact r_index T ho h
  · rename_i ho; exact r_extract ho h
  · rename_i ho; exact r_nil ho h
  · rename_i t ps ho; exact r_build T (ps := ps.toList) (by simpa using ho) h
  · rename_i ho; exact r_alloc T ho h
  · rename_i ho; exact r_box ho h
  · rename_i ho; exact r_store T ho h.1 h.2
  · rename_i t n ps ho; exact r_buildSlice T (ps := ps.toList) (by simpa using ho) h
  · rename_i ho; exact r_make T ho h
  · rename_i ho; exact r_slice T ho h
  · rename_i ho; exact r_convS T ho h
  · rename_i ho; exact r_range T ho h
  · rename_i ho; exact r_next ho h
  · rename_i ho; exact r_mkI ho h
  · rename_i as ts ho
    split at h
    · rename_i x t hx ht
      have e1 : as = #[x] := by rw [← Array.toList_inj]; exact hx
      have e2 : ts = #[t] := by rw [← Array.toList_inj]; exact ht
      subst e1; subst e2
      exact r_len T ho h
    · exact h.elim
  · rename_i as ts ho
    split at h
    · rename_i s x t u hx ht
      have e1 : as = #[s, x] := by rw [← Array.toList_inj]; exact hx
      have e2 : ts = #[t, u] := by rw [← Array.toList_inj]; exact ht
      subst e1; subst e2
      split at h
      · rename_i hb
        obtain rfl := Nat.eq_of_beq_eq_true hb
        exact r_appS T ho h
      · exact h.elim
    · exact h.elim
  · exact h

theorem gsplit_true {F : Bool → Prop} : gsplit true F = F true := rfl
theorem gsplit_false {F : Bool → Prop} : gsplit false F = F false := rfl

/-- Two bools are one. -/
def sameB : Bool → Bool → Bool
  | true, true => true
  | false, false => true
  | _, _ => false

section
variable {P : Program} (T : Tab P) {n : Nat} {ops : Array Oper} {o : Oper} {r : List Oper} {E : Nat → D} {H : Heap} {Q : Exit → St → Prop}

theorem VCo.step (hg : o.guard = none) (hd : dstOk n o = true) (h : ∀ K : (Nat → D) → Heap → Prop, (∀ E H, VCo P n ops r ⟨E, H⟩ Q → K E H) → opC T o (evD E) H (fun d H' => K (updO E o.dst d) H')) :
    VCo P n ops (o :: r) ⟨E, H⟩ Q := VCo.cons hg hd fun K hK => opC_sound T (h (fun E H => K ⟨E, H⟩) (fun E H hv => hK _ hv))

theorem VCr.step (hd : dstOk n o = true) (h : ∀ K : (Nat → D) → Heap → Prop, (∀ E H, VCo P n ops r ⟨E, H⟩ Q → K E H) → opC T o (evD E) H (fun d H' => K (updO E o.dst d) H')) :
    VCr P n ops o r ⟨E, H⟩ Q := VCr.run hd fun K hK => opC_sound T (h (fun E H => K ⟨E, H⟩) (fun E H hv => hK _ hv))

theorem VCo.gstep {j g : Nat} {want t : Bool} (hg : o.guard = some (j, want)) (hj : (ops[j]?).bind (·.dst) = some g) (hgn : Nat.blt g n = true) (hd : dstOk n o = true) (ht : E g = .is (.bool t))
    (h : gsplit t fun t' => bif sameB t' want then VCr P n ops o r ⟨upd E g (.is (.bool t')), H⟩ Q else VCo P n ops r ⟨updO (upd E g (.is (.bool t'))) o.dst (.is undef), H⟩ Q) :
    VCo P n ops (o :: r) ⟨E, H⟩ Q :=
  VCo.guard (s := ⟨E, H⟩) hg hj hgn hd ht (by
    have h1 := gsplit_elim h
    have e : ∀ a b : Bool, sameB a b = (a == b) := by decide
    rw [e] at h1
    cases t <;> cases want <;> exact h1)

/-- One result, a slot. -/
theorem ret1 {t : Tmp} {Φ : D → Heap → Prop} {H' : Heap} (hs : H'.Sublist H) (h : Φ (E t) H') : retQ T [.tmp t] Φ .ret ⟨E, H⟩ := ⟨[E t], H', ⟨[], rfl, rfl⟩, hs, h⟩
/-- Two. -/
theorem ret2 {t u : Tmp} {Φ : D → Heap → Prop} {H' : Heap} (hs : H'.Sublist H) (h : Φ (.tup [E t, E u]) H') : retQ T [.tmp t, .tmp u] Φ .ret ⟨E, H⟩ := ⟨[E t, E u], H', ⟨_, rfl, _, rfl, rfl⟩, hs, h⟩
/-- Three. -/
theorem ret3 {t u v : Tmp} {Φ : D → Heap → Prop} {H' : Heap} (hs : H'.Sublist H) (h : Φ (.tup [E t, E u, E v]) H') : retQ T [.tmp t, .tmp u, .tmp v] Φ .ret ⟨E, H⟩ :=
  ⟨[E t, E u, E v], H', ⟨_, rfl, _, rfl, _, rfl, rfl⟩, hs, h⟩
/-- A cell that holds an aggregate, and a slot. -/
theorem retc1 {a t : Tmp} {ty : TypeId} {Φ : D → Heap → Prop} {H' : Heap} {b n : Nat} {ty' : TypeId} {l : List D} (ha : E a = .is (.pointer (some ⟨b, 0, none⟩))) (hb : hget H b = some (.cells ty' n l))
    (hk : (T.get ty).known = true) (hz : (T.get ty).size = l.length) (hag : (T.get ty).agg = true) (hs : H'.Sublist H) (h : Φ (.tup [.agg l, E t]) H') : retQ T [.cell a ty, .tmp t] Φ .ret ⟨E, H⟩ :=
  ⟨[.agg l, E t], H', ⟨b, ty', n, l, _, ha, hget_mem hb, hk, hz, by rw [hag], _, rfl, rfl⟩, hs, h⟩
/-- A cell that holds an aggregate. -/
theorem retc {a : Tmp} {ty : TypeId} {Φ : D → Heap → Prop} {H' : Heap} {b n : Nat} {ty' : TypeId} {l : List D} (ha : E a = .is (.pointer (some ⟨b, 0, none⟩))) (hb : hget H b = some (.cells ty' n l))
    (hk : (T.get ty).known = true) (hz : (T.get ty).size = l.length) (hag : (T.get ty).agg = true) (hs : H'.Sublist H) (h : Φ (.agg l) H') : retQ T [.cell a ty] Φ .ret ⟨E, H⟩ :=
  ⟨[.agg l], H', ⟨b, ty', n, l, _, ha, hget_mem hb, hk, hz, by rw [hag], rfl⟩, hs, h⟩

theorem VC.seq' {a b : Code} {s : St} (h : VC P n a s (thenQ (fun s => VC P n b s Q) Q)) : VC P n (.seq a b) s Q := VC.seq fun K hK => VC.mono h fun e s => by
  cases e with
  | normal => exact hK s
  | _ => exact id
end

end Go.Vc
