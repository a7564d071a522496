/- Strings made of runes; the range over a string. No condition. -/
import Derived.Test.YtlnmljmeahknaaaVl
namespace Go.Vc
set_option linter.unusedSimpArgs false
open Go
set_option linter.unusedVariables false

/-- The numbers of rows of one number each. -/
def numsOf (k : IntKind) : List (List D) → Option (List Int)
  | [] => some []
  | [.is (.int j n)] :: r => match kTag j == kTag k, numsOf k r with
    | true, some l => some (n :: l)
    | _, _ => none
  | _ :: _ => none

theorem numsOf_spec {w : World} {L : Nat → Prop} {k : IntKind} : ∀ (rows : List (List D)) (ns : List Int) (vs : List Value), numsOf k rows = some ns → RelL w L rows.flatten vs → vs = ns.map (Value.int k)
  | [], ns, vs, h, hr => by
    simp only [numsOf, Option.some.injEq] at h; subst h
    rw [List.flatten_nil, RelL] at hr; exact hr
  | row :: r, ns, vs, h, hr => by
    unfold numsOf at h
    split at h
    · rename_i heq; cases heq
    · rename_i j n r' heq
      cases heq
      split at h
      · rename_i l hk hl
        simp only [Option.some.injEq] at h; subst h
        obtain rfl := kTag_inj hk
        rw [List.flatten_cons, List.cons_append, List.nil_append, RelL] at hr
        obtain ⟨v, rest, rfl, h1, h2⟩ := hr
        rw [numsOf_spec r l rest hl h2]
        have h1' : v = .int j n := h1
        rw [h1']; rfl
      · cases h
    · cases h

def runesS (ns : List Int) : ByteArray := ns.foldl (fun s n => s ++ Utf8.encode n) ByteArray.empty
def bytesS (ns : List Int) : ByteArray := ns.foldl (fun s n => s.push (UInt8.ofNat n.toNat)) ByteArray.empty

theorem run_forIn_runes {P : Program} {w : World} : ∀ (ns : List Int) (s : ByteArray),
    (forIn (ns.map (Value.int .i32)) s (fun c s => match c with
      | .int .i32 n => pure (ForInStep.yield (s ++ Utf8.encode n))
      | _ => stuck "runesToString: rune expected" : Value → ByteArray → Sem (ForInStep ByteArray))).run P w = .ok (ns.foldl (fun s n => s ++ Utf8.encode n) s) w
  | [], s => rfl
  | n :: r, s => by
    rw [List.map_cons, List.forIn_cons, run_bind run_pure]
    exact run_forIn_runes r _

theorem run_runes {P : Program} {w : World} {a : Addr} {cap : Nat} {ns : List Int} (h : ∀ (j : Nat) v, (ns.map (Value.int .i32))[j]? = some v → w.cell? (a.add j) = some v) :
    (Conv.runesToString (.slice (some a) ns.length cap)).run P w = .ok (.string (runesS ns)) w := by
  have h1 := run_loadCells_list (P := P) (w := w) a (ns.map (Value.int .i32)) (fun j v hv => h j v hv)
  rw [List.length_map] at h1
  unfold Conv.runesToString
  simp only
  rw [run_bind h1]
  have h2 := run_forIn_runes (P := P) (w := w) ns ByteArray.empty
  rw [List.forIn_toArray]
  exact (run_bind h2).trans rfl

theorem run_forIn_bytes' {P : Program} {w : World} : ∀ (ns : List Int) (s : ByteArray),
    (forIn (ns.map (Value.int .u8)) s (fun c s => match c with
      | .int .u8 n => pure (ForInStep.yield (s.push (UInt8.ofNat n.toNat)))
      | _ => stuck "bytesToString: byte expected" : Value → ByteArray → Sem (ForInStep ByteArray))).run P w = .ok (ns.foldl (fun s n => s.push (UInt8.ofNat n.toNat)) s) w
  | [], s => rfl
  | n :: r, s => by
    rw [List.map_cons, List.forIn_cons, run_bind run_pure]
    exact run_forIn_bytes' r _

theorem run_bytes {P : Program} {w : World} {a : Addr} {cap : Nat} {ns : List Int} (h : ∀ (j : Nat) v, (ns.map (Value.int .u8))[j]? = some v → w.cell? (a.add j) = some v) :
    (Conv.bytesToString (.slice (some a) ns.length cap)).run P w = .ok (.string (bytesS ns)) w := by
  have h1 := run_loadCells_list (P := P) (w := w) a (ns.map (Value.int .u8)) (fun j v hv => h j v hv)
  rw [List.length_map] at h1
  unfold Conv.bytesToString
  simp only
  rw [run_bind h1]
  have h2 := run_forIn_bytes' (P := P) (w := w) ns ByteArray.empty
  rw [List.forIn_toArray]
  exact (run_bind h2).trans rfl

def cConvS (ke : Kd) (a b : Kd) (x : D) (K : D → Prop) : Prop :=
  match a, b, x with
  | .int _, .int k, .is (.int _ n) => K (.is (.int k (k.wrap n)))
  | .slice _ _ _ _ _, .str, .sl _ 1 rows => match ke with
    | .int .i32 => match numsOf .i32 rows with
      | some ns => K (.is (.string (runesS ns)))
      | none => False
    | .int .u8 => match numsOf .u8 rows with
      | some ns => K (.is (.string (bytesS ns)))
      | none => False
    | _ => False
  | .str, .str, .is (.string s) => K (.is (.string s))
  | _, _, _ => False

def kdElem (T : TypeId → TyI) : Kd → Kd
  | .slice e _ _ _ _ => kdT (T e)
  | _ => .other

theorem r_convS {P : Program} (T : Tab P) {o : Oper} {E : Operand → D} {H : Heap} {K : D → Heap → Prop} {t u : TypeId} {x : Operand} (ho : o.op = .convert t u x)
    (hk : cConvS (kdElem T.get (kdT (T.get t))) (kdT (T.get t)) (kdT (T.get u)) (E x) (K · H)) : Op1 P o E H K := by
  unfold cConvS at hk
  split at hk
  · rename_i j k j' n hkt hku hx0
    have hut := kd_int T hkt
    have huu := kd_int T hku
    refine Op1.value (d := .is (.int k (k.wrap n))) (fun w L0 ε hi hx => ?_) hk
    have r1 := hx x (by simp [ho, Op.operands])
    rw [hx0] at r1
    have r1' : ε x = .int j' n := r1
    refine ⟨.int k (k.wrap n), ?_, rfl⟩
    simp only [execOp, ho, r1']
    refine (run_bind (a := .int k (k.wrap n)) (w' := w) ?_).trans rfl
    unfold convert
    rw [run_bind (run_underlying hut w), run_bind (run_underlying huu w)]
    rfl
  · rename_i e esz eb ea ez full rows hkt hku hx0
    split at hk
    · rename_i hke
      split at hk
      · rename_i ns hns
        obtain ⟨hut, _⟩ := kd_slice T hkt
        have huu := kd_str T hku
        have hue : P.underlying e = some (.int .i32) := by
          rw [hkt] at hke
          exact kd_int T hke
        refine Op1.value (d := .is (.string (runesS ns))) (fun w L0 ε hi hx => ⟨.string (runesS ns), ?_, rfl⟩) hk
        have r1 := hx x (by simp [ho, Op.operands])
        rw [hx0, Rel] at r1
        obtain ⟨a, cap, hv, hcap, hfull, hrows⟩ := r1
        simp only [execOp, ho, hv]
        refine (run_bind (a := .string (runesS ns)) (w' := w) ?_).trans rfl
        unfold convert
        rw [run_bind (run_underlying hut w), run_bind (run_underlying huu w)]
        simp only
        rw [run_bind (run_underlying hue w)]
        simp only
        rcases hrows with rfl | ⟨b, off, rfl, hrows⟩
        · simp only [numsOf, Option.some.injEq] at hns
          subst hns
          cases a with
          | none => rfl
          | some ad => exact run_runes (ns := []) (fun j v hv => by simp at hv)
        · obtain ⟨_, _, cs, h1, h2⟩ := RowsAt.values _ _ _ hrows
          have hcs := numsOf_spec _ _ _ hns h1
          subst hcs
          have hlen : rows.length = ns.length := by
            have := RelL.length _ _ h1
            obtain ⟨_, h3, _⟩ := RowsAt.values _ _ _ hrows
            rw [List.length_map, h3, Nat.mul_one] at this
            exact this.symm
          rw [hlen]
          exact run_runes (fun j v hv => by rw [add0]; exact h2 j v hv)
      · exact hk.elim
    · rename_i hke
      split at hk
      · rename_i ns hns
        obtain ⟨hut, _⟩ := kd_slice T hkt
        have huu := kd_str T hku
        have hue : P.underlying e = some (.int .u8) := by
          rw [hkt] at hke
          exact kd_int T hke
        refine Op1.value (d := .is (.string (bytesS ns))) (fun w L0 ε hi hx => ⟨.string (bytesS ns), ?_, rfl⟩) hk
        have r1 := hx x (by simp [ho, Op.operands])
        rw [hx0, Rel] at r1
        obtain ⟨a, cap, hv, hcap, hfull, hrows⟩ := r1
        simp only [execOp, ho, hv]
        refine (run_bind (a := .string (bytesS ns)) (w' := w) ?_).trans rfl
        unfold convert
        rw [run_bind (run_underlying hut w), run_bind (run_underlying huu w)]
        simp only
        rw [run_bind (run_underlying hue w)]
        simp only
        rcases hrows with rfl | ⟨b, off, rfl, hrows⟩
        · simp only [numsOf, Option.some.injEq] at hns
          subst hns
          cases a with
          | none => rfl
          | some ad => exact run_bytes (ns := []) (fun j v hv => by simp at hv)
        · obtain ⟨_, _, cs, h1, h2⟩ := RowsAt.values _ _ _ hrows
          have hcs := numsOf_spec _ _ _ hns h1
          subst hcs
          have hlen : rows.length = ns.length := by
            have := RelL.length _ _ h1
            obtain ⟨_, h3, _⟩ := RowsAt.values _ _ _ hrows
            rw [List.length_map, h3, Nat.mul_one] at this
            exact this.symm
          rw [hlen]
          exact run_bytes (fun j v hv => by rw [add0]; exact h2 j v hv)
      · exact hk.elim
    · exact hk.elim
  · rename_i s hkt hku hx0
    have hut := kd_str T hkt
    have huu := kd_str T hku
    refine Op1.value (d := .is (.string s)) (fun w L0 ε hi hx => ?_) hk
    have r1 := hx x (by simp [ho, Op.operands])
    rw [hx0] at r1
    have r1' : ε x = .string s := r1
    refine ⟨.string s, ?_, rfl⟩
    simp only [execOp, ho, r1']
    refine (run_bind (a := .string s) (w' := w) ?_).trans rfl
    unfold convert
    rw [run_bind (run_underlying hut w), run_bind (run_underlying huu w)]
    rfl
  · exact hk.elim

/-! ### The range over a string -/

def cRange (kd : Kd) (x : D) (H : Heap) (K : D → Heap → Prop) : Prop :=
  match kd, x with
  | .str, .is (.string s) => ∀ b, b ∉ H.blocks → K (.is (.pointer (some ⟨b, 0, none⟩))) ((b, .iter s 0) :: H)
  | _, _ => False

theorem r_range {P : Program} (T : Tab P) {o : Oper} {E : Operand → D} {H : Heap} {K : D → Heap → Prop} {t : TypeId} {x : Operand} (ho : o.op = .range t x) (hk : cRange (kdT (T.get t)) (E x) H K) : Op1 P o E H K := by
  unfold cRange at hk
  split at hk
  · rename_i s hkt hx0
    have hu := kd_str T hkt
    refine ⟨fun d' H' => ∃ b, b ∉ H.blocks ∧ d' = .is (.pointer (some ⟨b, 0, none⟩)) ∧ H' = (b, .iter s 0) :: H, ?_, fun d' H' ⟨b, h1, h2, h3⟩ => h2 ▸ h3 ▸ hk b h1⟩
    intro w L0 ε hi hx
    have r1 := hx x (by simp [ho, Op.operands])
    rw [hx0] at r1
    have r1' : ε x = .string s := r1
    have hrun : (execOp ε o).run P w = .ok (.value (.pointer (some ⟨w.heap.size, 0, none⟩))) (w.alloc (.stringIter s 0)) := by
      simp only [execOp, ho, r1', Instr.range]
      refine (run_bind (a := .pointer (some ⟨w.heap.size, 0, none⟩)) (w' := w.alloc (.stringIter s 0)) ?_).trans rfl
      rw [run_bind (run_underlying hu w)]
      rfl
    rw [hrun]
    have hevo : Evo w H (w.alloc (.stringIter s 0)) ((w.heap.size, .iter s 0) :: H) := evo_alloc w H _ _
    refine ⟨_, _, ⟨w.heap.size, fun hm => by have := hi.lt hm; omega, rfl, rfl⟩, rfl, ?_, hevo⟩
    exact HInv.new hi hevo.size (fun k hk => alloc_old w _ k hk) (Nat.le_refl _) (heap_alloc_new w _)
  · exact hk.elim

def cNext (it : D) (isStr : Bool) (H : Heap) (K : D → Heap → Prop) : Prop :=
  match isStr, it with
  | true, .is (.pointer (some ⟨b, 0, none⟩)) =>
    match hget H b with
    | some (.iter s pos) => gsplit (Nat.blt pos s.size) fun t => match t with
      | true => K (.tup [.is (.bool true), .is (.int .i64 pos), .is (.int .i32 (Utf8.decode s pos).1)]) (hset H b (.iter s (pos + (Utf8.decode s pos).2)))
      | false => K (.tup [.is (.bool false)]) H
    | _ => False
  | _, _ => False

theorem evo_setObj {w : World} {H H' : Heap} {b : Nat} (hb : b ∈ H.blocks) (ob : Obj) (h : H'.blocks = H.blocks) : Evo w H { w with heap := w.heap.setIfInBounds b ob } H' :=
  ⟨rfl, rfl, rfl, by simp, fun k _ hn => by
    have hne : b ≠ k := fun e => hn (e ▸ hb)
    simp [Array.getElem?_setIfInBounds_ne hne], fun k hk => .inl (h ▸ hk)⟩

theorem r_next {P : Program} {o : Oper} {E : Operand → D} {H : Heap} {K : D → Heap → Prop} {x : Operand} {isStr : Bool} (ho : o.op = .next x isStr) (hk : cNext (E x) isStr H K) : Op1 P o E H K := by
  unfold cNext at hk
  split at hk
  · rename_i b hx0
    split at hk
    · rename_i s pos hg
      have hm := hget_mem hg
      have hbm : b ∈ H.blocks := List.mem_map.2 ⟨_, hm, rfl⟩
      have h := gsplit_elim hk
      by_cases hlt : pos < s.size
      · have hb : Nat.blt pos s.size = true := by simpa using hlt
        rw [hb] at h
        refine ⟨fun d' H' => d' = .tup [.is (.bool true), .is (.int .i64 pos), .is (.int .i32 (Utf8.decode s pos).1)] ∧ H' = hset H b (.iter s (pos + (Utf8.decode s pos).2)), ?_, fun _ _ ⟨h1, h2⟩ => h1 ▸ h2 ▸ h⟩
        intro w L0 ε hi hx
        have r1 := hx x (by simp [ho, Op.operands])
        rw [hx0] at r1
        have r1' : ε x = .pointer (some ⟨b, 0, none⟩) := r1
        have hob : w.heap[b]? = some (.stringIter s pos) := hi.rel _ _ hm
        have hrun : (execOp ε o).run P w = .ok (.value (.tuple #[.bool true, .int .i64 pos, .int .i32 (Utf8.decode s pos).1])) { w with heap := w.heap.setIfInBounds b (.stringIter s (pos + (Utf8.decode s pos).2)) } := by
          simp only [execOp, ho, r1', Instr.next]
          refine (run_bind (a := .tuple #[.bool true, .int .i64 pos, .int .i32 (Utf8.decode s pos).1]) (w' := { w with heap := w.heap.setIfInBounds b (.stringIter s (pos + (Utf8.decode s pos).2)) }) ?_).trans rfl
          rw [run_bind (a := Obj.stringIter s pos) (w' := w) (by simp [getObj, Sem.run, hob])]
          simp only [hlt, if_true]
          rw [run_bind (a := ()) (w' := { w with heap := w.heap.setIfInBounds b (.stringIter s (pos + (Utf8.decode s pos).2)) }) (by simp [setObj, Sem.run, hob])]
          rfl
        rw [hrun]
        have hevo := evo_setObj (w := w) hbm (.stringIter s (pos + (Utf8.decode s pos).2)) (hset_blocks H b (.iter s (pos + (Utf8.decode s pos).2)))
        have hbl := hi.lt hbm
        refine ⟨_, _, ⟨rfl, rfl⟩, ⟨_, rfl, ⟨_, _, rfl, rfl, _, _, rfl, rfl, _, _, rfl, rfl, rfl⟩⟩, ?_, hevo⟩
        refine HInv.set hi hbm hevo.size (fun k hne _ => by simp [Array.getElem?_setIfInBounds_ne (Ne.symm hne)]) ?_
        show (w.heap.setIfInBounds b _)[b]? = _
        simp [hbl]
      · have hb : Nat.blt pos s.size = false := by
          cases hq : Nat.blt pos s.size with
          | false => rfl
          | true => exact absurd (by simpa using hq) hlt
        rw [hb] at h
        refine ⟨fun d' H' => d' = .tup [.is (.bool false)] ∧ H' = H, ?_, fun _ _ ⟨h1, h2⟩ => h1 ▸ h2 ▸ h⟩
        intro w L0 ε hi hx
        have r1 := hx x (by simp [ho, Op.operands])
        rw [hx0] at r1
        have r1' : ε x = .pointer (some ⟨b, 0, none⟩) := r1
        have hob : w.heap[b]? = some (.stringIter s pos) := hi.rel _ _ hm
        have hrun : (execOp ε o).run P w = .ok (.value (.tuple #[.bool false])) w := by
          simp only [execOp, ho, r1', Instr.next]
          refine (run_bind (a := .tuple #[.bool false]) (w' := w) ?_).trans rfl
          rw [run_bind (a := Obj.stringIter s pos) (w' := w) (by simp [getObj, Sem.run, hob])]
          simp only [hlt, if_false]
          rfl
        rw [hrun]
        exact ⟨_, _, ⟨rfl, rfl⟩, ⟨_, rfl, ⟨_, _, rfl, rfl, rfl⟩⟩, hi, Evo.refl _ _⟩
    · exact hk.elim
  · exact hk.elim

end Go.Vc
