/- The abstract state of a walk; what one operation does to it; the rules of code. No condition. -/
import Derived.Test.YtlnmljmeahknaaaVa
namespace Go.Vc
set_option linter.unusedSimpArgs false
open Go
set_option linter.unusedVariables false

/-- What a block of one's own holds: 'n' cells, of which the first are known. -/
inductive HC where
  | cells (ty : TypeId) (n : Nat) (l : List D)
  | iter (s : ByteArray) (pos : Nat)

def HRel (w : World) (L : Nat → Prop) (b : Nat) : HC → Prop
  | .cells ty n l => l.all oneD = true ∧ ∃ arr, w.heap[b]? = some (.cells arr ty (0, 0)) ∧ arr.size = n ∧ RelL w L l (arr.toList.take l.length)
  | .iter s pos => w.heap[b]? = some (.stringIter s pos)

abbrev Heap := List (Nat × HC)
def Heap.blocks (H : Heap) : List Nat := H.map (·.1)
def live (H : Heap) (L0 : Nat → Prop) : Nat → Prop := fun b => L0 b ∨ b ∈ H.blocks

structure HInv (w : World) (L0 : Nat → Prop) (H : Heap) : Prop where
  rel : ∀ b c, (b, c) ∈ H → HRel w (live H L0) b c
  nodup : H.blocks.Nodup
  apart : ∀ b, b ∈ H.blocks → ¬ L0 b
  old : ∀ b, L0 b → b < w.heap.size

structure Evo (w : World) (H : Heap) (w' : World) (H' : Heap) : Prop where
  os : w'.os = w.os
  tape : w'.tape = w.tape
  output : w'.output = w.output
  size : w.heap.size ≤ w'.heap.size
  block : ∀ b, b < w.heap.size → b ∉ H.blocks → w'.heap[b]? = w.heap[b]?
  fresh : ∀ b, b ∈ H'.blocks → b ∈ H.blocks ∨ w.heap.size ≤ b

theorem Evo.refl (w : World) (H : Heap) : Evo w H w H := ⟨rfl, rfl, rfl, Nat.le_refl _, fun _ _ _ => rfl, fun _ h => .inl h⟩
theorem Evo.trans {w w' w'' : World} {H H' H'' : Heap} (h : Evo w H w' H') (k : Evo w' H' w'' H'') : Evo w H w'' H'' where
  os := k.os.trans h.os
  tape := k.tape.trans h.tape
  output := k.output.trans h.output
  size := Nat.le_trans h.size k.size
  block b hb hn := by
    rw [k.block b (Nat.lt_of_lt_of_le hb h.size) (fun hm => by rcases h.fresh b hm with h1 | h1; exact hn h1; omega), h.block b hb hn]
  fresh b hb := by
    rcases k.fresh b hb with h1 | h1
    · exact h.fresh b h1
    · exact .inr (Nat.le_trans h.size h1)
theorem Evo.keeps {w w' : World} {H H' : Heap} {L0 : Nat → Prop} (h : Evo w H w' H') : Keeps w (live H L0) w' (live H' L0) := fun b hb hn =>
  ⟨h.block b hb (fun hm => hn (.inr hm)), fun hl => by
    rcases hl with hl | hl
    · exact hn (.inl hl)
    · rcases h.fresh b hl with h1 | h1
      · exact hn (.inr h1)
      · omega⟩

/-- The slots' descriptors, the latest first. -/
def lookD : List (Nat × D) → Nat → D
  | [], _ => .any
  | (k, d) :: r, t => bif k == t then d else lookD r t

def upd (E : Nat → D) (k : Nat) (d : D) : Nat → D := fun t => bif k == t then d else E t
def updO (E : Nat → D) (dst : Option Tmp) (d : D) : Nat → D := match dst with | some k => upd E k d | none => E

structure St where
  env : Nat → D
  heap : Heap

def St.put (s : St) (dst : Option Tmp) (d : D) (H : Heap) : St := ⟨updO s.env dst d, H⟩

structure Ctx where
  w0 : World
  L0 : Nat → Prop
  H0 : Heap
  n : Nat

structure SRel (c : Ctx) (s : St) (a : Act) (w : World) : Prop where
  env : ∀ t, Rel w (live s.heap c.L0) (s.env t) (a.tmps.getD t undef)
  inv : HInv w c.L0 s.heap
  evo : Evo c.w0 c.H0 w s.heap
  defers : a.defers = []
  size : a.tmps.size = c.n

theorem SRel.put {c : Ctx} {s : St} {a : Act} {w w' : World} {H' : Heap} (h : SRel c s a w) {dst : Option Tmp} {d : D} {v : Value} (hd : ∀ t, dst = some t → t < c.n)
    (hv : Rel w' (live H' c.L0) d v) (hi : HInv w' c.L0 H') (he : Evo w s.heap w' H') : SRel c (s.put dst d H') (a.put dst v) w' where
  env t := by
    have old : Rel w' (live H' c.L0) (s.env t) (a.tmps.getD t undef) := Rel.mono he.keeps _ _ (h.env t)
    cases dst with
    | none => exact old
    | some k =>
      have hk := hd k rfl
      simp only [St.put, updO, upd, Act.put]
      by_cases e : k = t
      · subst e
        simp [Array.getD, h.size, hk, hv]
      · have : (k == t) = false := by simpa using e
        rw [this]
        simpa [Array.getD_eq_getD_getElem?, Array.getElem?_setIfInBounds_ne e] using old
  inv := by cases dst <;> exact hi
  evo := by cases dst <;> exact h.evo.trans he
  defers := by cases dst <;> exact h.defers
  size := by cases dst <;> simp [Act.put, h.size]

/-- An operation's outcome: a value, or a call that hands one back. -/
def Good (P : Program) (R : Value → World → Prop) : Result Next → Prop
  | .ok (.value v) w => R v w
  | .ok .skip w => R undef w
  | .ok (.enter f args) w => Calls P f args w fun e w' => ∃ v, e = .returned v ∧ R v w'
  | _ => False

theorem Good.upon {P : Program} {R : Value → World → Prop} {r : Result Next} (h : Good P R r) {o : Oper} {a : Act} {K : Act → World → Prop} {Q : Exit → Act → World → Prop}
    (hk : ∀ v w, R v w → K (a.put o.dst v) w) : o.upon P a K Q r := by
  cases r with
  | ok n w =>
    cases n <;> simp only [Good] at h <;> simp only [Oper.upon]
    case value v => exact hk _ _ h
    case skip => exact hk _ _ h
    case enter f args =>
      refine h.mono fun e w' ⟨v, he, hr⟩ => ?_
      subst he
      exact hk _ _ hr
  | halt x w => exact h.elim

def constD : Value → D
  | .slice none 0 0 => .gs none 0
  | v => .is v
theorem constD_rel (w : World) (L : Nat → Prop) (v : Value) : Rel w L (constD v) v := by
  unfold constD
  split
  · exact ⟨rfl, rfl⟩
  · rfl
def evD (env : Nat → D) : Operand → D
  | .tmp t => env t
  | .const v => constD v
  | .global g => .is (.pointer (some ⟨g, 0, none⟩))
  | .func f => .is (.func (.func f) #[] #[])

theorem SRel.ev {c : Ctx} {s : St} {a : Act} {w : World} (h : SRel c s a w) (x : Operand) : Rel w (live s.heap c.L0) (evD s.env x) (a.eval x) := by
  cases x with
  | tmp t => exact h.env t
  | const v => exact constD_rel _ _ v
  | global g => rfl
  | func f => rfl

/-- One operation, whatever the operands' values are that are as the descriptors say: what comes of it is as 'Φ' says. -/
def OpS (P : Program) (o : Oper) (E : Operand → D) (H : Heap) (Φ : D → Heap → Prop) : Prop :=
  ∀ (w : World) (L0 : Nat → Prop) (ε : Operand → Value), HInv w L0 H → (∀ x, x ∈ o.op.operands → Rel w (live H L0) (E x) (ε x)) →
    Good P (fun v w' => ∃ d H', Φ d H' ∧ Rel w' (live H' L0) d v ∧ HInv w' L0 H' ∧ Evo w H w' H') ((execOp ε o).run P w)

/-- The same, with what follows in its place. -/
def Op1 (P : Program) (o : Oper) (E : Operand → D) (H : Heap) (K : D → Heap → Prop) : Prop := ∃ Φ, OpS P o E H Φ ∧ ∀ d H', Φ d H' → K d H'

theorem OpS.mono {P : Program} {o : Oper} {E : Operand → D} {H : Heap} {Φ Ψ : D → Heap → Prop} (h : OpS P o E H Φ) (hk : ∀ d H', Φ d H' → Ψ d H') : OpS P o E H Ψ := by
  intro w L0 ε hi hx
  have := h w L0 ε hi hx
  generalize (execOp ε o).run P w = r at *
  have key : ∀ v w', (∃ d H', Φ d H' ∧ Rel w' (live H' L0) d v ∧ HInv w' L0 H' ∧ Evo w H w' H') → (∃ d H', Ψ d H' ∧ Rel w' (live H' L0) d v ∧ HInv w' L0 H' ∧ Evo w H w' H') :=
    fun v w' ⟨d, H', h1, h2⟩ => ⟨d, H', hk _ _ h1, h2⟩
  cases r with
  | ok n w1 =>
    cases n <;> simp only [Good] at this ⊢
    case value v => exact key _ _ this
    case skip => exact key _ _ this
    case enter f args => exact this.mono fun e w' ⟨v, he, hr⟩ => ⟨v, he, key _ _ hr⟩
  | halt x w1 => exact this

/-- A value, the heap as it was. -/
theorem OpS.value {P : Program} {o : Oper} {E : Operand → D} {H : Heap} {d : D}
    (h : ∀ (w : World) (L0 : Nat → Prop) (ε : Operand → Value), HInv w L0 H → (∀ x, x ∈ o.op.operands → Rel w (live H L0) (E x) (ε x)) → ∃ v, (execOp ε o).run P w = .ok (.value v) w ∧ Rel w (live H L0) d v) :
    OpS P o E H (fun d' H' => d' = d ∧ H' = H) := by
  intro w L0 ε hi hx
  obtain ⟨v, hr, hv⟩ := h w L0 ε hi hx
  rw [hr]
  exact ⟨d, H, ⟨rfl, rfl⟩, hv, hi, Evo.refl _ _⟩

/-! ### Code -/

/-- The code's walk, from an abstract state. -/
def VC (P : Program) (n : Nat) (c : Code) (s : St) (Q : Exit → St → Prop) : Prop :=
  ∀ (x : Ctx) (a : Act) (w : World), x.n = n → SRel x s a w → c.wp P (fun e a' w' => ∃ s', Q e s' ∧ SRel x s' a' w') a w

def thenQ (K : St → Prop) (Q : Exit → St → Prop) : Exit → St → Prop
  | .normal, s => K s
  | e, s => Q e s

def blockQ (id : Nat) (Q : Exit → St → Prop) : Exit → St → Prop
  | .exit i, s => bif i == id then Q .normal s else Q (.exit i) s
  | e, s => Q e s

section
variable {P : Program} {n : Nat} {s : St} {Q : Exit → St → Prop}

theorem VC.mono {c : Code} {Q' : Exit → St → Prop} (h : VC P n c s Q) (hq : ∀ e s, Q e s → Q' e s) : VC P n c s Q' := fun x a w hn hs =>
  wp_mono (h x a w hn hs) fun e a w ⟨s', h1, h2⟩ => ⟨s', hq _ _ h1, h2⟩

theorem VC.skip (h : Q .normal s) : VC P n .skip s Q := fun x a w hn hs => wp_skip ⟨s, h, hs⟩
theorem VC.label {l : Nat} (h : Q .normal s) : VC P n (.label l) s Q := fun x a w hn hs => wp_label ⟨s, h, hs⟩
theorem VC.exit {id : Nat} (h : Q (.exit id) s) : VC P n (.exit id) s Q := fun x a w hn hs => wp_exit ⟨s, h, hs⟩
theorem VC.goto {id : Nat} (h : Q (.goto id) s) : VC P n (.goto id) s Q := fun x a w hn hs => wp_goto ⟨s, h, hs⟩
theorem VC.ret (h : Q .ret s) : VC P n .ret s Q := fun x a w hn hs => wp_ret ⟨s, h, hs⟩

theorem VC.seq {a b : Code} (h : ∀ K : St → Prop, (∀ s, VC P n b s Q → K s) → VC P n a s (thenQ K Q)) : VC P n (.seq a b) s Q := fun x ac w hn hs => by
  refine wp_seq (wp_mono (h _ (fun _ h => h) x ac w hn hs) ?_)
  rintro e a' w' ⟨s', hq, hr⟩
  cases e with
  | normal => exact hq x a' w' hn hr
  | _ => exact ⟨s', hq, hr⟩

theorem VC.block {id : Nat} {c : Code} (h : VC P n c s (blockQ id Q)) : VC P n (.block id c) s Q := fun x a w hn hs => by
  refine wp_block (wp_mono (h x a w hn hs) ?_)
  rintro e a' w' ⟨s', hq, hr⟩
  cases e with
  | exit i =>
    by_cases hi : i = id
    · subst hi; simp only [blockQ, beq_self_eq_true, cond_true] at hq; simp only [Exit.inBlock, if_true]; exact ⟨s', hq, hr⟩
    · have : (i == id) = false := by simpa using hi
      simp only [blockQ, this, cond_false] at hq; simp only [Exit.inBlock, hi, if_false]; exact ⟨s', hq, hr⟩
  | _ => exact ⟨s', hq, hr⟩

/-- A test, parted. -/
def gsplit (t : Bool) (F : Bool → Prop) : Prop := match t with | true => F true | false => F false
theorem gsplit_intro {t : Bool} {F : Bool → Prop} (h1 : t = true → F true) (h2 : t = false → F false) : gsplit t F := by
  cases t
  · exact h2 rfl
  · exact h1 rfl
theorem gsplit_elim {t : Bool} {F : Bool → Prop} (h : gsplit t F) : F t := by cases t <;> exact h

theorem VC.cond {c : Operand} {x y : Code} {t : Bool} (hc : evD s.env c = .is (.bool t)) (h : gsplit t fun t => VC P n (match t with | true => x | false => y) s Q) :
    VC P n (.cond c x y) s Q := fun X a w hn hs => by
  have h1 := hs.ev c
  rw [hc] at h1
  refine wp_cond (t := t) h1 ?_
  have h2 := gsplit_elim h X a w hn hs
  cases t <;> exact h2

/-- A state that says no more. -/
def Weak (s s' : St) : Prop := ∀ x a w, SRel x s a w → SRel x s' a w

theorem VC.weak {c : Code} {s' : St} (h : Weak s s') (hv : VC P n c s' Q) : VC P n c s Q := fun x a w hn hs => hv x a w hn (h x a w hs)

theorem Weak.env {env env' : Nat → D} {H : Heap} (h : ∀ t, env' t = .any ∨ env' t = env t) : Weak ⟨env, H⟩ ⟨env', H⟩ := fun x a w hs =>
  { env := fun t => by rcases h t with h | h <;> simp only [h]; exact trivial; exact hs.env t
    inv := hs.inv, evo := hs.evo, defers := hs.defers, size := hs.size }

/-- 'env'' names only slots that 'env' has alike. -/
def sub (env : Nat → D) : List (Nat × D) → Prop
  | [] => True
  | (t, d) :: r => env t = d ∧ sub env r
theorem lookD_sub {env : Nat → D} : ∀ (env' : List (Nat × D)), sub env env' → ∀ t, lookD env' t = .any ∨ lookD env' t = env t
  | [], _, t => .inl rfl
  | (k, d) :: r, h, t => by
    simp only [lookD]
    by_cases e : k = t
    · subst e; simp [h.1]
    · have : (k == t) = false := by simpa using e
      simpa [this] using lookD_sub r h.2 t
theorem Weak.sub {env : Nat → D} {env' : List (Nat × D)} {H : Heap} (h : Vc.sub env env') : Weak ⟨env, H⟩ ⟨lookD env', H⟩ := Weak.env (lookD_sub _ h)

/-- A loop: the states at its head, and a measure. -/
theorem VC.loop {c : Code} (κ : Type) (S : κ → St) (μ : κ → Nat) (k : κ) (h0 : Weak s (S k))
    (h : ∀ k, VC P n c (S k) (thenQ (fun s' => ∃ k', Weak s' (S k') ∧ μ k' < μ k) Q)) : VC P n (.loop c) s Q := fun x a w hn hs => by
  intro b kk cs
  have key : ∀ m k, μ k = m → ∀ a w, SRel x (S k) a w →
      ∃ e a' w', (∃ s', Q e s' ∧ SRel x s' a' w') ∧ Arrives P (lone (b.at a (.code c :: .inLoop c :: kk)) cs w) b kk cs e a' w' := by
    intro m
    induction m using Nat.strongRecOn with
    | _ m ih =>
      intro k hk a w hs
      obtain ⟨e, a1, w1, hq, harr⟩ := h k x a w hn hs b (.inLoop c :: kk) cs
      obtain ⟨s1, hq, hr⟩ := hq
      cases e with
      | normal =>
        obtain ⟨k', hw, hlt⟩ := hq
        obtain ⟨e2, a2, w2, hq2, harr2⟩ := ih (μ k') (hk ▸ hlt) k' rfl a1 w1 (hw _ _ _ hr)
        exact ⟨e2, a2, w2, hq2, .of_steps (Steps.trans harr (.one step_inLoop)) harr2⟩
      | exit id => exact ⟨_, a1, w1, ⟨s1, hq, hr⟩, .pass (x := .inLoop c) rfl (fun _ _ => .inl (by simp)) harr⟩
      | goto l => exact ⟨_, a1, w1, ⟨s1, hq, hr⟩, .pass (x := .inLoop c) rfl (fun _ _ => .inl (by simp)) harr⟩
      | ret => exact ⟨_, a1, w1, ⟨s1, hq, hr⟩, .pass (x := .inLoop c) rfl (fun _ _ => .inl (by simp)) harr⟩
      | panic ch => exact ⟨_, a1, w1, ⟨s1, hq, hr⟩, .pass (x := .inLoop c) rfl (fun _ _ => .inl (by simp)) harr⟩
      | outgrown => exact ⟨_, a1, w1, ⟨s1, hq, hr⟩, .pass (x := .inLoop c) rfl (fun _ _ => .inl (by simp)) harr⟩
  obtain ⟨e, a', w', hq, harr⟩ := key _ k rfl a w (h0 _ _ _ hs)
  exact ⟨e, a', w', hq, .of_steps (.one step_loop) harr⟩
end

/-! ### Regions, in the order of the text -/

def dstOk (n : Nat) (o : Oper) : Bool := match o.dst with | some d => Nat.blt d n | none => true
theorem dstOk_spec {n : Nat} {o : Oper} (h : dstOk n o = true) : ∀ t, o.dst = some t → t < n := fun t ht => by
  simpa [dstOk, ht] using h

/-- What a list of operations, one behind the other, makes of a state. -/
def VCo (P : Program) (n : Nat) (ops : Array Oper) (l : List Oper) (s : St) (Q : Exit → St → Prop) : Prop :=
  ∀ (x : Ctx) (a : Act) (w : World), x.n = n → SRel x s a w → wpList P ops (fun e a' w' => ∃ s', Q e s' ∧ SRel x s' a' w') l a w

/-- The first operation, that is carried out; then the others. -/
def VCr (P : Program) (n : Nat) (ops : Array Oper) (o : Oper) (l : List Oper) (s : St) (Q : Exit → St → Prop) : Prop :=
  ∀ (x : Ctx) (a : Act) (w : World), x.n = n → SRel x s a w →
    o.wp P a w (wpList P ops (fun e a' w' => ∃ s', Q e s' ∧ SRel x s' a' w') l) (fun e a' w' => ∃ s', Q e s' ∧ SRel x s' a' w')

section
variable {P : Program} {n : Nat} {ops : Array Oper} {o : Oper} {r : List Oper} {s : St} {Q : Exit → St → Prop}

theorem VC.region {id : Nat} {l : List Oper} (h : VCo P n l.toArray l s Q) : VC P n (.region id l.toArray false) s Q := fun x a w hn hs =>
  wp_region_lit (h x a w hn hs)

theorem VCo.nil (h : Q .normal s) : VCo P n ops [] s Q := fun x a w hn hs => wpList_nil ⟨s, h, hs⟩

theorem VCr.run (hd : dstOk n o = true) (h : ∀ K : St → Prop, (∀ s, VCo P n ops r s Q → K s) → Op1 P o (evD s.env) s.heap (fun d H => K (s.put o.dst d H))) : VCr P n ops o r s Q := fun x a w hn hs => by
  obtain ⟨Φ, hop, hk⟩ := h _ (fun _ h => h)
  have hg := hop w x.L0 a.eval hs.inv (fun y _ => hs.ev y)
  refine hg.upon ?_
  rintro v w' ⟨d, H', hΦ, hv, hi, he⟩
  exact hk d H' hΦ x _ w' hn (hs.put (fun t ht => hn ▸ dstOk_spec hd t ht) hv hi he)

theorem VCo.cons (hg : o.guard = none) (hd : dstOk n o = true) (h : ∀ K : St → Prop, (∀ s, VCo P n ops r s Q → K s) → Op1 P o (evD s.env) s.heap (fun d H => K (s.put o.dst d H))) :
    VCo P n ops (o :: r) s Q := fun x a w hn hs => by
  unfold wpList
  rw [if_pos (by simp [Region.wanted, hg])]
  exact .inl (VCr.run hd h x a w hn hs)

theorem upd_self {E : Nat → D} {g : Nat} {d : D} (h : E g = d) : upd E g d = E := by
  funext t
  simp only [upd]
  by_cases e : g = t
  · subst e; simp [h]
  · have : (g == t) = false := by simpa using e
    simp [this]

theorem yielded_of {x : Ctx} {a : Act} {w : World} {j g : Nat} {t : Bool} (hj : (ops[j]?).bind (·.dst) = some g) (hgn : g < x.n) (ht : s.env g = .is (.bool t)) (hs : SRel x s a w) :
    yielded ops a.tmps j = some t := by
  have h1 := hs.env g
  rw [ht] at h1
  have h2 : a.tmps[g]? = some (.bool t) := by
    have hlt : g < a.tmps.size := by rw [hs.size]; exact hgn
    have h3 : a.tmps.getD g undef = .bool t := h1
    simp [Array.getD, hlt] at h3
    simp [hlt, h3]
  simp [yielded, hj, h2]

theorem VCo.guard {j g : Nat} {want t : Bool} (hg : o.guard = some (j, want)) (hj : (ops[j]?).bind (·.dst) = some g) (hgn : Nat.blt g n = true) (hd : dstOk n o = true) (ht : s.env g = .is (.bool t))
    (h : gsplit t fun t' => match t' == want with
      | true => VCr P n ops o r ⟨upd s.env g (.is (.bool t')), s.heap⟩ Q
      | false => VCo P n ops r (St.put ⟨upd s.env g (.is (.bool t')), s.heap⟩ o.dst (.is undef) s.heap) Q) : VCo P n ops (o :: r) s Q := fun x a w hn hs => by
  have hy := yielded_of hj (by rw [hn]; simpa using hgn) ht hs
  have h1 := gsplit_elim h
  simp only [upd_self ht] at h1
  unfold wpList
  simp only [Region.wanted, hg, hy]
  cases e : t == want with
  | true =>
    rw [e] at h1
    obtain rfl : t = want := by simpa using e
    rw [if_pos (by simp)]
    exact .inl (h1 x a w hn hs)
  | false =>
    rw [e] at h1
    rw [if_neg (by simpa using e)]
    exact h1 x _ w hn (hs.put (s := ⟨s.env, s.heap⟩) (fun t ht => hn ▸ dstOk_spec hd t ht) rfl hs.inv (Evo.refl _ _))
end

end Go.Vc
