/- Plain law: configurations as text; the strict and the loose reader read the same. No condition. -/
import Derived.Test.YtomcmfbpmkklmaaXe
import Derived.Test.YtomcmfbpmkklmaaRa
namespace Go.Proofs.Ytomcmfbpmkklmaa
set_option linter.unusedSimpArgs false
set_option linter.unusedVariables false
set_option maxRecDepth 20000
open Go Go.Proofs Go.Vc
abbrev By := List UInt8
def numT (n : Int) : By := decF 5 n.toNat
def okN (n : Int) : Bool := decide (0 ≤ n) && decide (n ≤ 9999)
def digB (b : UInt8) : Bool := decide (48 ≤ b.toNat) && decide (b.toNat ≤ 57)
def entS (e : En) : Bool := okN e.1 && okN e.2
def rowT : List Int → By
 | [] => []
 | n :: l => 32 :: (numT n ++ rowT l)
def entT : List En → By
 | [] => []
 | e :: l => 32 :: (numT e.1 ++ 61 :: (numT e.2 ++ entT l))
def thrT (t : Nat) (pc : Int) (r : List Int) (b : List En) : By := 116 :: (numT t ++ 58 :: (numT pc ++ (rowT r ++ (entT b ++ [59, 32]))))
def thrsT (c : Cf) : Nat → By
 | 0 => []
 | k + 1 => thrsT c k ++ thrT k (c.pc.getD k 0) (c.regs.getD k []) (c.bufs.getD k [])
def showT (c : Cf) : By := thrsT c c.pc.length ++ (109 :: 58 :: rowT c.mem)
def rightS (c : Cf) : Bool := (decide (c.pc.length ≤ 10) && (decide (c.regs.length = c.pc.length) && decide (c.bufs.length = c.pc.length))) && ((c.pc.all okN && c.mem.all okN) && (c.regs.all (fun r => r.all okN) && c.bufs.all (fun b => b.all entS)))
def showF (c : Cf) : By := if rightS c then showT c else []
def numL : By → Nat → Nat × Nat
 | [], n => (n, 0)
 | b :: r, n => if digB b && decide (n ≤ 9999) then ((numL r (10 * n + (b.toNat - 48))).1, (numL r (10 * n + (b.toNat - 48))).2 + 1) else (n, 0)
theorem digB_of (n : Nat) (h : n < 10) : digB (UInt8.ofNat (48 + n)) = true ∧ (UInt8.ofNat (48 + n)).toNat - 48 = n := by
 have : n = 0 ∨ n = 1 ∨ n = 2 ∨ n = 3 ∨ n = 4 ∨ n = 5 ∨ n = 6 ∨ n = 7 ∨ n = 8 ∨ n = 9 := by omega
 rcases this with rfl | rfl | rfl | rfl | rfl | rfl | rfl | rfl | rfl | rfl <;> decide
theorem numL_cons {b : UInt8} {r : By} {n : Nat} (h : digB b = true) (hn : n ≤ 9999) : numL (b :: r) n = ((numL r (10 * n + (b.toNat - 48))).1, (numL r (10 * n + (b.toNat - 48))).2 + 1) := by
 simp only [numL, h, hn, decide_true, Bool.and_self, if_true]
theorem numL_stop {b : UInt8} {r : By} {n : Nat} (h : digB b = false) : numL (b :: r) n = (n, 0) := by
 simp only [numL, h, Bool.false_and, Bool.false_eq_true, if_false]
theorem numL_dec : ∀ (k n : Nat) (r : By), n ≤ 9999 → n < 10 ^ (k + 1) → numL (decF k n ++ r) 0 = ((numL r n).1, (numL r n).2 + (decF k n).length)
 | 0, n, r, h, hk => by
  have hn : n < 10 := by simpa using hk
  obtain ⟨h1, h2⟩ := digB_of (n % 10) (by omega)
  simp only [decF, List.cons_append, List.nil_append]
  rw [numL_cons h1 (by omega), h2, show 10 * 0 + n % 10 = n by omega]
  rfl
 | k + 1, n, r, h, hk => by
  simp only [decF]
  split
  ·rename_i hn
   obtain ⟨h1, h2⟩ := digB_of n hn
   simp only [List.cons_append, List.nil_append]
   rw [numL_cons h1 (by omega), h2, show 10 * 0 + n = n by omega]
   rfl
  ·obtain ⟨h1, h2⟩ := digB_of (n % 10) (by omega)
   have hp : 10 ^ (k + 1 + 1) = 10 ^ (k + 1) * 10 := Nat.pow_succ ..
   rw [List.append_assoc, numL_dec k (n / 10) _ (by omega) (by omega)]
   simp only [List.cons_append, List.nil_append]
   rw [numL_cons h1 (by omega), h2, show 10 * (n / 10) + n % 10 = n by omega]
   simp only [List.length_append, List.length_cons, List.length_nil, Prod.mk.injEq, true_and]
   omega
theorem decF_pos : ∀ k n, 0 < (decF k n).length
 | 0, n => by simp [decF]
 | k + 1, n => by
  simp only [decF]
  split <;> simp
def noD : By → Bool
 | [] => true
 | b :: _ => !digB b
theorem numL_end {r : By} {n : Nat} (h : noD r = true) : numL r n = (n, 0) := by
 cases r with
 | nil => rfl
 | cons b r => exact numL_stop (by simpa [noD] using h)
theorem okN_nat {n : Int} (h : okN n = true) : n = (n.toNat : Int) ∧ n.toNat ≤ 9999 := by
 simp only [okN, Bool.and_eq_true, decide_eq_true_eq] at h
 omega
theorem numL_num {n : Int} {r : By} (h : okN n = true) (hr : noD r = true) : numL (numT n ++ r) 0 = (n.toNat, (numT n).length) := by
 obtain ⟨h1, h2⟩ := okN_nat h
 rw [numT, numL_dec 5 _ r h2 (by omega), numL_end hr]
 simp
structure Rd where
 s : By
 bad : Bool
def Rd.is (r : Rd) (g : By) : Bool := decide (r.s.take g.length = g)
def Rd.skip (r : Rd) (g : By) : Rd := if r.is g then ⟨r.s.drop g.length, r.bad⟩ else r
def Rd.must (r : Rd) (g : By) : Rd := if r.is g then ⟨r.s.drop g.length, r.bad⟩ else ⟨r.s, true⟩
def Rd.val (r : Rd) : Nat := (numL r.s 0).1
def Rd.num (r : Rd) : Rd := ⟨r.s.drop (numL r.s 0).2, r.bad || (decide (9999 < r.val) || (decide ((numL r.s 0).2 = 0) || !decide (r.s.take (numL r.s 0).2 = decF 5 r.val)))⟩
structure Th where
 r : Rd
 regs : List Int
 buf : List En
def thrL : Nat → Th → Th
  | 0, x => x
  | f + 1, x => if x.r.bad then x else if x.r.is [32] then
      (let r1 := (x.r.skip [32]).num
       let n : Int := (x.r.skip [32]).val
       if r1.is [61] then thrL f ⟨(r1.skip [61]).num, x.regs, x.buf ++ [(n, ((r1.skip [61]).val : Int))]⟩
       else thrL f ⟨⟨r1.s, r1.bad || decide (0 < x.buf.length)⟩, x.regs ++ [n], x.buf⟩)
    else x
def thr0 (r : Rd) (k : Nat) : Rd := (Rd.must ⟨r.num.s, r.num.bad || !decide (r.val = k)⟩ [58])
def thrA (r : Rd) (k : Nat) : Th := thrL ((thr0 r k).num.s.length + 1) ⟨(thr0 r k).num, [], []⟩
structure Ps where
 r : Rd
 c : Cf
def parS (x : Ps) : Ps := let r := x.r.skip [116]; let y := thrA r x.c.pc.length; ⟨y.r.must [59, 32], ⟨x.c.pc ++ [((thr0 r x.c.pc.length).val : Int)], x.c.regs ++ [y.regs], x.c.mem, x.c.bufs ++ [y.buf]⟩⟩
def parL : Nat → Ps → Ps
 | 0, x => x
 | f + 1, x => if x.r.bad then x else if x.r.is [116] then parL f (parS x) else x
def memL : Nat → Ps → Ps
 | 0, x => x
 | f + 1, x => if x.r.bad then x else if x.r.is [32] then memL f ⟨(x.r.skip [32]).num, ⟨x.c.pc, x.c.regs, x.c.mem ++ [((x.r.skip [32]).val : Int)], x.c.bufs⟩⟩ else x
def parM (s : By) : Ps := let x := parL (s.length + 1) ⟨⟨s, false⟩, ⟨[], [], [], []⟩⟩; ⟨x.r.must [109, 58], x.c⟩
def parE (s : By) : Ps := memL ((parM s).r.s.length + 1) (parM s)
def parT (s : By) : Option Cf := let x := parE s; if x.r.bad || (!decide (x.r.s = []) || decide (10 < x.c.pc.length)) then none else some x.c
theorem take_drop_of {s g : By} (h : s.take g.length = g) : g ++ s.drop g.length = s := by
 conv => rhs; rw [← List.take_append_drop g.length s, h]
theorem Rd.skip_ok {r : Rd} {g : By} (h : r.is g = true) : g ++ (r.skip g).s = r.s ∧ (r.skip g).bad = r.bad := by
 simp only [Rd.skip, h, if_true, and_true]
 exact take_drop_of (by simpa [Rd.is] using h)
theorem Rd.must_ok {r : Rd} {g : By} (h : (r.must g).bad = false) : g ++ (r.must g).s = r.s ∧ r.bad = false := by
 unfold Rd.must at h ⊢
 split at h
 ·rename_i hi
  rw [if_pos hi]
  exact ⟨take_drop_of (by simpa [Rd.is] using hi), h⟩
 ·cases h
theorem Rd.num_ok {r : Rd} (h : r.num.bad = false) : numT (r.val : Int) ++ r.num.s = r.s ∧ r.bad = false ∧ okN (r.val : Int) = true := by
 simp only [Rd.num, Bool.or_eq_false_iff, decide_eq_false_iff_not, Bool.not_eq_false', decide_eq_true_eq] at h
 obtain ⟨h1, h2, h3, h4⟩ := h
 refine ⟨?_, h1, ?_⟩
 ·simp only [numT, Rd.num, Int.toNat_natCast]
  rw [← h4, List.take_append_drop]
 ·simp only [okN, Bool.and_eq_true, decide_eq_true_eq]; omega
theorem rowT_app (a b : List Int) : rowT (a ++ b) = rowT a ++ rowT b := by
 induction a with
 | nil => rfl
 | cons n a ih => simp [rowT, ih]
theorem entT_app (a b : List En) : entT (a ++ b) = entT a ++ entT b := by
 induction a with
 | nil => rfl
 | cons n a ih => simp [entT, ih]
theorem thrL_ok : ∀ (f : Nat) (x : Th), (thrL f x).r.bad = false → x.r.bad = false ∧ rowT (thrL f x).regs ++ (entT (thrL f x).buf ++ (thrL f x).r.s) = rowT x.regs ++ (entT x.buf ++ x.r.s) ∧
  (x.regs.all okN = true → x.buf.all entS = true → (thrL f x).regs.all okN = true ∧ (thrL f x).buf.all entS = true)
 | 0, x, h => ⟨h, rfl, fun a b => ⟨a, b⟩⟩
 | f + 1, x, h => by
  unfold thrL at h ⊢
  split at h
  ·rename_i hb; rw [hb] at h; cases h
  rename_i hb
  rw [if_neg hb]
  have hb' : x.r.bad = false := by simpa using hb
  split at h
  ·rename_i hi
   rw [if_pos hi]
   obtain ⟨s1, s2⟩ := Rd.skip_ok hi
   simp only at h ⊢
   split at h
   ·rename_i he
    rw [if_pos he]
    obtain ⟨e1, e2⟩ := Rd.skip_ok he
    obtain ⟨i1, i2, i3⟩ := thrL_ok f _ h
    obtain ⟨n1, n2, n3⟩ := Rd.num_ok i1
    rw [e2] at n2
    obtain ⟨m1, m2, m3⟩ := Rd.num_ok n2
    refine ⟨hb', ?_, fun a b => i3 a ?_⟩
    ·rw [i2]
     simp only [entT_app, entT, List.append_assoc, List.append_nil, List.cons_append, List.nil_append]
     rw [n1, show (61 : UInt8) :: (((x.r.skip [32]).num).skip [61]).s = ((x.r.skip [32]).num).s from e1, m1, show (32 : UInt8) :: (x.r.skip [32]).s = x.r.s from s1]
    ·rw [List.all_append, b]; simp [entS, m3, n3]
   ·rename_i he
    rw [if_neg he]
    obtain ⟨i1, i2, i3⟩ := thrL_ok f _ h
    simp only [Bool.or_eq_false_iff, decide_eq_false_iff_not] at i1
    obtain ⟨n1, n2, n3⟩ := Rd.num_ok i1.1
    have hbuf : x.buf = [] := List.length_eq_zero_iff.1 (by omega)
    refine ⟨hb', ?_, fun a b => i3 ?_ b⟩
    ·rw [i2]
     simp only [hbuf, entT, rowT_app, rowT, List.append_assoc, List.append_nil, List.cons_append, List.nil_append]
     rw [n1, show (32 : UInt8) :: (x.r.skip [32]).s = x.r.s from s1]
    ·rw [List.all_append, a]; simp [n3]
  ·rename_i hi
   rw [if_neg hi]
   exact ⟨hb', rfl, fun a b => ⟨a, b⟩⟩
structure OkP (c : Cf) : Prop where
 r : c.regs.length = c.pc.length
 b : c.bufs.length = c.pc.length
 p : c.pc.all okN = true
 m : c.mem.all okN = true
 rs : c.regs.all (fun r => r.all okN) = true
 bs : c.bufs.all (fun b => b.all entS) = true
theorem thrsT_snoc (c : Cf) (pc : Int) (r : List Int) (b : List En) (m : List Int) : ∀ k, k ≤ c.pc.length → c.regs.length = c.pc.length → c.bufs.length = c.pc.length → thrsT ⟨c.pc ++ [pc], c.regs ++ [r], m, c.bufs ++ [b]⟩ k = thrsT c k
 | 0, _, _, _ => rfl
 | k + 1, hk, h1, h2 => by
  rw [thrsT, thrsT, thrsT_snoc c pc r b m k (by omega) h1 h2]
  simp only [List.getD_eq_getElem?_getD]
  rw [List.getElem?_append_left (by omega), List.getElem?_append_left (by omega), List.getElem?_append_left (by omega)]
theorem thrsT_mem (c : Cf) (m : List Int) : ∀ k, thrsT ⟨c.pc, c.regs, m, c.bufs⟩ k = thrsT c k
 | 0 => rfl
 | k + 1 => by rw [thrsT, thrsT, thrsT_mem c m k]
theorem thrsT_all (c : Cf) (pc : Int) (r : List Int) (b : List En) (m : List Int) (h1 : c.regs.length = c.pc.length) (h2 : c.bufs.length = c.pc.length) :
  thrsT ⟨c.pc ++ [pc], c.regs ++ [r], m, c.bufs ++ [b]⟩ (c.pc.length + 1) = thrsT c c.pc.length ++ thrT c.pc.length pc r b := by
 rw [thrsT, thrsT_snoc c pc r b m _ (Nat.le_refl _) h1 h2]
 simp [h1, h2]
theorem parS_ok (x : Ps) (hi : x.r.is [116] = true) (h : (parS x).r.bad = false) (hc : OkP x.c) : thrsT (parS x).c (parS x).c.pc.length ++ (parS x).r.s = thrsT x.c x.c.pc.length ++ x.r.s ∧ x.r.bad = false ∧ OkP (parS x).c ∧ (parS x).c.mem = x.c.mem := by
 obtain ⟨a1, a2⟩ := Rd.skip_ok hi
 simp only [parS] at h ⊢
 obtain ⟨b1, b2⟩ := Rd.must_ok h
 obtain ⟨c1, c2, c3⟩ := thrL_ok _ _ b2
 obtain ⟨d1, d2, d3⟩ := Rd.num_ok c1
 obtain ⟨e1, e2⟩ := Rd.must_ok d2
 simp only [Bool.or_eq_false_iff, Bool.not_eq_false', decide_eq_true_eq] at e2
 obtain ⟨f1, f2, f3⟩ := Rd.num_ok e2.1
 obtain ⟨g1, g2⟩ := c3 rfl rfl
 refine ⟨?_, by rw [← a2]; exact f2, ⟨?_, ?_, ?_, hc.m, ?_, ?_⟩, trivial⟩
 ·rw [List.length_append, show ([((thr0 (x.r.skip [116]) x.c.pc.length).val : Int)]).length = 1 from rfl, thrsT_all x.c _ _ _ _ hc.r hc.b]
  simp only [thrT, List.append_assoc, List.cons_append, List.nil_append]
  congr 1
  rw [show (59 : UInt8) :: 32 :: ((thrA (x.r.skip [116]) x.c.pc.length).r.must [59, 32]).s = (thrA (x.r.skip [116]) x.c.pc.length).r.s from b1]
  have c2' : rowT (thrA (x.r.skip [116]) x.c.pc.length).regs ++ (entT (thrA (x.r.skip [116]) x.c.pc.length).buf ++ (thrA (x.r.skip [116]) x.c.pc.length).r.s) = (thr0 (x.r.skip [116]) x.c.pc.length).num.s := c2
  rw [c2', d1, show (58 : UInt8) :: (thr0 (x.r.skip [116]) x.c.pc.length).s = (x.r.skip [116]).num.s from e1, ← e2.2, f1]
  exact a1
 ·simp [hc.r]
 ·simp [hc.b]
 ·simp only; rw [List.all_append, hc.p]; simp [d3]
 ·simp only; rw [List.all_append, hc.rs, List.all_cons, List.all_nil, Bool.and_true, Bool.true_and]; exact g1
 ·simp only; rw [List.all_append, hc.bs, List.all_cons, List.all_nil, Bool.and_true, Bool.true_and]; exact g2
theorem parL_ok : ∀ (f : Nat) (x : Ps), (parL f x).r.bad = false → OkP x.c → thrsT (parL f x).c (parL f x).c.pc.length ++ (parL f x).r.s = thrsT x.c x.c.pc.length ++ x.r.s ∧ x.r.bad = false ∧ OkP (parL f x).c ∧ (parL f x).c.mem = x.c.mem
 | 0, x, h, hc => ⟨rfl, h, hc, rfl⟩
 | f + 1, x, h, hc => by
  unfold parL at h ⊢
  split at h
  ·rename_i hb; rw [hb] at h; cases h
  rename_i hb
  rw [if_neg hb]
  split at h
  ·rename_i hi
   rw [if_pos hi]
   have hb2 : (parS x).r.bad = false := by
    cases hq : (parS x).r.bad with
    | false => rfl
    | true =>
     exfalso
     cases f with
     | zero => rw [parL, hq] at h; cases h
     | succ f => rw [parL, if_pos hq, hq] at h; cases h
   obtain ⟨p1, p2, p3, p4⟩ := parS_ok x hi hb2 hc
   obtain ⟨q1, q2, q3, q4⟩ := parL_ok f _ h p3
   exact ⟨q1.trans p1, p2, q3, q4.trans p4⟩
  ·rename_i hi
   rw [if_neg hi]
   exact ⟨rfl, h, hc, rfl⟩
theorem memL_ok : ∀ (f : Nat) (x : Ps), (memL f x).r.bad = false → x.r.bad = false ∧ rowT (memL f x).c.mem ++ (memL f x).r.s = rowT x.c.mem ++ x.r.s ∧ (memL f x).c.pc = x.c.pc ∧ (memL f x).c.regs = x.c.regs ∧ (memL f x).c.bufs = x.c.bufs ∧ (x.c.mem.all okN = true → (memL f x).c.mem.all okN = true)
 | 0, x, h => ⟨h, rfl, rfl, rfl, rfl, id⟩
 | f + 1, x, h => by
  unfold memL at h ⊢
  split at h
  ·rename_i hb; rw [hb] at h; cases h
  rename_i hb
  rw [if_neg hb]
  split at h
  ·rename_i hi
   rw [if_pos hi]
   obtain ⟨s1, s2⟩ := Rd.skip_ok hi
   obtain ⟨i1, i2, i3, i4, i5, i6⟩ := memL_ok f _ h
   obtain ⟨n1, n2, n3⟩ := Rd.num_ok i1
   refine ⟨by simpa using hb, ?_, i3, i4, i5, fun hm => i6 ?_⟩
   ·rw [i2]
    simp only [rowT_app, rowT, List.append_assoc, List.append_nil, List.cons_append, List.nil_append]
    rw [n1, show (32 : UInt8) :: (x.r.skip [32]).s = x.r.s from s1]
   ·simp only; rw [List.all_append, hm]; simp [n3]
  ·rename_i hi
   rw [if_neg hi]
   exact ⟨h, rfl, rfl, rfl, rfl, id⟩
theorem parT_show {s : By} {c : Cf} (h : parT s = some c) : rightS c = true ∧ showT c = s := by
 simp only [parT] at h
 split at h
 ·cases h
 rename_i hb
 cases h
 simp only [Bool.or_eq_true, Bool.not_eq_true', decide_eq_true_eq, decide_eq_false_iff_not, not_or, Decidable.not_not] at hb
 obtain ⟨h1, h2, h3⟩ := hb
 have h1 : (parE s).r.bad = false := by simpa using h1
 obtain ⟨m1, m2, m3, m4, m5, m6⟩ := memL_ok _ _ h1
 obtain ⟨k1, k2⟩ := Rd.must_ok m1
 obtain ⟨p1, p2, p3, p4⟩ := parL_ok _ _ k2 ⟨rfl, rfl, rfl, rfl, rfl, rfl⟩
 have e1 : (parE s).c.pc = (parM s).c.pc := m3
 have e2 : (parE s).c.regs = (parM s).c.regs := m4
 have e3 : (parE s).c.bufs = (parM s).c.bufs := m5
 have e4 := m6 p3.m
 constructor
 ·simp only [rightS, Bool.and_eq_true, decide_eq_true_eq]
  refine ⟨⟨by omega, ?_, ?_⟩, ⟨?_, e4⟩, ?_, ?_⟩
  ·rw [e1, e2]; exact p3.r
  ·rw [e1, e3]; exact p3.b
  ·rw [e1]; exact p3.p
  ·rw [e2]; exact p3.rs
  ·rw [e3]; exact p3.bs
 ·have q : thrsT (parE s).c (parE s).c.pc.length = thrsT (parM s).c (parM s).c.pc.length := by
   rw [e1]
   have := thrsT_mem (parM s).c (parE s).c.mem (parM s).c.pc.length
   rw [← e1, ← e2, ← e3] at this
   rw [← e1]; exact this
  rw [showT, q]
  have m2' : rowT (parE s).c.mem ++ (parE s).r.s = rowT (parM s).c.mem ++ (parM s).r.s := m2
  rw [h2, List.append_nil] at m2'
  rw [m2', show (parM s).c.mem = [] from p4]
  simp only [rowT, List.nil_append]
  rw [show (109 : UInt8) :: 58 :: (parM s).r.s = (parL (s.length + 1) ⟨⟨s, false⟩, ⟨[], [], [], []⟩⟩).r.s from k1]
  exact p1
theorem noD_rest (l : List Int) (r : By) (h : noD r = true) : noD (rowT l ++ r) = true := by
 cases l with
 | nil => exact h
 | cons n l => rfl
theorem noD_ent (l : List En) (r : By) (h : noD r = true) : noD (entT l ++ r) = true := by
 cases l with
 | nil => exact h
 | cons n l => rfl
theorem Rd.num_of {n : Int} {t : By} (h : okN n = true) (ht : noD t = true) : (Rd.mk (numT n ++ t) false).num = ⟨t, false⟩ ∧ ((Rd.mk (numT n ++ t) false).val : Int) = n := by
 obtain ⟨h1, h2⟩ := okN_nat h
 have e := numL_num h ht
 have hp := decF_pos 5 n.toNat
 have e1 : (Rd.mk (numT n ++ t) false).val = n.toNat := by simp only [Rd.val, e]
 refine ⟨?_, by rw [e1]; omega⟩
 simp only [Rd.num, e1, e, Rd.mk.injEq]
 refine ⟨by simp, ?_⟩
 simp only [Bool.or_eq_false_iff, decide_eq_false_iff_not, Bool.not_eq_false', decide_eq_true_eq, true_and]
 refine ⟨by omega, by unfold numT; omega, ?_⟩
 rw [List.take_append_of_le_length (Nat.le_refl _), List.take_length]; rfl
theorem Rd.is_cons {b : UInt8} {t : By} : (Rd.mk (b :: t) false).is [b] = true := by simp [Rd.is]
theorem Rd.skip_cons {b : UInt8} {t : By} : (Rd.mk (b :: t) false).skip [b] = ⟨t, false⟩ := by simp [Rd.skip, Rd.is]
theorem Rd.is_ne {b g : UInt8} {t : By} {x : Bool} (h : b ≠ g) : (Rd.mk (b :: t) x).is [g] = false := by simp [Rd.is, h]
theorem Rd.is_nil {g : UInt8} {x : Bool} : (Rd.mk [] x).is [g] = false := by simp [Rd.is]
theorem noD_eq (r : By) (l : List En) (q : List Int) : (Rd.mk (rowT q ++ (entT l ++ (59 :: r))) false).is [61] = false := by
 cases q with
 | cons n q => exact Rd.is_ne (by decide)
 | nil => cases l with
  | nil => exact Rd.is_ne (by decide)
  | cons e l => exact Rd.is_ne (by decide)
theorem thrL_ent : ∀ (b : List En) (f : Nat) (rs : List Int) (bs : List En) (r : By), b.all entS = true → b.length < f → thrL f ⟨⟨entT b ++ 59 :: r, false⟩, rs, bs⟩ = ⟨⟨59 :: r, false⟩, rs, bs ++ b⟩
 | [], 0, rs, bs, r, h, hf => by omega
 | [], f + 1, rs, bs, r, h, hf => by
  simp only [entT, List.nil_append, List.append_nil]
  rw [thrL, if_neg (by simp), if_neg (by rw [Rd.is_ne (by decide)]; simp)]
 | e :: b, 0, rs, bs, r, h, hf => by omega
 | e :: b, f + 1, rs, bs, r, h, hf => by
  simp only [List.all_cons, Bool.and_eq_true, entS] at h
  obtain ⟨⟨h1, h2⟩, h3⟩ := h
  simp only [entT, List.cons_append, List.append_assoc]
  rw [thrL, if_neg (by simp), if_pos Rd.is_cons]
  simp only [Rd.skip_cons]
  obtain ⟨n1, n2⟩ := Rd.num_of (t := 61 :: (numT e.2 ++ (entT b ++ 59 :: r))) h1 rfl
  obtain ⟨m1, m2⟩ := Rd.num_of (t := entT b ++ 59 :: r) h2 (noD_ent b _ rfl)
  rw [n1, n2, if_pos Rd.is_cons, Rd.skip_cons, m1, m2, thrL_ent b f rs _ r h3 (by simp at hf; omega)]
  simp
theorem thrL_row : ∀ (l : List Int) (b : List En) (f : Nat) (rs : List Int) (r : By), l.all okN = true → b.all entS = true → l.length + b.length < f → thrL f ⟨⟨rowT l ++ (entT b ++ 59 :: r), false⟩, rs, []⟩ = ⟨⟨59 :: r, false⟩, rs ++ l, b⟩
 | [], b, f, rs, r, h, hb, hf => by
  simp only [rowT, List.nil_append, List.append_nil]
  rw [thrL_ent b f rs [] r hb (by simpa using hf)]
  simp
 | n :: l, b, 0, rs, r, h, hb, hf => by omega
 | n :: l, b, f + 1, rs, r, h, hb, hf => by
  simp only [List.all_cons, Bool.and_eq_true] at h
  simp only [rowT, List.cons_append, List.append_assoc]
  rw [thrL, if_neg (by simp), if_pos Rd.is_cons]
  simp only [Rd.skip_cons]
  obtain ⟨n1, n2⟩ := Rd.num_of (t := rowT l ++ (entT b ++ 59 :: r)) h.1 (noD_rest l _ (noD_ent b _ rfl))
  rw [n1, n2, if_neg (by rw [noD_eq]; simp)]
  have := thrL_row l b f (rs ++ [n]) r h.2 hb (by simp at hf; omega)
  simp only [List.length_nil, Nat.lt_irrefl, decide_false, Bool.or_false]
  rw [this]
  simp
theorem rowT_len : ∀ l : List Int, l.length ≤ (rowT l).length
 | [] => Nat.le_refl _
 | n :: l => by have := rowT_len l; simp only [rowT, List.length_cons, List.length_append]; omega
theorem entT_len : ∀ l : List En, l.length ≤ (entT l).length
 | [] => Nat.le_refl _
 | n :: l => by have := entT_len l; simp only [entT, List.length_cons, List.length_append]; omega
theorem okN_k {k : Nat} (h : k ≤ 9999) : okN (k : Int) = true := by simp only [okN, Bool.and_eq_true, decide_eq_true_eq]; omega
theorem parS_show {k : Nat} {pc : Int} {rg : List Int} {b : List En} {t : By} {c : Cf} (hk : c.pc.length = k) (hk9 : k ≤ 9999) (h1 : okN pc = true) (h2 : rg.all okN = true) (h3 : b.all entS = true) :
  parS ⟨⟨thrT k pc rg b ++ t, false⟩, c⟩ = ⟨⟨t, false⟩, ⟨c.pc ++ [pc], c.regs ++ [rg], c.mem, c.bufs ++ [b]⟩⟩ := by
 subst hk
 simp only [parS, thrT, List.cons_append, List.append_assoc, Rd.skip_cons, List.nil_append]
 obtain ⟨n1, n2⟩ := Rd.num_of (t := 58 :: (numT pc ++ (rowT rg ++ (entT b ++ 59 :: 32 :: t)))) (okN_k hk9) rfl
 have e0 : thr0 ⟨numT (c.pc.length : Int) ++ 58 :: (numT pc ++ (rowT rg ++ (entT b ++ 59 :: 32 :: t))), false⟩ c.pc.length = ⟨numT pc ++ (rowT rg ++ (entT b ++ 59 :: 32 :: t)), false⟩ := by
  simp only [thr0, n1]
  have n2' : (Rd.mk (numT (c.pc.length : Int) ++ 58 :: (numT pc ++ (rowT rg ++ (entT b ++ 59 :: 32 :: t)))) false).val = c.pc.length := by omega
  rw [n2']
  simp [Rd.must, Rd.is]
 obtain ⟨m1, m2⟩ := Rd.num_of (t := rowT rg ++ (entT b ++ 59 :: 32 :: t)) h1 (noD_rest rg _ (noD_ent b _ rfl))
 have e1 : thrA ⟨numT (c.pc.length : Int) ++ 58 :: (numT pc ++ (rowT rg ++ (entT b ++ 59 :: 32 :: t))), false⟩ c.pc.length = ⟨⟨59 :: 32 :: t, false⟩, rg, b⟩ := by
  simp only [thrA, e0, m1]
  rw [thrL_row rg b _ [] (32 :: t) h2 h3]
  ·simp
  ·have l1 := rowT_len rg
   have l2 := entT_len b
   simp only [List.length_append, List.length_cons]
   omega
 rw [e1, e0, m2]
 simp [Rd.must, Rd.is]
def restT (c : Cf) : Nat → Nat → By
 | 0, _ => []
 | m + 1, k => thrT k (c.pc.getD k 0) (c.regs.getD k []) (c.bufs.getD k []) ++ restT c m (k + 1)
theorem restT_eq (c : Cf) : ∀ m k, thrsT c (k + m) = thrsT c k ++ restT c m k
 | 0, k => by simp [restT]
 | m + 1, k => by
  rw [show k + (m + 1) = (k + 1) + m by omega, restT_eq c m (k + 1), thrsT, restT, List.append_assoc]
theorem thrT_pos (k : Nat) (pc : Int) (r : List Int) (b : List En) : 0 < (thrT k pc r b).length := by simp [thrT]
theorem getD_all {α : Type} {l : List α} {p : α → Bool} (h : l.all p = true) {k : Nat} (hk : k < l.length) (d : α) : p (l.getD k d) = true := by
 rw [List.getD_eq_getElem?_getD, List.getElem?_eq_getElem hk]
 exact List.all_eq_true.1 h _ (List.getElem_mem hk)
theorem take_snoc {α : Type} {l : List α} {k : Nat} (hk : k < l.length) (d : α) : l.take k ++ [l.getD k d] = l.take (k + 1) := by
 rw [List.take_add_one, List.getD_eq_getElem?_getD, List.getElem?_eq_getElem hk]; rfl
theorem parL_show (c : Cf) (t : By) (hc : OkP c) (hl : c.pc.length ≤ 9999) : ∀ (m k f : Nat), k + m = c.pc.length → m < f → parL f ⟨⟨restT c m k ++ 109 :: t, false⟩, ⟨c.pc.take k, c.regs.take k, [], c.bufs.take k⟩⟩ = ⟨⟨109 :: t, false⟩, ⟨c.pc, c.regs, [], c.bufs⟩⟩
 | 0, k, 0, hm, hf => by omega
 | 0, k, f + 1, hm, hf => by
  simp only [restT, List.nil_append]
  rw [parL, if_neg (by simp), if_neg (by rw [Rd.is_ne (by decide)]; simp)]
  rw [List.take_of_length_le (by omega), List.take_of_length_le (by have := hc.r; omega), List.take_of_length_le (by have := hc.b; omega)]
 | m + 1, k, 0, hm, hf => by omega
 | m + 1, k, f + 1, hm, hf => by
  have hr := hc.r
  have hb := hc.b
  rw [restT, List.append_assoc, parL, if_neg (by simp)]
  rw [if_pos (by simp only [thrT, List.cons_append]; exact Rd.is_cons)]
  rw [parS_show (k := k) (by simp only [List.length_take]; omega) (by omega) (getD_all hc.p (by omega) 0) (getD_all hc.rs (by omega) []) (getD_all hc.bs (by omega) [])]
  simp only
  rw [take_snoc (by omega), take_snoc (by omega), take_snoc (by omega)]
  exact parL_show c t hc hl m (k + 1) f (by omega) (by omega)
theorem memL_show : ∀ (l : List Int) (f : Nat) (a b : List _) (m : List Int) (e : List _), l.all okN = true → l.length < f → memL f ⟨⟨rowT l, false⟩, ⟨a, b, m, e⟩⟩ = ⟨⟨[], false⟩, ⟨a, b, m ++ l, e⟩⟩
 | [], 0, a, b, m, e, h, hf => by omega
 | [], f + 1, a, b, m, e, h, hf => by
  rw [memL, if_neg (by simp), rowT, if_neg (by rw [Rd.is_nil]; simp)]
  simp
 | n :: l, 0, a, b, m, e, h, hf => by omega
 | n :: l, f + 1, a, b, m, e, h, hf => by
  simp only [List.all_cons, Bool.and_eq_true] at h
  rw [rowT, memL, if_neg (by simp), if_pos Rd.is_cons]
  simp only [Rd.skip_cons]
  obtain ⟨n1, n2⟩ := Rd.num_of (t := rowT l) h.1 (by cases l <;> rfl)
  rw [n1, n2, memL_show l f a b _ e h.2 (by simp at hf; omega)]
  simp
theorem rightS_ok {c : Cf} (h : rightS c = true) : OkP c ∧ c.pc.length ≤ 10 := by
 simp only [rightS, Bool.and_eq_true, decide_eq_true_eq] at h
 obtain ⟨⟨h1, h2, h3⟩, ⟨h4, h5⟩, h6, h7⟩ := h
 exact ⟨⟨h2, h3, h4, h5, h6, h7⟩, h1⟩
theorem restT_len (c : Cf) : ∀ m k, m ≤ (restT c m k).length
 | 0, k => Nat.zero_le _
 | m + 1, k => by
  have := restT_len c m (k + 1)
  have h2 := thrT_pos k (c.pc.getD k 0) (c.regs.getD k []) (c.bufs.getD k [])
  simp only [restT, List.length_append]; omega
theorem parT_of {c : Cf} (h : rightS c = true) : parT (showT c) = some c := by
 obtain ⟨hc, hl⟩ := rightS_ok h
 have e : showT c = restT c c.pc.length 0 ++ 109 :: 58 :: rowT c.mem := by
  have := restT_eq c c.pc.length 0
  rw [Nat.zero_add] at this
  rw [showT, this]
  rfl
 have e1 : parM (showT c) = ⟨⟨rowT c.mem, false⟩, ⟨c.pc, c.regs, [], c.bufs⟩⟩ := by
  have h1 := parL_show c (58 :: rowT c.mem) hc (by omega) c.pc.length 0 ((showT c).length + 1) (by omega) (by
   have := restT_len c c.pc.length 0
   rw [e]; simp only [List.length_append]; omega)
  simp only [List.take_zero] at h1
  simp only [parM]
  rw [← e] at h1
  rw [h1]
  simp [Rd.must, Rd.is]
 have e2 : parE (showT c) = ⟨⟨[], false⟩, c⟩ := by
  rw [parE, e1]
  rw [memL_show c.mem _ _ _ _ _ hc.m (by have := rowT_len c.mem; simp only; omega)]
  rfl
 simp only [parT, e2]
 simp; omega
def rnum : By → Nat → Nat × Nat
 | [], n => (n, 0)
 | b :: r, n => if digB b then ((rnum r (min (10 * n + (b.toNat - 48)) 10000)).1, (rnum r (min (10 * n + (b.toNat - 48)) 10000)).2 + 1) else (n, 0)
theorem rnum_le : ∀ (s : By) (n : Nat), n ≤ 10000 → (rnum s n).1 ≤ 10000 ∧ (rnum s n).2 ≤ s.length
 | [], n, h => ⟨h, Nat.le_refl _⟩
 | b :: r, n, h => by
  unfold rnum
  split
  ·have := rnum_le r (min (10 * n + (b.toNat - 48)) 10000) (by omega)
   simp only [List.length_cons]; omega
  ·exact ⟨h, Nat.zero_le _⟩
theorem rnum_cons {b : UInt8} {r : By} {n m : Nat} (h : digB b = true) (hn : 10 * n + (b.toNat - 48) = m) (hm : m ≤ 9999) : rnum (b :: r) n = ((rnum r m).1, (rnum r m).2 + 1) := by
 simp only [rnum, h, if_true, hn]
 rw [Nat.min_eq_left (by omega)]
theorem rnum_end {r : By} {n : Nat} (h : noD r = true) : rnum r n = (n, 0) := by
 cases r with
 | nil => rfl
 | cons b r =>
  have : digB b = false := by simpa [noD] using h
  simp only [rnum, this, Bool.false_eq_true, if_false]
theorem rnum_dec : ∀ (k n : Nat) (r : By), n ≤ 9999 → n < 10 ^ (k + 1) → rnum (decF k n ++ r) 0 = ((rnum r n).1, (rnum r n).2 + (decF k n).length)
 | 0, n, r, h, hk => by
  have hn : n < 10 := by simpa using hk
  obtain ⟨h1, h2⟩ := digB_of (n % 10) (by omega)
  simp only [decF, List.cons_append, List.nil_append]
  rw [rnum_cons (m := n) h1 (by omega) h]
  rfl
 | k + 1, n, r, h, hk => by
  simp only [decF]
  split
  ·rename_i hn
   obtain ⟨h1, h2⟩ := digB_of n hn
   simp only [List.cons_append, List.nil_append]
   rw [rnum_cons (m := n) h1 (by omega) h]
   rfl
  ·obtain ⟨h1, h2⟩ := digB_of (n % 10) (by omega)
   have hp : 10 ^ (k + 1 + 1) = 10 ^ (k + 1) * 10 := Nat.pow_succ ..
   rw [List.append_assoc, rnum_dec k (n / 10) _ (by omega) (by omega)]
   simp only [List.cons_append, List.nil_append]
   rw [rnum_cons (m := n) h1 (by omega) h]
   simp only [List.length_append, List.length_cons, List.length_nil, Prod.mk.injEq, true_and]
   omega
theorem rnum_num {n : Int} {r : By} (h : okN n = true) (hr : noD r = true) : rnum (numT n ++ r) 0 = (n.toNat, (numT n).length) := by
 obtain ⟨h1, h2⟩ := okN_nat h
 rw [numT, rnum_dec 5 _ r h2 (by omega), rnum_end hr]
 simp
def hdB (s : By) (b : UInt8) : Bool := match s with | [] => false | x :: _ => decide (x = b)
structure Lo where
 s : By
 regs : List Int
 buf : List En
def looL : Nat → Lo → Lo
  | 0, x => x
  | f + 1, x => if hdB x.s 32 then
      (let n := rnum (x.s.drop 1) 0
       let s1 := (x.s.drop 1).drop n.2
       if hdB s1 61 then (let v := rnum (s1.drop 1) 0; looL f ⟨(s1.drop 1).drop v.2, x.regs, x.buf ++ [((n.1 : Int), (v.1 : Int))]⟩)
       else looL f ⟨s1, x.regs ++ [(n.1 : Int)], x.buf⟩)
    else x
structure Lp where
 s : By
 c : Cf
def looS (x : Lp) : Lp :=
 let m := rnum (x.s.drop 1) 0
 let s1 := ((x.s.drop 1).drop m.2).drop 1
 let p := rnum s1 0
 let y := looL ((s1.drop p.2).length + 1) ⟨s1.drop p.2, [], []⟩
 ⟨y.s.drop 2, ⟨x.c.pc ++ [(p.1 : Int)], x.c.regs ++ [y.regs], x.c.mem, x.c.bufs ++ [y.buf]⟩⟩
def looP : Nat → Lp → Lp
 | 0, x => x
 | f + 1, x => if hdB x.s 116 && decide (x.c.pc.length < 11) then looP f (looS x) else x
def looM : Nat → Lp → Lp
 | 0, x => x
 | f + 1, x => if hdB x.s 32 then (let n := rnum (x.s.drop 1) 0; looM f ⟨(x.s.drop 1).drop n.2, ⟨x.c.pc, x.c.regs, x.c.mem ++ [(n.1 : Int)], x.c.bufs⟩⟩) else x
def looA (s : By) : Lp := let x := looP (s.length + 1) ⟨s, ⟨[], [], [], []⟩⟩; ⟨x.s.drop 2, x.c⟩
def looF (s : By) : Cf := (looM ((looA s).s.length + 1) (looA s)).c
def rparF (s : By) : Option Cf := if decide (s = []) || !decide (showF (looF s) = s) then none else some (looF s)
theorem looL_ent : ∀ (b : List En) (f : Nat) (rs : List Int) (bs : List En) (r : By), b.all entS = true → b.length < f → looL f ⟨entT b ++ 59 :: r, rs, bs⟩ = ⟨59 :: r, rs, bs ++ b⟩
 | [], 0, rs, bs, r, h, hf => by omega
 | [], f + 1, rs, bs, r, h, hf => by simp [entT, looL, hdB]
 | e :: b, 0, rs, bs, r, h, hf => by omega
 | e :: b, f + 1, rs, bs, r, h, hf => by
  simp only [List.all_cons, Bool.and_eq_true, entS] at h
  obtain ⟨⟨h1, h2⟩, h3⟩ := h
  simp only [entT, List.cons_append, List.append_assoc, looL, hdB, decide_true, if_true, List.drop_succ_cons, List.drop_zero]
  rw [rnum_num (r := 61 :: (numT e.2 ++ (entT b ++ 59 :: r))) h1 rfl]
  simp only [List.drop_left, hdB, decide_true, if_true, List.drop_succ_cons, List.drop_zero]
  rw [rnum_num (r := entT b ++ 59 :: r) h2 (noD_ent b _ rfl)]
  simp only [List.drop_left]
  rw [looL_ent b f rs _ r h3 (by simp at hf; omega)]
  obtain ⟨a1, _⟩ := okN_nat h1
  obtain ⟨a2, _⟩ := okN_nat h2
  rw [← a1, ← a2]
  simp
theorem looL_row : ∀ (l : List Int) (b : List En) (f : Nat) (rs : List Int) (r : By), l.all okN = true → b.all entS = true → l.length + b.length < f → looL f ⟨rowT l ++ (entT b ++ 59 :: r), rs, []⟩ = ⟨59 :: r, rs ++ l, b⟩
 | [], b, f, rs, r, h, hb, hf => by
  simp only [rowT, List.nil_append, List.append_nil]
  rw [looL_ent b f rs [] r hb (by simpa using hf)]
  simp
 | n :: l, b, 0, rs, r, h, hb, hf => by omega
 | n :: l, b, f + 1, rs, r, h, hb, hf => by
  simp only [List.all_cons, Bool.and_eq_true] at h
  simp only [rowT, List.cons_append, List.append_assoc]
  rw [looL, if_pos (by rfl)]
  simp only [List.drop_succ_cons, List.drop_zero]
  rw [rnum_num (r := rowT l ++ (entT b ++ 59 :: r)) h.1 (noD_rest l _ (noD_ent b _ rfl))]
  have hh : hdB (rowT l ++ (entT b ++ 59 :: r)) 61 = false := by
   cases l with
   | cons n l => rfl
   | nil => cases b <;> rfl
  simp only [List.drop_left]
  rw [if_neg (by rw [hh]; simp), looL_row l b f _ r h.2 hb (by simp at hf; omega)]
  obtain ⟨a1, _⟩ := okN_nat h.1
  rw [← a1]
  simp
theorem looS_show {k : Nat} {pc : Int} {rg : List Int} {b : List En} {t : By} {c : Cf} (hk9 : k ≤ 9999) (h1 : okN pc = true) (h2 : rg.all okN = true) (h3 : b.all entS = true) :
  looS ⟨thrT k pc rg b ++ t, c⟩ = ⟨t, ⟨c.pc ++ [pc], c.regs ++ [rg], c.mem, c.bufs ++ [b]⟩⟩ := by
 simp only [looS, thrT, List.cons_append, List.append_assoc, List.drop_succ_cons, List.drop_zero, List.nil_append]
 rw [rnum_num (r := 58 :: (numT pc ++ (rowT rg ++ (entT b ++ 59 :: 32 :: t)))) (okN_k hk9) rfl]
 simp only [List.drop_left, List.drop_succ_cons, List.drop_zero]
 rw [rnum_num (r := rowT rg ++ (entT b ++ 59 :: 32 :: t)) h1 (noD_rest rg _ (noD_ent b _ rfl))]
 simp only [List.drop_left]
 rw [looL_row rg b _ [] (32 :: t) h2 h3]
 ·obtain ⟨a1, _⟩ := okN_nat h1
  rw [← a1]; simp
 ·have l1 := rowT_len rg
  have l2 := entT_len b
  simp only [List.length_append, List.length_cons]
  omega
theorem looP_show (c : Cf) (t : By) (hc : OkP c) (hl : c.pc.length ≤ 10) : ∀ (m k f : Nat), k + m = c.pc.length → m < f → looP f ⟨restT c m k ++ 109 :: t, ⟨c.pc.take k, c.regs.take k, [], c.bufs.take k⟩⟩ = ⟨109 :: t, ⟨c.pc, c.regs, [], c.bufs⟩⟩
 | 0, k, 0, hm, hf => by omega
 | 0, k, f + 1, hm, hf => by
  simp only [restT, List.nil_append, looP, hdB]
  rw [List.take_of_length_le (by omega), List.take_of_length_le (by have := hc.r; omega), List.take_of_length_le (by have := hc.b; omega)]
  simp
 | m + 1, k, 0, hm, hf => by omega
 | m + 1, k, f + 1, hm, hf => by
  have hr := hc.r
  have hb := hc.b
  have hd : (hdB (restT c (m + 1) k ++ 109 :: t) 116 && decide ((c.pc.take k).length < 11)) = true := by
   have : (c.pc.take k).length < 11 := by simp only [List.length_take]; omega
   simp [restT, thrT, hdB]; omega
  rw [looP, if_pos hd, restT, List.append_assoc]
  rw [looS_show (by omega) (getD_all hc.p (by omega) 0) (getD_all hc.rs (by omega) []) (getD_all hc.bs (by omega) [])]
  simp only
  rw [take_snoc (by omega), take_snoc (by omega), take_snoc (by omega)]
  exact looP_show c t hc hl m (k + 1) f (by omega) (by omega)
theorem looM_show : ∀ (l : List Int) (f : Nat) (a b : List _) (m : List Int) (e : List _), l.all okN = true → l.length < f → (looM f ⟨rowT l, ⟨a, b, m, e⟩⟩).c = ⟨a, b, m ++ l, e⟩
 | [], 0, a, b, m, e, h, hf => by omega
 | [], f + 1, a, b, m, e, h, hf => by simp [looM, rowT, hdB]
 | n :: l, 0, a, b, m, e, h, hf => by omega
 | n :: l, f + 1, a, b, m, e, h, hf => by
  simp only [List.all_cons, Bool.and_eq_true] at h
  simp only [rowT, looM, hdB, decide_true, if_true, List.drop_succ_cons, List.drop_zero]
  rw [rnum_num (r := rowT l) h.1 (by cases l <;> rfl)]
  simp only [List.drop_left]
  rw [looM_show l f a b _ e h.2 (by simp at hf; omega)]
  obtain ⟨a1, _⟩ := okN_nat h.1
  rw [← a1]
  simp
theorem looF_show {c : Cf} (h : rightS c = true) : looF (showT c) = c := by
 obtain ⟨hc, hl⟩ := rightS_ok h
 have e : showT c = restT c c.pc.length 0 ++ 109 :: 58 :: rowT c.mem := by
  have := restT_eq c c.pc.length 0
  rw [Nat.zero_add] at this
  rw [showT, this]
  rfl
 have e1 : looA (showT c) = ⟨rowT c.mem, ⟨c.pc, c.regs, [], c.bufs⟩⟩ := by
  have h1 := looP_show c (58 :: rowT c.mem) hc hl c.pc.length 0 ((showT c).length + 1) (by omega) (by
   have := restT_len c c.pc.length 0
   rw [e]; simp only [List.length_append]; omega)
  simp only [List.take_zero] at h1
  simp only [looA]
  rw [← e] at h1
  rw [h1]
  simp
 rw [looF, e1]
 exact looM_show c.mem _ _ _ _ _ hc.m (by have := rowT_len c.mem; simp only; omega)
theorem showT_ne (c : Cf) : showT c ≠ [] := by simp [showT]
theorem par_eq (s : By) : parT s = rparF s := by
 simp only [rparF]
 split
 ·rename_i h
  cases hp : parT s with
  | none => rfl
  | some c =>
   obtain ⟨h1, h2⟩ := parT_show hp
   subst h2
   exfalso
   simp [showT_ne, looF_show h1, showF, h1] at h
 ·rename_i h
  simp only [Bool.or_eq_true, decide_eq_true_eq, Bool.not_eq_true', decide_eq_false_iff_not, not_or, Decidable.not_not] at h
  obtain ⟨h0, h1⟩ := h
  unfold showF at h1
  split at h1
  ·rename_i hr
   conv => lhs; rw [← h1]
   exact parT_of hr
  ·exact absurd h1.symm h0
def difK {α : Type} [DecidableEq α] (a b : List α) : Nat → Nat
 | 0 => 0
 | k + 1 => if a[k]? = b[k]? then difK a b k else difK a b k + 1
def difN {α : Type} [DecidableEq α] (a b : List α) : Nat := difK a b (max a.length b.length)
def rowD {α : Type} [DecidableEq α] (a b : List (List α)) : Nat → Nat
 | 0 => 0
 | k + 1 => rowD a b k + difN (a.getD k []) (b.getD k [])
def rowN {α : Type} [DecidableEq α] (a b : List (List α)) : Nat := rowD a b (max a.length b.length)
def chgF (a b : Cf) : Nat := difN a.pc b.pc + difN a.mem b.mem + rowN a.regs b.regs + rowN a.bufs b.bufs
section
variable {α : Type} [DecidableEq α]
theorem difK_le (a b : List α) : ∀ k, difK a b k ≤ k
 | 0 => Nat.le_refl _
 | k + 1 => by have := difK_le a b k; unfold difK; split <;> omega
theorem difN_le (a b : List α) : difN a b ≤ max a.length b.length := difK_le a b _
theorem difK_symm (a b : List α) : ∀ k, difK a b k = difK b a k
 | 0 => rfl
 | k + 1 => by
  rw [difK, difK, difK_symm a b k]
  by_cases h : a[k]? = b[k]?
  ·rw [if_pos h, if_pos h.symm]
  ·rw [if_neg h, if_neg fun e => h e.symm]
theorem difN_symm (a b : List α) : difN a b = difN b a := by rw [difN, difN, Nat.max_comm, difK_symm]
theorem difK_zero (a b : List α) : ∀ k, difK a b k = 0 ↔ ∀ i, i < k → a[i]? = b[i]?
 | 0 => by simp [difK]
 | k + 1 => by
  rw [difK]
  split
  ·rename_i h
   rw [difK_zero a b k]
   exact ⟨fun g i hi => (Nat.lt_succ_iff_lt_or_eq.1 hi).elim (g i) fun e => e ▸ h, fun g i hi => g i (by omega)⟩
  ·rename_i h
   exact ⟨fun e => by omega, fun g => absurd (g k (by omega)) h⟩
theorem difN_zero (a b : List α) : difN a b = 0 ↔ a = b := by
 rw [difN, difK_zero]
 constructor
 ·intro h
  refine List.ext_getElem? fun i => ?_
  rcases Nat.lt_or_ge i (max a.length b.length) with hi | hi
  ·exact h i hi
  ·rw [List.getElem?_eq_none (by omega), List.getElem?_eq_none (by omega)]
 ·rintro rfl i _; rfl
theorem difK_more (a b : List α) (h : a.length ≤ b.length) : ∀ m, a.length + m ≤ b.length → difK a b (a.length + m) = difK a b a.length + m
 | 0, _ => rfl
 | m + 1, hm => by
  rw [show a.length + (m + 1) = (a.length + m) + 1 by omega, difK, difK_more a b h m (by omega), if_neg]
  ·omega
  ·rw [List.getElem?_eq_none (by omega), List.getElem?_eq_getElem (by omega)]
   simp
theorem difN_of (a b : List α) (h : a.length ≤ b.length) : difN a b = difK a b a.length + (b.length - a.length) := by
 have := difK_more a b h (b.length - a.length) (by omega)
 rw [difN, Nat.max_eq_right h]
 rw [show a.length + (b.length - a.length) = b.length by omega] at this
 exact this
theorem difN_nil (b : List α) : difN [] b = b.length := by
 rw [difN_of [] b (Nat.zero_le _)]; simp [difK]
theorem rowD_symm (a b : List (List α)) : ∀ k, rowD a b k = rowD b a k
 | 0 => rfl
 | k + 1 => by rw [rowD, rowD, rowD_symm a b k, difN_symm]
theorem rowN_symm (a b : List (List α)) : rowN a b = rowN b a := by rw [rowN, rowN, Nat.max_comm, rowD_symm]
theorem rowD_zero (a b : List (List α)) : ∀ k, rowD a b k = 0 ↔ ∀ i, i < k → a.getD i [] = b.getD i []
 | 0 => by simp [rowD]
 | k + 1 => by
  rw [rowD, Nat.add_eq_zero_iff, rowD_zero a b k, difN_zero]
  exact ⟨fun ⟨g, h⟩ i hi => (Nat.lt_succ_iff_lt_or_eq.1 hi).elim (g i) fun e => e ▸ h, fun g => ⟨fun i hi => g i (by omega), g k (by omega)⟩⟩
theorem rowN_zero (a b : List (List α)) (h : a.length = b.length) : rowN a b = 0 ↔ a = b := by
 rw [rowN, rowD_zero]
 constructor
 ·intro g
  refine List.ext_getElem h fun i h1 h2 => ?_
  have := g i (by omega)
  simpa [List.getD_eq_getElem?_getD, h1, h2] using this
 ·rintro rfl i _; rfl
end
theorem chg_symm (a b : Cf) : chgF a b = chgF b a := by
 rw [chgF, chgF, difN_symm a.pc, difN_symm a.mem, rowN_symm a.regs, rowN_symm a.bufs]
theorem chg_zero (a b : Cf) (h1 : a.regs.length = b.regs.length) (h2 : a.bufs.length = b.bufs.length) : chgF a b = 0 ↔ a.pc = b.pc ∧ a.regs = b.regs ∧ a.mem = b.mem ∧ a.bufs = b.bufs := by
 rw [chgF, Nat.add_eq_zero_iff, Nat.add_eq_zero_iff, Nat.add_eq_zero_iff, difN_zero, difN_zero, rowN_zero _ _ h1, rowN_zero _ _ h2]
 exact ⟨fun ⟨⟨⟨a, b⟩, c⟩, d⟩ => ⟨a, c, b, d⟩, fun ⟨a, c, b, d⟩ => ⟨⟨⟨a, b⟩, c⟩, d⟩⟩
end Go.Proofs.Ytomcmfbpmkklmaa
