/- Plain law: configurations as text; the strict and the loose reader read the same. No condition. -/
import Derived.Test.YtomcmfbpmkklmaaGreatXe
import Derived.Test.YtomcmfbpmkklmaaGreatRa
namespace Go.Proofs.YtomcmfbpmkklmaaGreat
set_option linter.unusedSimpArgs false
set_option linter.unusedVariables false
set_option maxRecDepth 20000
open Go Go.Proofs Go.Vc
abbrev By := List UInt8
def numT (n : Int) : By := decF 5 n.toNat
def okN (n : Int) : Bool := decide (0 ≤ n) && decide (n ≤ 9999)
def digB (b : UInt8) : Bool := decide (48 ≤ b.toNat) && decide (b.toNat ≤ 57)
def entS (e : En) : Bool := okN e.1 && okN e.2
def rowT : List Int → By
 | [] => []
 | n :: l => 32 :: (numT n ++ rowT l)
def entT : List En → By
 | [] => []
 | e :: l => 32 :: (numT e.1 ++ 61 :: (numT e.2 ++ entT l))
def thrT (t : Nat) (pc : Int) (r : List Int) (b : List En) : By := 116 :: (numT t ++ 58 :: (numT pc ++ (rowT r ++ (entT b ++ [59, 32]))))
def thrsT (c : Cf) : Nat → By
 | 0 => []
 | k + 1 => thrsT c k ++ thrT k (c.pc.getD k 0) (c.regs.getD k []) (c.bufs.getD k [])
def showT (c : Cf) : By := thrsT c c.pc.length ++ (109 :: 58 :: rowT c.mem)
def rightS (c : Cf) : Bool := (decide (c.pc.length ≤ 10) && (decide (c.regs.length = c.pc.length) && decide (c.bufs.length = c.pc.length))) && ((c.pc.all okN && c.mem.all okN) && (c.regs.all (fun r => r.all okN) && c.bufs.all (fun b => b.all entS)))
def showF (c : Cf) : By := if rightS c then showT c else []
def numL : By → Nat → Nat × Nat
 | [], n => (n, 0)
 | b :: r, n => if digB b && decide (n ≤ 9999) then ((numL r (10 * n + (b.toNat - 48))).1, (numL r (10 * n + (b.toNat - 48))).2 + 1) else (n, 0)
theorem digB_of (n : Nat) (h : n < 10) : digB (UInt8.ofNat (48 + n)) = true ∧ (UInt8.ofNat (48 + n)).toNat - 48 = n := by
 have : n = 0 ∨ n = 1 ∨ n = 2 ∨ n = 3 ∨ n = 4 ∨ n = 5 ∨ n = 6 ∨ n = 7 ∨ n = 8 ∨ n = 9 := by omega
 rcases this with rfl | rfl | rfl | rfl | rfl | rfl | rfl | rfl | rfl | rfl <;> decide
theorem numL_cons {b : UInt8} {r : By} {n : Nat} (h : digB b = true) (hn : n ≤ 9999) : numL (b :: r) n = ((numL r (10 * n + (b.toNat - 48))).1, (numL r (10 * n + (b.toNat - 48))).2 + 1) := by
 simp only [numL, h, hn, decide_true, Bool.and_self, if_true]
theorem numL_stop {b : UInt8} {r : By} {n : Nat} (h : digB b = false) : numL (b :: r) n = (n, 0) := by
 simp only [numL, h, Bool.false_and, Bool.false_eq_true, if_false]
theorem numL_dec : ∀ (k n : Nat) (r : By), n ≤ 9999 → n < 10 ^ (k + 1) → numL (decF k n ++ r) 0 = ((numL r n).1, (numL r n).2 + (decF k n).length)
 | 0, n, r, h, hk => by
  have hn : n < 10 := by simpa using hk
  obtain ⟨h1, h2⟩ := digB_of (n % 10) (by omega)
  simp only [decF, List.cons_append, List.nil_append]
  rw [numL_cons h1 (by omega), h2, show 10 * 0 + n % 10 = n by omega]
  rfl
 | k + 1, n, r, h, hk => by
  simp only [decF]
  split
  ·rename_i hn
   obtain ⟨h1, h2⟩ := digB_of n hn
   simp only [List.cons_append, List.nil_append]
   rw [numL_cons h1 (by omega), h2, show 10 * 0 + n = n by omega]
   rfl
  ·obtain ⟨h1, h2⟩ := digB_of (n % 10) (by omega)
   have hp : 10 ^ (k + 1 + 1) = 10 ^ (k + 1) * 10 := Nat.pow_succ ..
   rw [List.append_assoc, numL_dec k (n / 10) _ (by omega) (by omega)]
   simp only [List.cons_append, List.nil_append]
   rw [numL_cons h1 (by omega), h2, show 10 * (n / 10) + n % 10 = n by omega]
   simp only [List.length_append, List.length_cons, List.length_nil, Prod.mk.injEq, true_and]
   omega
theorem decF_pos : ∀ k n, 0 < (decF k n).length
 | 0, n => by simp [decF]
 | k + 1, n => by
  simp only [decF]
  split <;> simp
def noD : By → Bool
 | [] => true
 | b :: _ => !digB b
theorem numL_end {r : By} {n : Nat} (h : noD r = true) : numL r n = (n, 0) := by
 cases r with
 | nil => rfl
 | cons b r => exact numL_stop (by simpa [noD] using h)
theorem okN_nat {n : Int} (h : okN n = true) : n = (n.toNat : Int) ∧ n.toNat ≤ 9999 := by
 simp only [okN, Bool.and_eq_true, decide_eq_true_eq] at h
 omega
theorem numL_num {n : Int} {r : By} (h : okN n = true) (hr : noD r = true) : numL (numT n ++ r) 0 = (n.toNat, (numT n).length) := by
 obtain ⟨h1, h2⟩ := okN_nat h
 rw [numT, numL_dec 5 _ r h2 (by omega), numL_end hr]
 simp
structure Rd where
 s : By
 bad : Bool
def Rd.is (r : Rd) (g : By) : Bool := decide (r.s.take g.length = g)
def Rd.skip (r : Rd) (g : By) : Rd := if r.is g then ⟨r.s.drop g.length, r.bad⟩ else r
def Rd.must (r : Rd) (g : By) : Rd := if r.is g then ⟨r.s.drop g.length, r.bad⟩ else ⟨r.s, true⟩
def Rd.val (r : Rd) : Nat := (numL r.s 0).1
def Rd.num (r : Rd) : Rd := ⟨r.s.drop (numL r.s 0).2, r.bad || (decide (9999 < r.val) || (decide ((numL r.s 0).2 = 0) || !decide (r.s.take (numL r.s 0).2 = decF 5 r.val)))⟩
structure Th where
 r : Rd
 regs : List Int
 buf : List En
def thrL : Nat → Th → Th
  | 0, x => x
  | f + 1, x => if x.r.bad then x else if x.r.is [32] then
      (let r1 := (x.r.skip [32]).num
       let n : Int := (x.r.skip [32]).val
       if r1.is [61] then thrL f ⟨(r1.skip [61]).num, x.regs, x.buf ++ [(n, ((r1.skip [61]).val : Int))]⟩
       else thrL f ⟨⟨r1.s, r1.bad || decide (0 < x.buf.length)⟩, x.regs ++ [n], x.buf⟩)
    else x
def thr0 (r : Rd) (k : Nat) : Rd := (Rd.must ⟨r.num.s, r.num.bad || !decide (r.val = k)⟩ [58])
def thrA (r : Rd) (k : Nat) : Th := thrL ((thr0 r k).num.s.length + 1) ⟨(thr0 r k).num, [], []⟩
structure Ps where
 r : Rd
 c : Cf
def parS (x : Ps) : Ps := let r := x.r.skip [116]; let y := thrA r x.c.pc.length; ⟨y.r.must [59, 32], ⟨x.c.pc ++ [((thr0 r x.c.pc.length).val : Int)], x.c.regs ++ [y.regs], x.c.mem, x.c.bufs ++ [y.buf]⟩⟩
def parL : Nat → Ps → Ps
 | 0, x => x
 | f + 1, x => if x.r.bad then x else if x.r.is [116] then parL f (parS x) else x
def memL : Nat → Ps → Ps
 | 0, x => x
 | f + 1, x => if x.r.bad then x else if x.r.is [32] then memL f ⟨(x.r.skip [32]).num, ⟨x.c.pc, x.c.regs, x.c.mem ++ [((x.r.skip [32]).val : Int)], x.c.bufs⟩⟩ else x
def parM (s : By) : Ps := let x := parL (s.length + 1) ⟨⟨s, false⟩, ⟨[], [], [], []⟩⟩; ⟨x.r.must [109, 58], x.c⟩
def parE (s : By) : Ps := memL ((parM s).r.s.length + 1) (parM s)
def parT (s : By) : Option Cf := let x := parE s; if x.r.bad || (!decide (x.r.s = []) || decide (10 < x.c.pc.length)) then none else some x.c
theorem take_drop_of {s g : By} (h : s.take g.length = g) : g ++ s.drop g.length = s := by
 conv => rhs; rw [← List.take_append_drop g.length s, h]
theorem Rd.skip_ok {r : Rd} {g : By} (h : r.is g = true) : g ++ (r.skip g).s = r.s ∧ (r.skip g).bad = r.bad := by
 simp only [Rd.skip, h, if_true, and_true]
 exact take_drop_of (by simpa [Rd.is] using h)
theorem rowT_app (a b : List Int) : rowT (a ++ b) = rowT a ++ rowT b := by
 induction a with
 | nil => rfl
 | cons n a ih => simp [rowT, ih]
theorem entT_app (a b : List En) : entT (a ++ b) = entT a ++ entT b := by
 induction a with
 | nil => rfl
 | cons n a ih => simp [entT, ih]
structure OkP (c : Cf) : Prop where
 r : c.regs.length = c.pc.length
 b : c.bufs.length = c.pc.length
 p : c.pc.all okN = true
 m : c.mem.all okN = true
 rs : c.regs.all (fun r => r.all okN) = true
 bs : c.bufs.all (fun b => b.all entS) = true
theorem Rd.num_of {n : Int} {t : By} (h : okN n = true) (ht : noD t = true) : (Rd.mk (numT n ++ t) false).num = ⟨t, false⟩ ∧ ((Rd.mk (numT n ++ t) false).val : Int) = n := by
 obtain ⟨h1, h2⟩ := okN_nat h
 have e := numL_num h ht
 have hp := decF_pos 5 n.toNat
 have e1 : (Rd.mk (numT n ++ t) false).val = n.toNat := by simp only [Rd.val, e]
 refine ⟨?_, by rw [e1]; omega⟩
 simp only [Rd.num, e1, e, Rd.mk.injEq]
 refine ⟨by simp, ?_⟩
 simp only [Bool.or_eq_false_iff, decide_eq_false_iff_not, Bool.not_eq_false', decide_eq_true_eq, true_and]
 refine ⟨by omega, by unfold numT; omega, ?_⟩
 rw [List.take_append_of_le_length (Nat.le_refl _), List.take_length]; rfl
theorem rightS_ok {c : Cf} (h : rightS c = true) : OkP c ∧ c.pc.length ≤ 10 := by
 simp only [rightS, Bool.and_eq_true, decide_eq_true_eq] at h
 obtain ⟨⟨h1, h2, h3⟩, ⟨h4, h5⟩, h6, h7⟩ := h
 exact ⟨⟨h2, h3, h4, h5, h6, h7⟩, h1⟩
def rnum : By → Nat → Nat × Nat
 | [], n => (n, 0)
 | b :: r, n => if digB b then ((rnum r (min (10 * n + (b.toNat - 48)) 10000)).1, (rnum r (min (10 * n + (b.toNat - 48)) 10000)).2 + 1) else (n, 0)
structure Lo where
 s : By
 regs : List Int
 buf : List En
structure Lp where
 s : By
 c : Cf
def difK {α : Type} [DecidableEq α] (a b : List α) : Nat → Nat
 | 0 => 0
 | k + 1 => if a[k]? = b[k]? then difK a b k else difK a b k + 1
def difN {α : Type} [DecidableEq α] (a b : List α) : Nat := difK a b (max a.length b.length)
def rowD {α : Type} [DecidableEq α] (a b : List (List α)) : Nat → Nat
 | 0 => 0
 | k + 1 => rowD a b k + difN (a.getD k []) (b.getD k [])
def rowN {α : Type} [DecidableEq α] (a b : List (List α)) : Nat := rowD a b (max a.length b.length)
def chgF (a b : Cf) : Nat := difN a.pc b.pc + difN a.mem b.mem + rowN a.regs b.regs + rowN a.bufs b.bufs
section
variable {α : Type} [DecidableEq α]
theorem difK_le (a b : List α) : ∀ k, difK a b k ≤ k
 | 0 => Nat.le_refl _
 | k + 1 => by have := difK_le a b k; unfold difK; split <;> omega
theorem difN_le (a b : List α) : difN a b ≤ max a.length b.length := difK_le a b _
theorem difK_symm (a b : List α) : ∀ k, difK a b k = difK b a k
 | 0 => rfl
 | k + 1 => by
  rw [difK, difK, difK_symm a b k]
  by_cases h : a[k]? = b[k]?
  ·rw [if_pos h, if_pos h.symm]
  ·rw [if_neg h, if_neg fun e => h e.symm]
theorem difN_symm (a b : List α) : difN a b = difN b a := by rw [difN, difN, Nat.max_comm, difK_symm]
theorem difK_zero (a b : List α) : ∀ k, difK a b k = 0 ↔ ∀ i, i < k → a[i]? = b[i]?
 | 0 => by simp [difK]
 | k + 1 => by
  rw [difK]
  split
  ·rename_i h
   rw [difK_zero a b k]
   exact ⟨fun g i hi => (Nat.lt_succ_iff_lt_or_eq.1 hi).elim (g i) fun e => e ▸ h, fun g i hi => g i (by omega)⟩
  ·rename_i h
   exact ⟨fun e => by omega, fun g => absurd (g k (by omega)) h⟩
theorem difN_zero (a b : List α) : difN a b = 0 ↔ a = b := by
 rw [difN, difK_zero]
 constructor
 ·intro h
  refine List.ext_getElem? fun i => ?_
  rcases Nat.lt_or_ge i (max a.length b.length) with hi | hi
  ·exact h i hi
  ·rw [List.getElem?_eq_none (by omega), List.getElem?_eq_none (by omega)]
 ·rintro rfl i _; rfl
theorem difK_more (a b : List α) (h : a.length ≤ b.length) : ∀ m, a.length + m ≤ b.length → difK a b (a.length + m) = difK a b a.length + m
 | 0, _ => rfl
 | m + 1, hm => by
  rw [show a.length + (m + 1) = (a.length + m) + 1 by omega, difK, difK_more a b h m (by omega), if_neg]
  ·omega
  ·rw [List.getElem?_eq_none (by omega), List.getElem?_eq_getElem (by omega)]
   simp
theorem difN_of (a b : List α) (h : a.length ≤ b.length) : difN a b = difK a b a.length + (b.length - a.length) := by
 have := difK_more a b h (b.length - a.length) (by omega)
 rw [difN, Nat.max_eq_right h]
 rw [show a.length + (b.length - a.length) = b.length by omega] at this
 exact this
theorem difN_nil (b : List α) : difN [] b = b.length := by
 rw [difN_of [] b (Nat.zero_le _)]; simp [difK]
theorem rowD_symm (a b : List (List α)) : ∀ k, rowD a b k = rowD b a k
 | 0 => rfl
 | k + 1 => by rw [rowD, rowD, rowD_symm a b k, difN_symm]
theorem rowN_symm (a b : List (List α)) : rowN a b = rowN b a := by rw [rowN, rowN, Nat.max_comm, rowD_symm]
end
end Go.Proofs.YtomcmfbpmkklmaaGreat
