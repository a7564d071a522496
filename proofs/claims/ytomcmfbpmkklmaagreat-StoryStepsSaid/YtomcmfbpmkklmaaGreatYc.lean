/- The plain law of code's value. No condition. -/
import Derived.Test.YtomcmfbpmkklmaaGreatXk
import Derived.Test.YtomcmfbpmkklmaaGreatXg
import Derived.Test.YtomcmfbpmkklmaaGreatK2
namespace Go.Proofs.YtomcmfbpmkklmaaGreat
set_option maxHeartbeats 16000000
set_option linter.unusedSimpArgs false
set_option linter.unusedVariables false
open Go Go.Proofs Go.Vc
def stepV (md : Int) (own : List Int) (all : List (List Int)) (mem : List Int) (s : List Int) (x : Opc) : List Int :=
 if x.1 = 1 then s ++ [x.2.1.tmod md] else if x.1 = 2 then s ++ [own.getD x.2.1.toNat 0] else if x.1 = 3 then s ++ [mem.getD x.2.1.toNat 0] else if x.1 = 4 then s ++ [(all.getD x.2.2.toNat []).getD x.2.1.toNat 0]
 else if x.1 = 5 then s.set (s.length - 1) (tI (s.getD (s.length - 1) 0 == 0)) else (s.set (s.length - 2) (twoF x.1 (s.getD (s.length - 2) 0) (s.getD (s.length - 1) 0) md)).take (s.length - 1)
def runV (md : Int) (own : List Int) (all : List (List Int)) (mem : List Int) (l : List Opc) (s : List Int) : List Int := l.foldl (stepV md own all mem) s
def lensI (all : List (List Int)) : List Int := all.map fun r => (r.length : Int)
def valB (l : List Opc) (md : Int) (own : List Int) (all : List (List Int)) (mem : List Int) : Bool :=
 decide (2 ≤ md) && decide (md ≤ 16) && allB own md && allB mem md && (all.all fun r => allB r md) && codeB l (lensI all) own.length mem.length
def valF (l : List Opc) (md : Int) (own : List Int) (all : List (List Int)) (mem : List Int) : Int := match valB l md own all mem with | true => (runV md own all mem l []).getD 0 0 | false => 0
theorem inB_spec {n m : Int} : inB n m = true ↔ 0 ≤ n ∧ n < m := by simp [inB]
theorem allB_append {s t : List Int} {md : Int} : allB (s ++ t) md = (allB s md && allB t md) := by simp [allB]
theorem allB_get {s : List Int} {md : Int} (h : allB s md = true) {i : Nat} {n : Int} (hn : s[i]? = some n) : 0 ≤ n ∧ n < md := by
 unfold allB at h
 rw [List.all_eq_true] at h
 exact inB_spec.1 (h n (List.mem_of_getElem? hn))
theorem allB_getD {s : List Int} {md : Int} (h : allB s md = true) (hm : 0 < md) (i : Nat) : 0 ≤ s.getD i 0 ∧ s.getD i 0 < md := by
 rw [List.getD_eq_getElem?_getD]
 cases hq : s[i]? with
 | none => exact ⟨Int.le_refl _, hm⟩
 | some n => exact allB_get h hq
theorem allB_take {s : List Int} {md : Int} (h : allB s md = true) (k : Nat) : allB (s.take k) md = true := by
 unfold allB at *
 rw [List.all_eq_true] at *
 exact fun x hx => h x (List.mem_of_mem_take hx)
theorem allB_set {s : List Int} {md : Int} (h : allB s md = true) (k : Nat) {v : Int} (hv : 0 ≤ v ∧ v < md) : allB (s.set k v) md = true := by
 unfold allB at *
 rw [List.all_eq_true] at *
 intro x hx
 rcases List.mem_or_eq_of_mem_set hx with h' | h'
 ·exact h x h'
 ·subst h'; exact inB_spec.2 hv
theorem tI_in (b : Bool) : 0 ≤ tI b ∧ tI b ≤ 1 := by cases b <;> decide
theorem tmod_in {a md : Int} (h0 : 0 ≤ a) (hm : 0 < md) : 0 ≤ a.tmod md ∧ a.tmod md < md := by
 rw [Int.tmod_eq_emod_of_nonneg h0]
 exact ⟨Int.emod_nonneg _ (by omega), Int.emod_lt_of_pos _ hm⟩
theorem twoF_in {op a b md : Int} (hm : 2 ≤ md) (ha : 0 ≤ a ∧ a < md) (hb : 0 ≤ b ∧ b < md) : 0 ≤ twoF op a b md ∧ twoF op a b md < md := by
 have t : ∀ c : Bool, 0 ≤ tI c ∧ tI c < md := fun c => ⟨(tI_in c).1, by have := (tI_in c).2; omega⟩
 unfold twoF
 repeat' split
 all_goals first
  | exact t _
  | exact tmod_in (by omega) (by omega)
  | exact tmod_in (Int.mul_nonneg ha.1 hb.1) (by omega)
theorem lie_leaf {op n : Int} (h : 1 ≤ op ∧ op ≤ 4) : lieStep op n = some (n + 1) := by simp [lieStep, h]
theorem stepV_spec {md : Int} (hm : 2 ≤ md) {own mem s : List Int} {all : List (List Int)} {x : Opc} (ho : okOp (lensI all) own.length mem.length x = true) (hown : allB own md = true) (hmem : allB mem md = true)
  (hall : (all.all fun r => allB r md) = true) (hs : allB s md = true) {n' : Int} (hl : lieStep x.1 s.length = some n') : allB (stepV md own all mem s x) md = true ∧ ((stepV md own all mem s x).length : Int) = n' := by
 have one : ∀ v, 0 ≤ v ∧ v < md → allB (s ++ [v]) md = true := fun v hv => by
  rw [allB_append, hs]
  simp [allB, inB_spec, inB, hv]
 have len1 : ∀ v : Int, ((s ++ [v]).length : Int) = s.length + 1 := fun v => by simp
 unfold stepV
 by_cases h1 : x.1 = 1
 ·rw [if_pos h1]
  rw [lie_leaf (by omega)] at hl; cases hl
  have h0 : 0 ≤ x.2.1 := by
   have : inB x.2.1 10000 = true := by simpa [okOp, h1] using ho
   exact (inB_spec.1 this).1
  exact ⟨one _ (tmod_in h0 (by omega)), len1 _⟩
 rw [if_neg h1]
 by_cases h2 : x.1 = 2
 ·rw [if_pos h2]
  rw [lie_leaf (by omega)] at hl; cases hl
  exact ⟨one _ (allB_getD hown (by omega) _), len1 _⟩
 rw [if_neg h2]
 by_cases h3 : x.1 = 3
 ·rw [if_pos h3]
  rw [lie_leaf (by omega)] at hl; cases hl
  exact ⟨one _ (allB_getD hmem (by omega) _), len1 _⟩
 rw [if_neg h3]
 by_cases h4 : x.1 = 4
 ·rw [if_pos h4]
  rw [lie_leaf (by omega)] at hl; cases hl
  refine ⟨one _ ?_, len1 _⟩
  rw [List.getD_eq_getElem?_getD (l := all)]
  cases hq : all[x.2.2.toNat]? with
  | none => simp; omega
  | some r =>
   rw [List.all_eq_true] at hall
   exact allB_getD (hall r (List.mem_of_getElem? hq)) (by omega) _
 rw [if_neg h4]
 by_cases h5 : x.1 = 5
 ·rw [if_pos h5]
  have : lieStep x.1 s.length = some (s.length : Int) ∨ lieStep x.1 s.length = none := by
   unfold lieStep
   rw [if_neg (by omega)]
   split
   ·exact .inl rfl
   ·rw [if_neg (by omega)]; exact .inr rfl
  rcases this with h | h <;> rw [h] at hl <;> cases hl
  exact ⟨allB_set hs _ ⟨(tI_in _).1, by have := (tI_in (s.getD (s.length - 1) 0 == 0)).2; omega⟩, by simp⟩
 rw [if_neg h5]
 have : (2 ≤ (s.length : Int) ∧ lieStep x.1 s.length = some ((s.length : Int) - 1)) ∨ lieStep x.1 s.length = none := by
  unfold lieStep
  by_cases hq : 1 ≤ x.1 ∧ x.1 ≤ 4
  ·omega
  rw [if_neg hq, if_neg (by omega)]
  split
  ·rename_i h; exact .inl ⟨h.2, rfl⟩
  ·exact .inr rfl
 rcases this with ⟨h2', h⟩ | h <;> rw [h] at hl <;> cases hl
 refine ⟨allB_take (allB_set hs _ (twoF_in hm (allB_getD hs (by omega) _) (allB_getD hs (by omega) _))) _, ?_⟩
 rw [List.length_take, List.length_set]
 omega
structure RunI (md : Int) (own : List Int) (all : List (List Int)) (mem : List Int) (l : List Opc) (k : Nat) (s : List Int) : Prop where
 le : k ≤ l.length
 len : s.length ≤ k
 inm : allB s md = true
 ok : ∃ most, oneL (liesF (l.drop k) s.length most) = true
 run : runV md own all mem (l.drop k) s = runV md own all mem l []
theorem RunI.zero {md : Int} {own mem : List Int} {all : List (List Int)} {l : List Opc} (h : oneL (liesF l 0 0) = true) : RunI md own all mem l 0 [] :=
 ⟨Nat.zero_le _, Nat.le_refl _, rfl, ⟨0, by simpa using h⟩, by simp⟩
theorem RunI.next {md : Int} (hm : 2 ≤ md) {own mem s : List Int} {all : List (List Int)} {l : List Opc} {k : Nat} {x : Opc} (h : RunI md own all mem l k s) (hx : l[k]? = some x) (ho : okOp (lensI all) own.length mem.length x = true) (hown : allB own md = true) (hmem : allB mem md = true)
  (hall : (all.all fun r => allB r md) = true) : (∃ n', lieStep x.1 s.length = some n') ∧ RunI md own all mem l (k + 1) (stepV md own all mem s x) := by
 have hlt := (List.getElem?_eq_some_iff.1 hx).1
 have hdr : l.drop k = x :: l.drop (k + 1) := by rw [List.drop_eq_getElem_cons hlt]; congr 1; exact Option.some.inj ((List.getElem?_eq_getElem hlt).symm.trans hx)
 obtain ⟨most, hok⟩ := h.ok
 rw [hdr, liesF_cons] at hok
 cases hs : lieStep x.1 s.length with
 | none => rw [hs] at hok; cases hok
 | some n' =>
  rw [hs] at hok
  obtain ⟨h1, h2⟩ := stepV_spec hm ho hown hmem hall h.inm hs
  refine ⟨⟨n', rfl⟩, by omega, ?_, h1, ⟨max most n', by rw [h2]; exact hok⟩, ?_⟩
  ·have := h.len
   have hn : n' ≤ s.length + 1 := by
    unfold lieStep at hs
    repeat' split at hs
    all_goals first | (cases hs; omega) | cases hs
   omega
  ·rw [← h.run, hdr]; rfl
theorem RunI.last {md : Int} {own mem s : List Int} {all : List (List Int)} {l : List Opc} {k : Nat} (h : RunI md own all mem l k s) (hk : l.length ≤ k) : s = runV md own all mem l [] ∧ s.length = 1 := by
 have hr := h.run
 obtain ⟨most, hok⟩ := h.ok
 rw [List.drop_eq_nil_of_le hk] at hr hok
 refine ⟨hr, ?_⟩
 have : ((s.length : Int) == 1) = true := hok
 have := eq_of_beq this
 omega
theorem flatI (s : List Int) : (iRs s).flatten = s.map iD := by
 unfold iRs
 induction s with
 | nil => rfl
 | cons n s ih => rw [List.map_cons, List.flatten_cons, ih]; rfl
theorem Fz_ints {g : Option (Nat × Nat)} {e : TypeId} {s : List Int} {H : Heap} (hg : gOk g s.length) (hm : ∀ b cap, g = some (b, cap) → (b, HC.cells e (cap * 1) (s.map iD)) ∈ H) : Fz H (ints s) (.gs g s.length) := by
 cases g with
 | none =>
  have h0 : s = [] := List.eq_nil_of_length_eq_zero hg
  subst h0
  exact fz_nil
 | some p =>
  obtain ⟨b, cap⟩ := p
  refine .inr ⟨rfl, .inr (.inr ⟨b, 0, _, cap, .inl ⟨rfl, rfl⟩, (iRs_len s).symm, _, _, _, hm b cap rfl, ?_⟩)⟩
  rw [List.drop_zero]
  rw [← flatI]
  exact FzR.refl _ _ (iRs_row s)
set_option maxRecDepth 20000
attribute [local irreducible] retQ VCg VCw VCx
abbrev G := Option (Nat × Nat)
theorem shp_app {g : G} {e : TypeId} {esz : Nat} {l : List D} {X H : Heap} : shp g e esz l X ++ H = shp g e esz l (X ++ H) := by cases g <;> rfl
theorem mem_shp {g : G} {e : TypeId} {esz : Nat} {l : List D} {X : Heap} {x : Nat × HC} (h : x ∈ X) : x ∈ shp g e esz l X := by
 cases g with
 | none => exact h
 | some p => exact List.mem_cons_of_mem _ h
theorem mem_shp0 {b cap : Nat} {e : TypeId} {esz : Nat} {l : List D} {X : Heap} : (b, HC.cells e (cap * esz) l) ∈ shp (some (b, cap)) e esz l X := List.mem_cons_self ..
abbrev OR := List (G × List Int)
def rgC (rs : OR) : List D := rs.map fun p => .gs p.1 p.2.length
def rgH : OR → Heap → Heap
 | [], X => X
 | p :: rs, X => shp p.1 3 1 (p.2.map iD) (rgH rs X)
theorem rgC_len (rs : OR) : (rgC rs).length = rs.length := List.length_map ..
theorem rgH_app : ∀ (rs : OR) (X H : Heap), rgH rs X ++ H = rgH rs (X ++ H)
 | [], X, H => rfl
 | p :: rs, X, H => by rw [rgH, rgH, shp_app, rgH_app rs]
theorem rgH_snoc : ∀ (rs : OR) (p : G × List Int) (X : Heap), rgH (rs ++ [p]) X = rgH rs (shp p.1 3 1 (p.2.map iD) X)
 | [], p, X => rfl
 | q :: rs, p, X => by rw [List.cons_append, rgH, rgH, rgH_snoc rs]
theorem shp_rgH (g : G) (e : TypeId) (esz : Nat) (l : List D) : ∀ (rs : OR) (X : Heap), (shp g e esz l (rgH rs X)).Perm (rgH rs (shp g e esz l X))
 | [], X => List.Perm.refl _
 | p :: rs, X => (shp_shp _ _ _ _ _ _ _ _ _).trans (shp_perm _ _ _ _ (shp_rgH g e esz l rs X))
noncomputable def cnt (a : Nat × HC) (H : Heap) : Nat := @List.count _ (@instBEqOfDecidableEq _ (fun _ _ => Classical.propDecidable _)) a H
theorem perm_of {H H' : Heap} (h : ∀ a, cnt a H = cnt a H') : H.Perm H' := by
 letI : DecidableEq (Nat × HC) := fun _ _ => Classical.propDecidable _
 exact List.perm_iff_count.2 h
noncomputable def cnS (g : G) (e : TypeId) (esz : Nat) (l : List D) (a : Nat × HC) : Nat := cnt a (shp g e esz l [])
noncomputable def cn1 (x a : Nat × HC) : Nat := cnt a [x]
noncomputable def cnR (rs : OR) (a : Nat × HC) : Nat := cnt a (rgH rs [])
theorem cnt_app (a : Nat × HC) (X Y : Heap) : cnt a (X ++ Y) = cnt a X + cnt a Y := by
 unfold cnt
 letI : DecidableEq (Nat × HC) := fun _ _ => Classical.propDecidable _
 exact List.count_append
theorem cnt_nil (a : Nat × HC) : cnt a [] = 0 := rfl
theorem cnt_cons (a x : Nat × HC) (X : Heap) : cnt a (x :: X) = cn1 x a + cnt a X := cnt_app a [x] X
theorem cnt_shp (a : Nat × HC) (g : G) (e : TypeId) (esz : Nat) (l : List D) (X : Heap) : cnt a (shp g e esz l X) = cnS g e esz l a + cnt a X := by
 have : shp g e esz l X = shp g e esz l [] ++ X := by rw [shp_app]; rfl
 rw [this, cnt_app]; rfl
theorem cnt_rgH (a : Nat × HC) (rs : OR) (X : Heap) : cnt a (rgH rs X) = cnR rs a + cnt a X := by
 have : rgH rs X = rgH rs [] ++ X := by rw [rgH_app]; rfl
 rw [this, cnt_app]; rfl
theorem VCo.weak {P : Program} {n : Nat} {ops : Array Oper} {l : List Oper} {s s' : St} {Q : Exit → St → Prop} (h : Weak s s') (hv : VCo P n ops l s' Q) : VCo P n ops l s Q := fun x a w hn hs => hv x a w hn (h x a w hs)
theorem ownI_x (l : List Int) (hl : l.length ≤ 1000000) : Fun Tryz.prog 112 [ints l] [] false (fun d H' => ∃ g : G, gOk g l.length ∧ d = .gs g l.length ∧ H' = shp g 3 1 (l.map iD) []) :=
 (ownI_ok l hl).mono fun d H' ⟨g, h1, h2, h3⟩ => ⟨g, h2, h1, by rw [h3, flatI]⟩
theorem ownsI_ok (ls : List (List Int)) (hls : ls.length ≤ 1000000) (hr : ∀ r, r ∈ ls → r.length ≤ 1000000) : Fun Tryz.prog 152 [.sl false 1 (rowsI ls)] [] false
  (fun d H' => ∃ q : G × OR, (gOk q.1 ls.length ∧ q.2.map (·.2) = ls ∧ ∀ p, p ∈ q.2 → gOk p.1 p.2.length) ∧ d = .gs q.1 ls.length ∧ H' = shp q.1 22 1 (rgC q.2) (rgH q.2 [])) := by
 refine Fun.of T [.tmp 2] Tryz.func152 rfl Tryz.ntmps152 Tryz.results152 rfl (by kernel_rfl) ?_
 repeat' first | refine vs T rfl fun K hK => ?_; (try simp (disch := omega) only [go_sem, Nat.reduceBEq, rowsI_len]); (refine hK _ _ ?_; clear hK K) | refine st rfl ?_ | refine nl ?_
 refine VC.loop {q : Nat × G × OR // q.1 ≤ ls.length ∧ q.2.2.map (·.2) = ls.take q.1 ∧ ∀ p, p ∈ q.2.2 → gOk p.1 p.2.length} (fun q => ⟨lookD [(3, .gs q.1.2.1 q.1.1), (6, .sl false 1 (rowsI ls)), (7, iD (ls.length : Nat)), (8, iD (q.1.1 : Nat))], shp q.1.2.1 22 1 (rgC q.1.2.2) (rgH q.1.2.2 [])⟩) (fun q => ls.length - q.1.1) ⟨(0, none, []), by simp⟩ ?_ ?_
 ·refine Weak.sub ?_
  simp [sub, upd]
 ·rintro ⟨⟨k, g, rs⟩, hk, hrs, hg⟩
  dsimp only at hk hrs hg ⊢
  have hrl : rs.length = k := by
   have := congrArg List.length hrs
   rw [List.length_map, List.length_take] at this
   omega
  have hfl : (rgC rs).length = k * 1 := by rw [rgC_len]; omega
  rcases Nat.lt_or_ge k ls.length with hlt | hge
  ·have hd : decide ((k : Int) < (ls.length : Int)) = true := by simp; omega
   have hw : IntKind.i64.wrap ((k : Int) + 1) = ((k + 1 : Nat) : Int) := by rw [w64 (by omega)]; omega
   obtain ⟨r, hx⟩ : ∃ r, ls[k]? = some r := ⟨_, List.getElem?_eq_getElem hlt⟩
   have hrow : (rowsI ls)[k]? = some [ints r] := by rw [rowsI_at, hx]; rfl
   have hrr := hr r (List.mem_of_getElem? hx)
   repeat' first | refine vs T rfl fun K hK => ?_; (try simp (disch := omega) only [go_sem, Nat.reduceBEq, Nat.reduceMul, Nat.reduceLeDiff, hd, hw, hrow, rowsI_len, shp_app, List.nil_append]); (first | refine hK _ _ ?_; clear hK K | refine ⟨_, _, _, _, (by repeat (first | exact Sp.here | apply Sp.over)), ?_, (by exact ⟨rfl, rfl⟩), ⟨by decide, ?_⟩, fun g' hg' => hK _ _ ?_⟩ <;> clear hK K | refine ⟨?_, hK _ _ ?_⟩ <;> clear hK K; focus (try omega) | refine Op1.callx rfl rfl (ownI_x r hrr) rfl (fun q hq => ?_); refine hK _ _ ?_; clear hK K) | refine st rfl ?_ | refine sc rfl ?_ | refine nl ?_
   ·exact hfl
   ·omega
   ·refine ⟨⟨(k + 1, g', rs ++ [(q, r)]), by simp only []; omega, ?_, ?_⟩, ?_, by simp only []; omega⟩
    ·simp only []
     rw [List.map_append, hrs, List.take_add_one, hx]; rfl
    ·intro p hp
     rcases List.mem_append.1 hp with hp | hp
     ·exact hg p hp
     ·rw [List.mem_singleton] at hp; subst hp; exact hq
    ·refine Weak.trans (Weak.perm ((shp_shp _ _ _ _ _ _ _ _ _).trans (shp_perm _ _ _ _ (shp_rgH _ _ _ _ rs [])))) ?_
     refine Weak_subEq ?_ ?_
     ·simp only []
      rw [rgH_snoc]
      simp [rgC]
     ·simp [sub, upd]
  ·have hd : decide ((k : Int) < (ls.length : Int)) = false := by simp; omega
   obtain rfl : k = ls.length := by omega
   rw [List.take_length] at hrs
   refine VC_gok (t := 3) (g := g) rfl fun hgk => ?_
   repeat' first | refine vs T rfl fun K hK => ?_; (try simp (disch := omega) only [go_sem, Nat.reduceBEq, hd]); (refine hK _ _ ?_; clear hK K) | refine st rfl ?_ | refine sc rfl ?_ | refine nl ?_
   exact ret1 T (List.Sublist.refl _) ⟨(g, rs), ⟨hgk, hrs, hg⟩, rfl, rfl⟩
theorem ownsE_ok (ls : List (List En)) (hls : ls.length ≤ 1000000) (hr : ∀ r, r ∈ ls → r.length ≤ 1000000) : Fun Tryz.prog 153 [.sl false 1 (bufsR ls)] [] false
  (fun d H' => ∃ g : G, gOk g ls.length ∧ d = .gs g ls.length ∧ H' = shp g 98 1 (ls.map buf) []) := by
 refine Fun.of T [.tmp 2] Tryz.func153 rfl Tryz.ntmps153 Tryz.results153 rfl (by kernel_rfl) ?_
 repeat' first | refine vs T rfl fun K hK => ?_; (try simp (disch := omega) only [go_sem, Nat.reduceBEq, bufsR_len]); (refine hK _ _ ?_; clear hK K) | refine st rfl ?_ | refine nl ?_
 refine VC.loop {q : Nat × G // q.1 ≤ ls.length} (fun q => ⟨lookD [(3, .gs q.1.2 q.1.1), (6, .sl false 1 (bufsR ls)), (7, iD (ls.length : Nat)), (8, iD (q.1.1 : Nat))], shp q.1.2 98 1 ((ls.take q.1.1).map buf) []⟩) (fun q => ls.length - q.1.1) ⟨(0, none), by simp⟩ ?_ ?_
 ·refine Weak.sub ?_
  simp [sub, upd]
 ·rintro ⟨⟨k, g⟩, hk⟩
  dsimp only at hk ⊢
  have hfl : ((ls.take k).map buf).length = k * 1 := by rw [List.length_map, List.length_take]; omega
  rcases Nat.lt_or_ge k ls.length with hlt | hge
  ·have hd : decide ((k : Int) < (ls.length : Int)) = true := by simp; omega
   have hw : IntKind.i64.wrap ((k : Int) + 1) = ((k + 1 : Nat) : Int) := by rw [w64 (by omega)]; omega
   obtain ⟨r, hx⟩ : ∃ r, ls[k]? = some r := ⟨_, List.getElem?_eq_getElem hlt⟩
   have hrow : (bufsR ls)[k]? = some [buf r] := by rw [bufsR_at, hx]; rfl
   have hrr := hr r (List.mem_of_getElem? hx)
   repeat' first | refine vs T rfl fun K hK => ?_; (try simp (disch := omega) only [go_sem, Nat.reduceBEq, Nat.reduceMul, Nat.reduceLeDiff, hd, hw, hrow, bufsR_len]); (first | refine hK _ _ ?_; clear hK K | refine ⟨_, _, _, _, (by repeat (exact Sp.here)), ?_, (by exact ⟨rfl, rfl⟩), ⟨by decide, ?_⟩, fun g' hg' => hK _ _ ?_⟩ <;> clear hK K | refine ⟨?_, hK _ _ ?_⟩ <;> clear hK K; focus (try omega) | refine Op1.callp rfl rfl (ownEf_ok r hrr) rfl ?_; refine hK _ _ ?_; clear hK K) | refine st rfl ?_ | refine sc rfl ?_ | refine nl ?_
   ·exact hfl
   ·omega
   ·refine ⟨⟨(k + 1, g'), by simp only []; omega⟩, Weak_subEq ?_ ?_, by simp only []; omega⟩
    ·simp only []
     rw [List.take_add_one, hx]
     simp
    ·simp [sub, upd]
  ·have hd : decide ((k : Int) < (ls.length : Int)) = false := by simp; omega
   obtain rfl : k = ls.length := by omega
   refine VC_gok (t := 3) (g := g) rfl fun hgk => ?_
   repeat' first | refine vs T rfl fun K hK => ?_; (try simp (disch := omega) only [go_sem, Nat.reduceBEq, hd]); (refine hK _ _ ?_; clear hK K) | refine st rfl ?_ | refine sc rfl ?_ | refine nl ?_
   refine ret1 T (List.Sublist.refl _) ⟨g, hgk, rfl, ?_⟩
   rw [List.take_length]
structure OC where
 gp : G
 gr : G
 gm : G
 gb : G
 rs : OR
structure OC.ok (q : OC) (c : Cf) : Prop where
 pc : gOk q.gp c.pc.length
 gr : gOk q.gr c.regs.length
 mem : gOk q.gm c.mem.length
 bufs : gOk q.gb c.bufs.length
 rows : q.rs.map (·.2) = c.regs
 row : ∀ p, p ∈ q.rs → gOk p.1 p.2.length
def OC.cs (q : OC) (c : Cf) : List D := [.gs q.gp c.pc.length, .gs q.gr c.regs.length, .gs q.gm c.mem.length, .gs q.gb c.bufs.length]
def OC.h (q : OC) (c : Cf) (X : Heap) : Heap := shp q.gp 3 1 (c.pc.map iD) (shp q.gr 22 1 (rgC q.rs) (shp q.gm 3 1 (c.mem.map iD) (shp q.gb 98 1 (c.bufs.map buf) (rgH q.rs X))))
theorem FzR_rows {H : Heap} : ∀ (rs : OR), (∀ p, p ∈ rs → gOk p.1 p.2.length) → (∀ x, x ∈ rgH rs [] → x ∈ H) → FzR H 1 (rowsI (rs.map (·.2))) (rgC rs)
 | [], _, _ => trivial
 | p :: rs, hg, hm => by
  refine ⟨rfl, ⟨_, _, rfl, Fz_ints (e := 3) (hg p (List.mem_cons_self ..)) (fun b cap hb => hm _ ?_), trivial⟩, ?_⟩
  ·rw [rgH, hb]; exact mem_shp0
  ·exact FzR_rows rs (fun p hp => hg p (List.mem_cons_of_mem _ hp)) (fun x hx => hm x (mem_shp hx))
theorem FzR_bufs {H : Heap} : ∀ (l : List (List En)), FzR H 1 (bufsR l) (l.map buf)
 | [] => trivial
 | b :: l => ⟨rfl, ⟨_, _, rfl, Fz.refl _ _, trivial⟩, FzR_bufs l⟩
theorem Fz_gs {H : Heap} {g : G} {e : TypeId} {esz : Nat} {l : List D} {rows : List (List D)} {n : Nat} (hn : n = rows.length) (hg : gOk g n) (hm : ∀ b cap, g = some (b, cap) → (b, HC.cells e (cap * esz) l) ∈ H) (hr : FzR H esz rows l) :
  Fz H (.sl false esz rows) (.gs g n) := by
 cases g with
 | none =>
  have h0 : n = 0 := hg
  subst h0
  have : rows = [] := List.eq_nil_of_length_eq_zero hn.symm
  subst this
  exact fz_nil
 | some p =>
  obtain ⟨b, cap⟩ := p
  exact .inr ⟨rfl, .inr (.inr ⟨b, 0, _, cap, .inl ⟨rfl, rfl⟩, hn, _, _, _, hm b cap rfl, by rw [List.drop_zero]; exact hr⟩)⟩
theorem OC.fzL {q : OC} {c : Cf} (h : q.ok c) {H : Heap} {X : Heap} (hm : ∀ x, x ∈ q.h c [] → x ∈ H) : FzL H (cfC c) (q.cs c) := by
 have m1 : ∀ x, x ∈ shp q.gr 22 1 (rgC q.rs) (shp q.gm 3 1 (c.mem.map iD) (shp q.gb 98 1 (c.bufs.map buf) (rgH q.rs []))) → x ∈ H := fun x hx => hm x (mem_shp hx)
 have m2 : ∀ x, x ∈ shp q.gm 3 1 (c.mem.map iD) (shp q.gb 98 1 (c.bufs.map buf) (rgH q.rs [])) → x ∈ H := fun x hx => m1 x (mem_shp hx)
 have m3 : ∀ x, x ∈ shp q.gb 98 1 (c.bufs.map buf) (rgH q.rs []) → x ∈ H := fun x hx => m2 x (mem_shp hx)
 have m4 : ∀ x, x ∈ rgH q.rs [] → x ∈ H := fun x hx => m3 x (mem_shp hx)
 refine fz_cons (Fz_ints (e := 3) h.pc fun b cap hb => hm _ (by rw [OC.h, hb]; exact mem_shp0)) (fz_cons ?_ (fz_cons (Fz_ints (e := 3) h.mem fun b cap hb => m2 _ (by rw [hb]; exact mem_shp0)) (fz_cons ?_ fz_end)))
 ·refine Fz_gs (e := 22) (l := rgC q.rs) (rowsI_len _).symm h.gr (fun b cap hb => m1 _ (by rw [hb]; exact mem_shp0)) ?_
  rw [← h.rows]
  exact FzR_rows q.rs h.row m4
 ·exact Fz_gs (e := 98) (l := c.bufs.map buf) (bufsR_len _).symm h.bufs (fun b cap hb => m3 _ (by rw [hb]; exact mem_shp0)) (FzR_bufs c.bufs)
theorem Fun.perm {P : Program} {f : FuncId} {args : List D} {H : Heap} {fr : Bool} {Φ Ψ : D → Heap → Prop} (h : Fun P f args H fr Φ) (hk : ∀ d H', Φ d H' → ∃ H'', H'.Perm H'' ∧ Ψ d H'') : Fun P f args H fr Ψ :=
 ⟨h.1, fun w L0 vs hi hr => (h.2 w L0 vs hi hr).mono fun e w' ⟨v, he, d, H', h1, h2, h3, h4⟩ => by
  obtain ⟨H'', hp, hψ⟩ := hk d H' h1
  exact ⟨v, he, d, H'', hψ, by rw [live_perm hp]; exact h2, h3.perm hp, h4.perm (.refl _) hp⟩⟩
theorem copy_ok (c : Cf) (hc : OkC c) : Fun Tryz.prog 114 [.agg (cfC c)] [] false (fun d H' => ∃ q : OC, q.ok c ∧ d = .agg (q.cs c) ∧ H' = q.h c []) := by
 have c1 := ownI_x c.pc (by have := hc.pc; omega)
 have c2 := ownsI_ok c.regs (by have := hc.regs; omega) (fun r hr => by have := hc.row r hr; omega)
 have c3 := ownI_x c.mem (by have := hc.mem; omega)
 have c4 := ownsE_ok c.bufs (by have := hc.bufs; omega) (fun r hr => by have := hc.buf r hr; omega)
 refine Fun.of T [.cell 2 43] Tryz.func114 rfl Tryz.ntmps114 Tryz.results114 rfl (by kernel_rfl) ?_
 repeat' first | refine vb rfl rfl rfl rfl ?_ | refine dr (id := 1) T 11 (by kernel_rfl) ?_ | refine VCg.nil T ?_; simp only [allK, WB] | apply VCg.step T rfl rfl; focus ((try simp (disch := omega) only [go_sem, Nat.reduceBEq]); (exact rfl)) | refine VCg.ownx T rfl rfl rfl rfl (c1) rfl ?_ | refine VCg.ownx T rfl rfl rfl rfl (c2) rfl ?_ | refine VCg.ownx T rfl rfl rfl rfl (c3) rfl ?_ | refine vs T rfl fun K hK => ?_; (try simp (disch := omega) only [go_sem, Nat.reduceAdd]); (intro bq hbq; (try simp only [HB] at hbq); refine hK _ _ ?_; clear hK K) | refine st rfl ?_ | refine nl ?_
 rintro _ _ ⟨gp, hgp, rfl, rfl⟩ hap1 _ _ ⟨⟨gr, rs⟩, ⟨hgr, hrs, hrow⟩, rfl, rfl⟩ hap2 _ _ ⟨gm, hgm, rfl, rfl⟩ hap3
 refine vt rfl fun K hK => ?_
 refine Op1.callx rfl rfl c4 rfl (fun gb hgb => ?_)
 refine hK _ _ ?_
 clear hK K
 simp only [updO]
 refine vo ?_
 refine VCo.weak (Weak.perm (H' := (bq, .cells 43 4 [.gs none 0, .gs none 0, .gs none 0, .gs none 0]) :: (OC.mk gp gr gm gb rs).h c []) (perm_of fun a => by simp only [OC.h, cnt_shp, cnt_rgH, cnt_cons, cnt_app, cnt_nil]; omega)) ?_
 repeat' first | refine vs T rfl fun K hK => ?_; (try simp (disch := omega) only [go_sem, Nat.reduceBEq, Nat.reduceAdd, Nat.reduceLeDiff]); (refine hK _ _ ?_; clear hK K) | refine st rfl ?_ | refine nl ?_ | refine ov ?_
 refine retc T rfl hget_eq rfl rfl rfl (List.sublist_cons_self _ _) ⟨⟨gp, gr, gm, gb, rs⟩, ⟨hgp, hgr, hgm, hgb, hrs, hrow⟩, rfl, rfl⟩
theorem nodup_app {H X : Heap} (h : (H ++ X).blocks.Nodup) : ∀ b, b ∈ H.blocks → b ∉ X.blocks := by
 simp only [Heap.blocks, List.map_append] at h
 obtain ⟨_, _, h3⟩ := List.nodup_append.1 h
 exact fun b hp hr => h3 b hp b hr rfl
theorem FzL.length {H : Heap} : ∀ {l' l : List D}, FzL H l' l → l'.length = l.length
 | [], _, h => by cases h; rfl
 | _ :: _, _, h => by
  obtain ⟨d, ds, rfl, _, h2⟩ := h
  rw [List.length_cons, List.length_cons, FzL.length h2]
theorem Weak.fzc {env : Nat → D} {b n : Nat} {e : TypeId} {l l' : List D} {X H1 : Heap} (h : FzL H1 l' l) : Weak ⟨env, (b, .cells e n l) :: (X ++ H1)⟩ ⟨env, (b, .cells e n l') :: X⟩ := fun x a w hs => by
 have hsub : ((b, HC.cells e n l) :: X).Sublist ((b, HC.cells e n l) :: (X ++ H1)) := (List.sublist_append_left _ _).cons_cons _
 have h1 := Weak.heap hsub x a w hs
 have hnd := hs.inv.nodup
 have hnot : ∀ k, k ∈ H1.blocks → k ∉ Heap.blocks ((b, HC.cells e n l) :: X) := fun k hk hm => by
  simp only at hnd
  have : ((b, HC.cells e n l) :: (X ++ H1)) = ((b, HC.cells e n l) :: X) ++ H1 := rfl
  rw [this] at hnd
  exact nodup_app hnd k hm hk
 have hlv : live ((b, HC.cells e n l') :: X) x.L0 = live ((b, HC.cells e n l) :: X) x.L0 := rfl
 refine { env := fun t => by rw [hlv]; exact h1.env t, inv := ?_, evo := ?_, defers := h1.defers, size := h1.size }
 ·refine { rel := fun k c hm => ?_, nodup := h1.inv.nodup, apart := h1.inv.apart, old := h1.inv.old }
  rw [hlv]
  rcases List.mem_cons.1 hm with hm | hm
  ·cases hm
   obtain ⟨q1, arr, q2, q3, q4⟩ := hs.inv.rel b _ (List.mem_cons_self ..)
   refine ⟨FzL.one h q1, arr, q2, q3, ?_⟩
   rw [FzL.length h]
   refine RelL.fz (H1 := H1) ⟨hs.inv, fun k c hk => ⟨List.mem_cons_of_mem _ (List.mem_append_right _ hk), fun hl => ?_⟩, fun k _ hl => hl.imp id (SubH.blocks hsub k)⟩ _ _ _ h q4
   rcases hl with hl | hl
   ·exact hs.inv.apart k (List.mem_map.2 ⟨(k, c), List.mem_cons_of_mem _ (List.mem_append_right _ hk), rfl⟩) hl
   ·exact hnot k (List.mem_map.2 ⟨(k, c), hk, rfl⟩) hl
  ·exact h1.inv.rel k c (List.mem_cons_of_mem _ hm)
 ·exact ⟨h1.evo.os, h1.evo.tape, h1.evo.output, h1.evo.size, h1.evo.block, h1.evo.fresh⟩
theorem FzL.append {H : Heap} : ∀ {l' l m' m : List D}, FzL H l' l → FzL H m' m → FzL H (l' ++ m') (l ++ m)
 | [], _, _, _, h, h2 => by cases h; exact h2
 | _ :: _, _, _, _, h, h2 => by
  obtain ⟨d, ds, rfl, q1, q2⟩ := h
  exact ⟨d, ds ++ _, rfl, q1, FzL.append q2 h2⟩
theorem shp_some {b cap : Nat} {e : TypeId} {esz : Nat} {l : List D} {X : Heap} : shp (some (b, cap)) e esz l X = (b, .cells e (cap * esz) l) :: X := rfl
theorem rcopy_ok (c : Cf) (hc : OkC c) : Fun Tryz.prog 101 [.agg (cfC c)] [] false (fun d H' => ∃ q : OC, q.ok c ∧ d = .agg (q.cs c) ∧ H' = q.h c []) := by
 have kp := hc.pc
 have kr := hc.regs
 have km := hc.mem
 have kb := hc.bufs
 refine Fun.of T [.cell 2 43] Tryz.func101 rfl Tryz.ntmps101 Tryz.results101 rfl (by kernel_rfl) ?_
 repeat' first | refine vb rfl rfl rfl rfl ?_ | refine vs T rfl fun K hK => ?_; (try simp (disch := omega) only [go_sem, Nat.reduceBEq, Nat.reduceAdd, Nat.reduceLeDiff, flatI, iRs_len, List.nil_append]); (first | refine hK _ _ ?_; clear hK K | refine ⟨_, _, _, _, (by repeat (first | apply Sp.cons | exact Sp.nil)), ?_, (by exact ⟨rfl, rfl⟩), ⟨by decide, ?_⟩, fun g' hg' => hK _ _ ?_⟩ <;> clear hK K | intro bq hbq; (try simp only [HB] at hbq); refine hK _ _ ?_; clear hK K) | refine st rfl ?_ | refine nl ?_
 ·rfl
 ·omega
 ·rfl
 ·omega
 rename_i b2 hb2 gp hgp
 revert g'
 intro gm hgm
 refine VC.loop {p : Nat × G × OR // (p.1 ≤ c.regs.length ∧ gOk p.2.1 p.1) ∧ p.2.2.map (·.2) = c.regs.take p.1 ∧ ∀ x, x ∈ p.2.2 → gOk x.1 x.2.length} (fun p => ⟨lookD [(1, .pt (cfC c)), (2, .is (.pointer (some ⟨b2, 0, none⟩))), (3, .is (.pointer (some ⟨bq, 0, none⟩))), (4, iD (p.1.1 : Nat))], (bq, .cells 43 4 [.gs gp c.pc.length, .gs p.1.2.1 p.1.1, .gs gm c.mem.length, .gs none 0]) :: (b2, .cells 43 4 [.gs none 0, .gs none 0, .gs none 0, .gs none 0]) :: shp p.1.2.1 22 1 (rgC p.1.2.2) (rgH p.1.2.2 (shp gm 3 1 (c.mem.map iD) (shp gp 3 1 (c.pc.map iD) [])))⟩) (fun p => c.regs.length - p.1.1) ⟨(0, none, []), by simp [gOk]⟩ ?_ ?_
 ·refine Weak.sub ?_
  simp [sub, upd]
 rintro ⟨⟨k, gr, rs⟩, ⟨hk, hgr⟩, hrs, hg⟩
 dsimp only at hk hgr hrs hg ⊢
 have hrl : rs.length = k := by
  have := congrArg List.length hrs
  rw [List.length_map, List.length_take] at this
  omega
 have hfl : (rgC rs).length = k * 1 := by rw [rgC_len]; omega
 rcases Nat.lt_or_ge k c.regs.length with hlt | hge
 ·have hd : decide ((k : Int) < (c.regs.length : Int)) = true := by simp; omega
  have hw : IntKind.i64.wrap ((k : Int) + 1) = ((k + 1 : Nat) : Int) := by rw [w64 (by omega)]; omega
  obtain ⟨r, hx⟩ : ∃ r, c.regs[k]? = some r := ⟨_, List.getElem?_eq_getElem hlt⟩
  have hrow : (rowsI c.regs)[k]? = some [ints r] := by rw [rowsI_at, hx]; rfl
  have hrr := hc.row r (List.mem_of_getElem? hx)
  repeat' first | refine vs T rfl fun K hK => ?_; (try simp (disch := omega) only [go_sem, Nat.reduceBEq, Nat.reduceAdd, Nat.reduceMul, Nat.reduceLeDiff, hd, hw, hrow, rowsI_len, flatI, iRs_len, List.nil_append]); (first | refine hK _ _ ?_; clear hK K | refine ⟨_, _, _, _, (by repeat (first | exact Sp.here | apply Sp.cons | exact Sp.nil | apply Sp.over)), ?_, (by exact ⟨rfl, rfl⟩), ⟨by decide, ?_⟩, fun g' hg' => hK _ _ ?_⟩ <;> clear hK K | refine ⟨?_, hK _ _ ?_⟩ <;> clear hK K; focus (try omega)) | refine st rfl ?_ | refine sc rfl ?_ | refine nl ?_
  ·rfl
  ·omega
  ·exact hfl
  ·omega
  rename_i q hq
  refine ⟨⟨(k + 1, g', rs ++ [(q, r)]), ⟨by simp only []; omega, hg'⟩, ?_, ?_⟩, ?_, by simp only []; omega⟩
  ·simp only []
   rw [List.map_append, hrs, List.take_add_one, hx]; rfl
  ·intro p hp
   rcases List.mem_append.1 hp with hp | hp
   ·exact hg p hp
   ·rw [List.mem_singleton] at hp; subst hp; exact hq
  ·have hrc : rgC (rs ++ [(q, r)]) = rgC rs ++ [.gs q r.length] := by simp [rgC]
   refine Weak.trans (Weak.perm (H' := (bq, .cells 43 4 [.gs gp c.pc.length, .gs g' (k + 1), .gs gm c.mem.length, .gs none 0]) :: (b2, .cells 43 4 [.gs none 0, .gs none 0, .gs none 0, .gs none 0]) :: shp g' 22 1 (rgC (rs ++ [(q, r)])) (rgH (rs ++ [(q, r)]) (shp gm 3 1 (c.mem.map iD) (shp gp 3 1 (c.pc.map iD) [])))) (perm_of fun a => by rw [hrc]; simp only [rgH_snoc, cnt_shp, cnt_rgH, cnt_cons, cnt_app, cnt_nil]; omega)) (Weak.sub ?_)
   simp [sub, upd]
 have hd : decide ((k : Int) < (c.regs.length : Int)) = false := by simp; omega
 obtain rfl : k = c.regs.length := by omega
 rw [List.take_length] at hrs
 repeat' first | refine vs T rfl fun K hK => ?_; (try simp (disch := omega) only [go_sem, Nat.reduceBEq, hd, rowsI_len]); (refine hK _ _ ?_; clear hK K) | refine st rfl ?_ | refine sc rfl ?_ | refine nl ?_
 refine VC.loop {p : Nat × G // p.1 ≤ c.bufs.length ∧ gOk p.2 p.1} (fun p => ⟨lookD [(1, .pt (cfC c)), (2, .is (.pointer (some ⟨b2, 0, none⟩))), (3, .is (.pointer (some ⟨bq, 0, none⟩))), (6, iD (p.1.1 : Nat))], (bq, .cells 43 4 [.gs gp c.pc.length, .gs gr c.regs.length, .gs gm c.mem.length, .gs p.1.2 p.1.1]) :: (b2, .cells 43 4 [.gs none 0, .gs none 0, .gs none 0, .gs none 0]) :: shp p.1.2 98 1 ((c.bufs.take p.1.1).map buf) (shp gr 22 1 (rgC rs) (rgH rs (shp gm 3 1 (c.mem.map iD) (shp gp 3 1 (c.pc.map iD) []))))⟩) (fun p => c.bufs.length - p.1.1) ⟨(0, none), by simp [gOk]⟩ ?_ ?_
 ·refine Weak.sub ?_
  simp [sub, upd]
 rintro ⟨⟨j, gb⟩, hj, hgb⟩
 dsimp only at hj hgb ⊢
 have hfl2 : ((c.bufs.take j).map buf).length = j * 1 := by rw [List.length_map, List.length_take]; omega
 rcases Nat.lt_or_ge j c.bufs.length with hlt | hge
 ·have hd : decide ((j : Int) < (c.bufs.length : Int)) = true := by simp; omega
  have hw : IntKind.i64.wrap ((j : Int) + 1) = ((j + 1 : Nat) : Int) := by rw [w64 (by omega)]; omega
  obtain ⟨r, hx⟩ : ∃ r, c.bufs[j]? = some r := ⟨_, List.getElem?_eq_getElem hlt⟩
  have hrow : (bufsR c.bufs)[j]? = some [buf r] := by rw [bufsR_at, hx]; rfl
  have hrr := hc.buf r (List.mem_of_getElem? hx)
  repeat' first | refine vs T rfl fun K hK => ?_; (try simp (disch := omega) only [go_sem, Nat.reduceBEq, Nat.reduceAdd, Nat.reduceMul, Nat.reduceLeDiff, hd, hw, hrow, bufsR_len, eRs_len, List.nil_append]); (first | refine hK _ _ ?_; clear hK K | refine ⟨_, _, _, _, (by repeat (first | exact Sp.here | apply Sp.cons | apply Sp.over)), ?_, (by exact ⟨rfl, rfl⟩), ⟨by decide, ?_⟩, fun g' hg' => hK _ _ ?_⟩ <;> clear hK K | refine ⟨_, _, _, _, (by repeat (first | apply Sp.cons | exact Sp.nil)), ?_, (by exact ⟨rfl, rfl⟩), ?_, fun g' hg' => hK _ _ ?_⟩ <;> clear hK K | refine ⟨?_, hK _ _ ?_⟩ <;> clear hK K; focus (try omega)) | refine st rfl ?_ | refine sc rfl ?_ | refine nl ?_
  ·rfl
  ·omega
  ·exact hfl2
  ·omega
  rename_i q hq
  rcases g' with _ | ⟨bb, cap⟩
  ·have : j + 1 = 0 := hg'
   omega
  have htk : (c.bufs.take (j + 1)).map buf = (c.bufs.take j).map buf ++ [buf r] := by
   rw [List.take_add_one, hx]
   simp
  refine ⟨⟨(j + 1, some (bb, cap)), by simp only []; omega, hg'⟩, ?_, by simp only []; omega⟩
  refine Weak.trans (Weak.perm (H' := (bb, .cells 98 (cap * 1) ((c.bufs.take j).map buf ++ [.gs q r.length])) :: (((bq, .cells 43 4 [.gs gp c.pc.length, .gs gr c.regs.length, .gs gm c.mem.length, .gs (some (bb, cap)) (j + 1)]) :: (b2, .cells 43 4 [.gs none 0, .gs none 0, .gs none 0, .gs none 0]) :: (shp gr 22 1 (rgC rs) (rgH rs (shp gm 3 1 (c.mem.map iD) (shp gp 3 1 (c.pc.map iD) []))))) ++ shp q 127 2 (eRs r).flatten []))
   (perm_of fun a => by simp only [shp_some, cnt_shp, cnt_rgH, cnt_cons, cnt_app, cnt_nil]; omega)) ?_
  refine Weak.trans (Weak.fzc (l' := (c.bufs.take j).map buf ++ [buf r]) (FzL.append (FzL.refl _ _) (fz_cons (Fz_shp hq (eRs_len r) (eRs_row r)) fz_end))) ?_
  refine Weak.trans (Weak.perm (H' := (bq, .cells 43 4 [.gs gp c.pc.length, .gs gr c.regs.length, .gs gm c.mem.length, .gs (some (bb, cap)) (j + 1)]) :: (b2, .cells 43 4 [.gs none 0, .gs none 0, .gs none 0, .gs none 0]) :: shp (some (bb, cap)) 98 1 ((c.bufs.take (j + 1)).map buf) (shp gr 22 1 (rgC rs) (rgH rs (shp gm 3 1 (c.mem.map iD) (shp gp 3 1 (c.pc.map iD) [])))))
   (perm_of fun a => by rw [htk]; simp only [shp_some, cnt_shp, cnt_rgH, cnt_cons, cnt_app, cnt_nil]; omega)) (Weak.sub ?_)
  simp [sub, upd]
 have hd : decide ((j : Int) < (c.bufs.length : Int)) = false := by simp; omega
 obtain rfl : j = c.bufs.length := by omega
 rw [List.take_length]
 refine VC.weak (Weak.perm (H' := (bq, .cells 43 4 [.gs gp c.pc.length, .gs gr c.regs.length, .gs gm c.mem.length, .gs gb c.bufs.length]) :: (b2, .cells 43 4 [.gs none 0, .gs none 0, .gs none 0, .gs none 0]) :: (OC.mk gp gr gm gb rs).h c []) (perm_of fun a => by simp only [OC.h, cnt_shp, cnt_rgH, cnt_cons, cnt_app, cnt_nil]; omega)) ?_
 have hne : ¬ bq = b2 := hbq
 repeat' first | refine vs T rfl fun K hK => ?_; (try simp (disch := omega) only [go_sem, Nat.reduceBEq, Nat.reduceAdd, Nat.reduceLeDiff, hd, bufsR_len, OC.h]); (refine hK _ _ ?_; clear hK K) | refine st rfl ?_ | refine sc rfl ?_ | refine nl ?_
 refine retc T rfl (by (simp (disch := omega) only [hget_ne, hget_eq]); rfl) rfl rfl rfl ((List.sublist_cons_self _ _).trans (List.sublist_cons_self _ _)) ⟨⟨gp, gr, gm, gb, rs⟩, ⟨hgp, hgr, hgm, hgb, hrs, hg⟩, rfl, rfl⟩
end Go.Proofs.YtomcmfbpmkklmaaGreat
