/- Calls of functions that take blocks of one's own, wherever they stand. No condition. -/
import Derived.Test.YtomcmfbpmkklmaaGreatWa
import Derived.Test.YtomcmfbpmkklmaaGreatRt
import Derived.Test.YtomcmfbpmkklmaaGreatXg
import Derived.Test.YtomcmfbpmkklmaaGreatRj
namespace Go.Vc
set_option maxHeartbeats 16000000
set_option linter.unusedSimpArgs false
set_option linter.unusedVariables false
open Go
inductive Pick : Heap → Heap → Heap → Prop where
 | nil {H : Heap} : Pick [] H H
 | take {x : Nat × HC} {Hp H Hr : Heap} : Pick Hp H Hr → Pick (x :: Hp) (x :: H) Hr
 | skip {x : Nat × HC} {Hp H Hr : Heap} : Pick Hp H Hr → Pick Hp (x :: H) (x :: Hr)
theorem Pick.perm {Hp H Hr : Heap} (h : Pick Hp H Hr) : H.Perm (Hp ++ Hr) := by
 induction h with
 | nil => exact List.Perm.refl _
 | take _ ih => exact List.Perm.cons _ ih
 | skip _ ih => exact (List.Perm.cons _ ih).trans List.perm_middle.symm
theorem VCo.nodup {P : Program} {n : Nat} {ops : Array Oper} {l : List Oper} {s : St} {Q : Exit → St → Prop} (h : s.heap.blocks.Nodup → VCo P n ops l s Q) : VCo P n ops l s Q := fun x a w hn hs => h hs.inv.nodup x a w hn hs
def VCp (F : Nat → (Nat → D) → Oper → FRes → Prop) (K : (Nat → D) → List (Tmp × NewI) → Prop) : Nat → Nat → List Oper → (Nat → D) → List (Tmp × NewI) → Prop
 | 0, _, _, E, news => K E news
 | _ + 1, _, [], _, _ => False
 | m + 1, i, o :: l, E, news => ∃ r, F i E o r ∧ VCp F K m (i + 1) l (updO E o.dst r.d) (news ++ newsOf r o.dst)
theorem VCp.extract {F : Nat → (Nat → D) → Oper → FRes → Prop} {K : (Nat → D) → List (Tmp × NewI) → Prop} {ops : Array Oper} : ∀ (m i : Nat) (l : List Oper) (E : Nat → D) (news : List (Tmp × NewI)), l = ops.toList.drop i → VCp F K m i l E news →
  ∃ res : Nat → FRes, (∀ j, j < m → ∃ o, ops[i + j]? = some o ∧ F (i + j) (envG ops i E res j) o (res (i + j))) ∧ K (envG ops i E res m) (news ++ newsG ops res i m)
 | 0, i, l, E, news, _, h => ⟨fun _ => .skip, fun j hj => by omega, by rw [newsG, List.append_nil]; exact h⟩
 | m + 1, i, [], E, news, _, h => h.elim
 | m + 1, i, o :: l, E, news, hl, h => by
  obtain ⟨r, hok, h2⟩ := h
  have ho : ops[i]? = some o := by
   have : (ops.toList.drop i)[0]? = some o := by rw [← hl]; rfl
   rw [List.getElem?_drop] at this
   simpa using this
  have hl2 : l = ops.toList.drop (i + 1) := by
   have : ops.toList.drop (i + 1) = (ops.toList.drop i).drop 1 := by rw [List.drop_drop]
   rw [this, ← hl]; rfl
  obtain ⟨res', h3, h4⟩ := VCp.extract m (i + 1) l _ _ hl2 h2
  let res : Nat → FRes := fun k => if k = i then r else res' k
  have hri : res i = r := by simp [res]
  have hr : ∀ k, i + 1 ≤ k → res' k = res k := fun k hk => by simp only [res]; rw [if_neg (by omega)]
  have hd : dstAt ops i = o.dst := by simp [dstAt, ho]
  have hen : ∀ j, envG ops i E res (j + 1) = envG ops (i + 1) (updO E o.dst r.d) res' j := fun j => by
   rw [envG_shift, hri, hd, envG_congr (fun k hk => (hr k hk).symm)]
  refine ⟨res, fun j hj => ?_, ?_⟩
  ·cases j with
   | zero => exact ⟨o, ho, by rw [Nat.add_zero, hri]; exact hok⟩
   | succ j =>
    obtain ⟨o', h5, h6⟩ := h3 j (by omega)
    rw [show i + (j + 1) = i + 1 + j by omega]
    refine ⟨o', h5, ?_⟩
    rw [hen, ← hr _ (by omega)]
    exact h6
  ·rw [hen, newsG, newsG_congr m (i + 1) (fun k hk => (hr k hk).symm)]
   rw [newsAt, hri, hd, ← List.append_assoc]
   exact h4
theorem envG_d {ops : Array Oper} {E : Nat → D} {R0 R1 : Nat → FRes} (h : ∀ k, (R0 k).d = (R1 k).d) {i : Nat} : ∀ j, envG ops i E R0 j = envG ops i E R1 j
 | 0 => rfl
 | j + 1 => by rw [envG, envG, envG_d h j, h]
section
variable {P : Program} {x : Ctx} {ops : Array Oper} {f : Nat} {H : Heap} {E : Nat → D} {a0 : Act} {ws : World}
theorem store_step {R0 R1 : Nat → FRes} (hB : DrawOk ops f) (hs0 : SRel x ⟨E, H⟩ a0 ws) {Q : Exit → Act → World → Prop} {blk : Nat → List Nat} {listed : Array Bool} {a : Act} {w : World} (h : FInv x ops f R0 H a0 ws blk listed a w)
  {kk st : Nat} {s : Tmp} {ty : TypeId} {z z' : List D} (hz : z'.length = z.length) (hkf : kk < f) (hkd : dstAt ops kk = some s) (hR : R0 kk = .new (.cells ty z)) (hR1 : R1 kk = .new (.cells ty z')) (heq : ∀ k, k ≠ kk → R1 k = R0 k)
  (hRs : R0 st = .det (.is undef)) (hr : st ∈ Region.ready .any ops listed) (hsf : st < f) {o : Oper} (ho : ops[st]? = some o) (hg : o.guard = none) (hd : o.dst = none) (hks : hasEdge ops st kk = true)
  (hop : ∀ b, b ∉ H.blocks → OpS P o (evD (upd (envG ops 0 E R0 st) s (.is (.pointer (some ⟨b, 0, none⟩))))) ((b, .cells ty z.length z) :: H) (fun d' H' => d' = .is undef ∧ H' = (b, .cells ty z.length z') :: H)) :
  wpOp P ops Q st (fun a' w' => ∃ blk', FInv x ops f R1 H a0 ws blk' (listed.setIfInBounds st true) a' w') a w := by
 obtain ⟨hisz, hil, o', ho', hready⟩ := mem_ready_lt h.lsize hr
 rw [ho] at ho'; cases ho'
 have hisz' : st < listed.size := by rw [h.lsize]; exact hisz
 have hm : ∀ k, isL (listed.setIfInBounds st true) k ↔ k = st ∨ isL listed k := fun k => isL_set hisz'
 have hd0 : dstAt ops st = none := by simp [dstAt, ho, hd]
 have hdown : ∀ j e, isL listed j → e ∈ edgesAt ops j → isL listed e := fun j e hj he => by
  obtain ⟨oj, ed, h1, h2, h3, rfl⟩ := mem_edges.1 he
  exact h.down j oj h1 hj ed h2 h3
 have hkl : isL listed kk := reach_listed hdown _ st kk (fun e he => by
  obtain ⟨oj, ed, h1, h2, h3, rfl⟩ := mem_edges.1 he
  rw [ho] at h1; cases h1
  exact hready ed h2 h3) hks
 have hsl := h.slots kk s hkl hkd
 rw [hR] at hsl
 obtain ⟨d, Hk, hsay, hbk, hnd, hv, hrel⟩ := hsl
 obtain ⟨b, rfl, rfl⟩ := hsay
 have hbb : b ∈ blk kk := by rw [← hbk]; simp [Heap.blocks]
 have hbk1 : ∀ b2, b2 ∈ blk kk → b2 = b := fun b2 h2 => by rw [← hbk] at h2; simpa [Heap.blocks] using h2
 have hbL : L1 x.L0 R0 blk listed b := .inr ⟨kk, _, hkl, hR, hbb⟩
 have hbH : b ∉ H.blocks := fun hm => h.inv.apart b hm hbL
 have hbw := h.blks kk _ hkl hR b hbb
 let LL : Nat → Prop := fun b2 => L1 x.L0 R0 blk listed b2 ∧ b2 ≠ b
 have hsame : ∀ (c : HC) b2, live ((b, c) :: H) LL b2 ↔ live H (L1 x.L0 R0 blk listed) b2 := fun c b2 => by
  simp only [live, LL, Heap.blocks, List.map_cons, List.mem_cons]
  constructor
  ·rintro (⟨h1, _⟩ | rfl | h1)
   ·exact .inl h1
   ·exact .inl hbL
   ·exact .inr h1
  ·rintro (h1 | h1)
   ·by_cases e : b2 = b
    ·exact .inr (.inl e)
    ·exact .inl ⟨h1, e⟩
   ·exact .inr (.inr h1)
 have kk1 : Keeps w (live H (L1 x.L0 R0 blk listed)) w (live ((b, .cells ty z.length z) :: H) LL) := Keeps.less fun b2 _ hb => (hsame _ b2).1 hb
 have hi1 : HInv w LL ((b, .cells ty z.length z) :: H) :=
  {rel := fun b2 c hm2 => by
    rcases List.mem_cons.1 hm2 with hm2 | hm2
    ·cases hm2
     exact (hrel b _ (List.mem_cons_self ..)).mono kk1 rfl
    ·exact (h.inv.rel b2 c hm2).mono kk1 rfl
   nodup := by
    simp only [Heap.blocks, List.map_cons, List.nodup_cons]
    exact ⟨hbH, h.inv.nodup⟩
   apart := fun b2 hb2 hL => by
    simp only [Heap.blocks, List.map_cons, List.mem_cons] at hb2
    rcases hb2 with hb2 | hb2
    ·exact hL.2 hb2
    ·exact h.inv.apart b2 hb2 hL.1
   old := fun b2 hL => h.inv.old b2 hL.1 }
 have ev : ∀ y, y ∈ o.op.operands → Rel w (live ((b, .cells ty z.length z) :: H) LL) (evD (upd (envG ops 0 E R0 st) s (.is (.pointer (some ⟨b, 0, none⟩)))) y) (a.eval y) := fun y hy => by
  have e := Rel.mono kk1 _ _ (h.ev hB hs0 ho hsf hil hready y hy)
  cases y with
  | tmp t =>
   by_cases es : s = t
   ·subst es
    have : evD (upd (envG ops 0 E R0 st) s (.is (.pointer (some ⟨b, 0, none⟩)))) (.tmp s) = .is (.pointer (some ⟨b, 0, none⟩)) := by simp [evD, upd]
    rw [this]
    exact Rel.mono kk1 _ _ hv
   ·have hst : (s == t) = false := by simpa using es
    have : evD (upd (envG ops 0 E R0 st) s (.is (.pointer (some ⟨b, 0, none⟩)))) (.tmp t) = evD (envG ops 0 E R0 st) (.tmp t) := by simp [evD, upd, hst]
    rw [this]
    exact e
  | const v => exact e
  | global g => exact e
  | func g => exact e
 unfold wpOp
 rw [ho]
 simp only
 have hwant : Region.wanted o (yielded ops a.tmps) = true := by simp [Region.wanted, hg]
 rw [if_pos hwant]
 refine .inl ?_
 refine (hop b hbH w LL a.eval hi1 ev).upon ?_
 rintro v w' ⟨d', H', ⟨rfl, rfl⟩, hv', hi', he⟩
 refine ⟨blk, ?_⟩
 have hput : a.put o.dst v = a := by rw [hd]; rfl
 rw [hput]
 have hnew : ∀ k n, isL (listed.setIfInBounds st true) k → R1 k = .new n → isL listed k ∧ ∃ n0, R0 k = .new n0 := fun k n hk hk1 => by
  by_cases e : k = kk
  ·subst e; exact ⟨hkl, _, hR⟩
  ·rw [heq k e] at hk1
   rcases (hm k).1 hk with rfl | hk
   ·rw [hRs] at hk1; cases hk1
   ·exact ⟨hk, n, hk1⟩
 have hL1 : ∀ b2, L1 x.L0 R1 blk (listed.setIfInBounds st true) b2 ↔ L1 x.L0 R0 blk listed b2 := fun b2 => by
  constructor
  ·rintro (h1 | ⟨k, n, h1, h2, h3⟩)
   ·exact .inl h1
   ·obtain ⟨q1, n0, q2⟩ := hnew k n h1 h2
    exact .inr ⟨k, n0, q1, q2, h3⟩
  ·rintro (h1 | ⟨k, n, h1, h2, h3⟩)
   ·exact .inl h1
   ·by_cases e : k = kk
    ·subst e; exact .inr ⟨k, _, (hm k).2 (.inr h1), hR1, h3⟩
    ·exact .inr ⟨k, n, (hm k).2 (.inr h1), by rw [heq k e]; exact h2, h3⟩
 have hs2 : ∀ b2, live H (L1 x.L0 R1 blk (listed.setIfInBounds st true)) b2 ↔ live ((b, .cells ty z.length z') :: H) LL b2 := fun b2 => by
  rw [hsame]
  simp only [live, hL1]
 have kk2 : Keeps w' (live ((b, .cells ty z.length z') :: H) LL) w' (live H (L1 x.L0 R1 blk (listed.setIfInBounds st true))) := Keeps.less fun b2 _ hb => (hs2 b2).1 hb
 have hkeep : Keeps w (live H (L1 x.L0 R0 blk listed)) w' (live H (L1 x.L0 R1 blk (listed.setIfInBounds st true))) := fun b2 hb2 hn => by
  obtain ⟨q1, q2⟩ := he.keeps (L0 := LL) b2 hb2 (fun hl => hn ((hsame _ b2).1 hl))
  exact ⟨q1, fun hl => q2 ((hs2 b2).1 hl)⟩
 have hold : ∀ k n, isL listed k → k ≠ kk → R0 k = .new n → ∀ b2, b2 ∈ blk k → w'.heap[b2]? = w.heap[b2]? := fun k n hk hkn hr2 b2 hb2 => by
  refine he.block b2 (h.blks k n hk hr2 b2 hb2).2 fun hmm => ?_
  simp only [Heap.blocks, List.map_cons, List.mem_cons] at hmm
  rcases hmm with rfl | hmm
  ·exact hkn (h.inj k kk n _ hk hkl hr2 hR b2 hb2 hbb)
  ·exact h.inv.apart b2 hmm (.inr ⟨k, n, hk, hr2, hb2⟩)
 refine { lsize := by simp [h.lsize], down := ?_, front := ?_, slots := ?_, blks := ?_, inj := ?_, rest := ?_, inv := ?_, evo := ?_, defers := h.defers, size := h.size }
 ·intro k ok hok hk e he2 hb
  rw [hm] at hk ⊢
  rcases hk with rfl | hk
  ·rw [ho] at hok; cases hok
   exact .inr (hready e he2 hb)
  ·exact .inr (h.down k ok hok hk e he2 hb)
 ·intro k hk
  rcases (hm k).1 hk with rfl | hk
  ·exact hsf
  ·exact h.front k hk
 ·intro k t hk hkt
  rcases (hm k).1 hk with rfl | hk
  ·rw [hd0] at hkt; cases hkt
  by_cases hkk : k = kk
  ·subst hkk
   rw [hkd] at hkt; cases hkt
   rw [hR1]
   refine ⟨.is (.pointer (some ⟨b, 0, none⟩)), [(b, .cells ty z'.length z')], ⟨b, rfl, rfl⟩, hbk, by simp [Heap.blocks], hv, fun b2 c hbc => ?_⟩
   rcases List.mem_cons.1 hbc with hbc | hbc
   ·cases hbc
    rw [hz]
    exact (hi'.rel b _ (List.mem_cons_self ..)).mono kk2 rfl
   ·cases hbc
  ·rw [heq k hkk]
   have hsl := h.slots k t hk hkt
   cases hr2 : R0 k with
   | det d => rw [hr2] at hsl; exact Rel.mono hkeep _ _ hsl
   | skip => rw [hr2] at hsl; exact hsl
   | new n =>
    rw [hr2] at hsl
    obtain ⟨d, Hk, h1, h2, h3, h4, h5⟩ := hsl
    refine ⟨d, Hk, h1, h2, h3, Rel.mono hkeep _ _ h4, fun b2 c hbc => (h5 b2 c hbc).mono hkeep (hold k n hk hkk hr2 b2 ?_)⟩
    rw [← h2]
    exact List.mem_map.2 ⟨(b2, c), hbc, rfl⟩
 ·intro k n hk hr2 b2 hb2
  obtain ⟨q1, n0, q2⟩ := hnew k n hk hr2
  have := h.blks k n0 q1 q2 b2 hb2
  exact ⟨this.1, Nat.lt_of_lt_of_le this.2 he.size⟩
 ·intro k l n n' hk hl hrk hrl b2 hbk2 hbl
  obtain ⟨q1, n0, q2⟩ := hnew k n hk hrk
  obtain ⟨q3, n1, q4⟩ := hnew l n' hl hrl
  exact h.inj k l n0 n1 q1 q3 q2 q4 b2 hbk2 hbl
 ·intro t hno
  exact h.rest t fun k hk => hno k ((hm k).2 (.inr hk))
 ·exact
   {rel := fun b2 c hmb => (hi'.rel b2 c (List.mem_cons_of_mem _ hmb)).mono kk2 rfl
    nodup := h.inv.nodup
    apart := fun b2 hb2 hl => h.inv.apart b2 hb2 ((hL1 b2).1 hl)
    old := fun b2 hl => Nat.lt_of_lt_of_le (h.inv.old b2 ((hL1 b2).1 hl)) he.size }
 ·refine ⟨he.os.trans h.evo.os, he.tape.trans h.evo.tape, he.output.trans h.evo.output, Nat.le_trans h.evo.size he.size, fun b2 hb2 hn => ?_, fun b2 hb2 => .inl hb2⟩
  rw [he.block b2 (Nat.lt_of_lt_of_le hb2 h.evo.size) (fun hmm => ?_)]
  ·exact h.evo.block b2 hb2 hn
  ·simp only [Heap.blocks, List.map_cons, List.mem_cons] at hmm
   rcases hmm with rfl | hmm
   ·omega
   ·exact hn hmm
theorem front_anyM {R0 R1 : Nat → FRes} (hB : DrawOk ops f) (hs0 : SRel x ⟨E, H⟩ a0 ws) {Q : Exit → Act → World → Prop} {kk st : Nat} (hstf : st < f) (hks : hasEdge ops st kk = true)
  (hok0 : ∀ j, j < f → j ≠ st → ∃ o, ops[j]? = some o ∧ FOk P ops (envG ops 0 E R0 j) H o (R0 j)) (hok1 : ∀ j, j < f → j ≠ st → j ≠ kk → ∃ o, ops[j]? = some o ∧ FOk P ops (envG ops 0 E R1 j) H o (R1 j))
  (hst : ∀ (blk : Nat → List Nat) (listed : Array Bool) (a : Act) (w : World), FInv x ops f R0 H a0 ws blk listed a w → st ∈ Region.ready .any ops listed → wpOp P ops Q st (fun a' w' => ∃ blk', FInv x ops f R1 H a0 ws blk' (listed.setIfInBounds st true) a' w') a w)
  (hdst : ∀ k t, dstAt ops k = some t → t < x.n) (hfin : ∀ blk listed a w, (∀ k, isL listed k ↔ k < f) → FInv x ops f R1 H a0 ws blk listed a w → wpList P ops Q (ops.toList.drop f) a w) :
  ∀ (fuel : Nat) (blk : Nat → List Nat) (listed : Array Bool) (a : Act) (w : World), unl listed ops.size = fuel →
   (∃ R, FInv x ops f R H a0 ws blk listed a w ∧ (isL listed st → R = R1) ∧ (¬ isL listed st → R = R0)) → wpAny P .any ops Q fuel listed a w := by
 have hkst : ∀ (blk : Nat → List Nat) (listed : Array Bool) (a : Act) (w : World) (R : Nat → FRes), isL listed st → FInv x ops f R H a0 ws blk listed a w → isL listed kk := fun blk listed a w R hl h => by
  have hdown : ∀ j e, isL listed j → e ∈ edgesAt ops j → isL listed e := fun j e hj he => by
   obtain ⟨oj, ed, h1, h2, h3, rfl⟩ := mem_edges.1 he
   exact h.down j oj h1 hj ed h2 h3
  exact reach_listed hdown _ st kk (fun e he => hdown st e hl he) hks
 intro fuel
 induction fuel with
 | zero =>
  intro blk listed a w hu hM
  obtain ⟨R, h, hR1, hR0⟩ := hM
  have all : ∀ k, k < ops.size → isL listed k := fun k hk => unl_zero h.lsize hu hk
  have hfs : f = ops.size := by
   rcases Nat.eq_or_lt_of_le hB.le with h' | h'
   ·exact h'
   ·have := h.front f (all f h'); omega
  obtain rfl := hR1 (all st (by omega))
  exact tail_any hB 0 f listed a w (by omega) (Nat.le_refl _) h.lsize (fun k => ⟨h.front k, fun hk => all k (by omega)⟩) (hfin blk listed a w (fun k => ⟨h.front k, fun hk => all k (by omega)⟩) h)
 | succ fuel ih =>
  intro blk listed a w hu hM
  obtain ⟨R, h, hR1, hR0⟩ := hM
  by_cases hall : ∀ k, k < f → isL listed k
  ·have hl : ∀ k, isL listed k ↔ k < f := fun k => ⟨h.front k, hall k⟩
   have hcount : f + (fuel + 1) = ops.size := by
    have key : ∀ m, m ≤ ops.size → ((List.range m).filter fun k => !listed.getD k true).length = m - f := by
     intro m
     induction m with
     | zero => intro _; simp
     | succ m ihm =>
      intro hm
      rw [List.range_succ, List.filter_append, List.length_append, ihm (by omega)]
      by_cases hmf : m < f
      ·have : listed.getD m true = true := (getD_true (by rw [h.lsize]; omega)).2 ((hl m).2 hmf)
       rw [filter_one, this]; simp; omega
      ·have : listed.getD m true = false := by
        cases hq : listed.getD m true with
        | false => rfl
        | true => exact absurd ((hl m).1 ((getD_true (by rw [h.lsize]; omega)).1 hq)) hmf
       rw [filter_one, this]; simp; omega
    have := key ops.size (Nat.le_refl _)
    unfold unl at hu
    have := hB.le
    omega
   obtain rfl := hR1 (hall st hstf)
   exact tail_any hB (fuel + 1) f listed a w hcount (Nat.le_refl _) h.lsize hl (hfin blk listed a w hl h)
  ·-- the least one that is not listed
   have hex : ∃ k, k < f ∧ ¬ isL listed k := by
    refine Classical.byContradiction fun hn => hall fun k hk => Classical.byContradiction fun hkl => hn ⟨k, hk, hkl⟩
   have least : ∀ m, ∀ k, k ≤ m → k < f → ¬ isL listed k → ∃ k', k' < f ∧ ¬ isL listed k' ∧ ∀ l, l < k' → isL listed l := by
    intro m
    induction m with
    | zero => intro k hk hkf hkl; exact ⟨k, hkf, hkl, fun l hl => by omega⟩
    | succ m ihm =>
     intro k hk hkf hkl
     by_cases hp : ∀ l, l < k → isL listed l
     ·exact ⟨k, hkf, hkl, hp⟩
     ·have : ∃ l, l < k ∧ ¬ isL listed l := Classical.byContradiction fun hn => hp fun l hl => Classical.byContradiction fun hll => hn ⟨l, hl, hll⟩
      obtain ⟨l, h1, h2⟩ := this
      exact ihm l (by omega) (by omega) h2
   obtain ⟨k0, hk0f, hk0⟩ := hex
   obtain ⟨k, hkf, hkl, hkp⟩ := least k0 k0 (Nat.le_refl _) hk0f hk0
   have hks : k < ops.size := Nat.lt_of_lt_of_le hkf hB.le
   have hready : k ∈ Region.ready .any ops listed := by
    refine mem_ready.2 ⟨?_, ops[k], by simp [hks], fun e he hb => ?_⟩
    ·cases hq : listed.getD k true with
     | false => rfl
     | true => exact absurd ((getD_true (by rw [h.lsize]; omega)).1 hq) hkl
    ·have hlt := hB.back k ops[k] (by simp [hks]) e he hb
     have := hkp e.on hlt
     unfold isL at this
     rw [Array.getD_eq_getD_getElem?, this]; rfl
   refine ⟨fun h0 => by rw [h0] at hready; exact absurd hready List.not_mem_nil, fun i hi => ?_⟩
   have hif : i < f := by
    rcases Nat.lt_or_ge i f with h' | h'
    ·exact h'
    ·exfalso
     obtain ⟨h1, h2, o, ho, hr⟩ := mem_ready_lt h.lsize hi
     have he := hB.tail i h1 h' k (by omega)
     exact hkl (reach_listed (S := isL listed) (fun j' e hj' he' => by
      obtain ⟨oj, ed, q1, q2, q3, rfl⟩ := mem_edges.1 he'
      exact h.down j' oj q1 hj' ed q2 q3) _ i k (fun e he' => by
      obtain ⟨oj, ed, q1, q2, q3, rfl⟩ := mem_edges.1 he'
      rw [ho] at q1; cases q1
      exact hr ed q2 q3) he)
   obtain ⟨h1, h2, _⟩ := mem_ready_lt h.lsize hi
   have hu2 : unl (listed.setIfInBounds i true) ops.size = fuel := by
    have := unl_set h.lsize h1 h2
    omega
   have hisz : i < listed.size := by rw [h.lsize]; exact h1
   by_cases his : i = st
   ·subst his
    obtain rfl := hR0 h2
    refine wpOp_mono (fun a' w' ⟨blk', h'⟩ => ih blk' _ a' w' hu2 ⟨R1, h', fun _ => rfl, fun hn => absurd ((isL_set hisz).2 (.inl rfl)) hn⟩) (hst blk listed a w h hi)
   ·have hiff : isL (listed.setIfInBounds i true) st ↔ isL listed st := by
     rw [isL_set hisz]
     exact ⟨fun h' => h'.resolve_left (fun e => his e.symm), .inr⟩
    have hokR : ∃ o, ops[i]? = some o ∧ FOk P ops (envG ops 0 E R i) H o (R i) := by
     by_cases hsl : isL listed st
     ·obtain rfl := hR1 hsl
      exact hok1 i hif his (fun e => h2 (by rw [e]; exact hkst blk listed a w _ hsl h))
     ·obtain rfl := hR0 hsl
      exact hok0 i hif his
    exact wpOp_mono (fun a' w' ⟨blk', h'⟩ => ih blk' _ a' w' hu2 ⟨R, h', fun hl => hR1 (hiff.1 hl), fun hn => hR0 fun hl => hn (hiff.2 hl)⟩) (h.step hB hs0 hdst hi hif hokR)
end
def MF (P : Program) (T : Tab P) (ops : Array Oper) (H : Heap) (kk st : Nat) (s : Tmp) (ty : TypeId) (z' : List D) (i : Nat) (E : Nat → D) (o : Oper) (r : FRes) : Prop :=
 match Nat.beq i kk, Nat.beq i st with
 | true, _ => r = .new (.cells ty z') ∧ o.guard = none ∧ o.op = .alloc ty ∧ o.dst = some s ∧ (T.get ty).known = true ∧ ((T.get ty).zero.map constD).all oneD = true
 | false, true => r = .det (.is undef) ∧ o.guard = none ∧ o.dst = none ∧ z'.length = ((T.get ty).zero.map constD).length ∧
   ∀ b, b ∉ H.blocks → OpS P o (evD (upd E s (.is (.pointer (some ⟨b, 0, none⟩))))) ((b, .cells ty ((T.get ty).zero.map constD).length ((T.get ty).zero.map constD)) :: H) (fun d' H' => d' = .is undef ∧ H' = (b, .cells ty ((T.get ty).zero.map constD).length z') :: H)
 | false, false => FOk P ops E H o r
theorem natBeq_no {a b : Nat} (h : ¬ a = b) : Nat.beq a b = false := by
 cases hb : Nat.beq a b with
 | false => rfl
 | true => exact absurd (Nat.eq_of_beq_eq_true hb) h
theorem VC.drawM {P : Program} (T : Tab P) {n id : Nat} {l : List Oper} {E : Nat → D} {H : Heap} {Q : Exit → St → Prop} (f kk st : Nat) {s : Tmp} {ty : TypeId} (hkf : Nat.blt kk f = true) (hsf : Nat.blt st f = true) (hne : Nat.beq st kk = false) (hks : hasEdge l.toArray st kk = true)
    (hB : drawOk l.toArray f = true) (hm : P.follows .mixedOrders = true) (hd : l.all (dstOk n) = true) (z' : List D)
    (h : VCp (MF P T l.toArray H kk st s ty z') (fun E' news => allK news E' H fun E'' H'' => VCo P n l.toArray (l.drop f) ⟨E'', H''⟩ Q) f 0 l E []) : VC P n (.region id l.toArray true) ⟨E, H⟩ Q := by
  intro x a0 w hn hs
  have hB := drawOk_spec hB
  have hs1 := hs.drew
  have hkf : kk < f := Nat.blt_eq.mp hkf
  have hsf : st < f := Nat.blt_eq.mp hsf
  have hne : ¬ st = kk := Nat.ne_of_beq_eq_false hne
  refine wp_region_any hm ?_
  obtain ⟨res, hok, hK⟩ := VCp.extract (ops := l.toArray) f 0 l E [] rfl h
  let z : List D := (T.get ty).zero.map constD
  let R0 : Nat → FRes := fun k => if k = kk then .new (.cells ty z) else res k
  have hR0 : R0 kk = .new (.cells ty z) := by simp [R0]
  have heq : ∀ k, k ≠ kk → res k = R0 k := fun k hk => by simp only [R0]; rw [if_neg hk]
  obtain ⟨ok, hok1k, hokk⟩ := hok kk hkf
  rw [Nat.zero_add] at hok1k hokk
  unfold MF at hokk
  rw [show Nat.beq kk kk = true from Nat.beq_refl kk] at hokk
  obtain ⟨hR1, hgk, hopk, hdk, hkn, hzo⟩ := hokk
  have hkd : dstAt l.toArray kk = some s := by simp only [dstAt, hok1k, Option.bind_some, hdk]
  have hdd : ∀ k, (R0 k).d = (res k).d := fun k => by
    by_cases e : k = kk
    · subst e; rw [hR0, hR1]; rfl
    · rw [heq k e]
  obtain ⟨o, host, hst0⟩ := hok st hsf
  rw [Nat.zero_add] at host hst0
  unfold MF at hst0
  rw [natBeq_no hne, show Nat.beq st st = true from Nat.beq_refl st] at hst0
  obtain ⟨hRs1, hgst, hdst0, hz, hop⟩ := hst0
  have hRs0 : R0 st = .det (.is undef) := by rw [← heq st hne]; exact hRs1
  rw [← envG_d hdd] at hop
  have hok1 : ∀ j, j < f → j ≠ st → j ≠ kk → ∃ o, l.toArray[j]? = some o ∧ FOk P l.toArray (envG l.toArray 0 E res j) H o (res j) := fun j hj h1 h2 => by
    obtain ⟨o, q1, q2⟩ := hok j hj
    rw [Nat.zero_add] at q1 q2
    unfold MF at q2
    rw [natBeq_no h2, natBeq_no h1] at q2
    exact ⟨o, q1, q2⟩
  have hok0 : ∀ j, j < f → j ≠ st → ∃ o, l.toArray[j]? = some o ∧ FOk P l.toArray (envG l.toArray 0 E R0 j) H o (R0 j) := fun j hj h1 => by
    by_cases h2 : j = kk
    · subst h2
      exact ⟨ok, hok1k, by rw [hR0]; exact ⟨.inl hgk, ⟨s, hdk⟩, opS_alloc T hopk hkn hzo⟩⟩
    · obtain ⟨o, q1, q2⟩ := hok1 j hj h1 h2
      exact ⟨o, q1, by rw [envG_d hdd, ← heq j h2]; exact q2⟩
  have hdst : ∀ k t, dstAt l.toArray k = some t → t < x.n := fun k t hk => hn ▸ dsts_of hd k t hk
  have hnd : ∀ j n, j < f → res j = .new n → ∃ t, dstAt l.toArray j = some t := by
    intro j n hj hr
    by_cases e : j = kk
    · subst e; exact ⟨s, hkd⟩
    by_cases e2 : j = st
    · subst e2; rw [hRs1] at hr; cases hr
    obtain ⟨o, ho, hf⟩ := hok1 j hj e2 e
    rw [hr] at hf
    obtain ⟨_, ⟨t, ht⟩, _⟩ := hf
    exact ⟨t, by simp only [dstAt, ho, Option.bind_some, ht]⟩
  have hnone : ∀ k, ¬ isL (Array.replicate l.toArray.size false) k := by
    intro k hk
    unfold isL at hk
    rw [Array.getElem?_replicate] at hk
    split at hk <;> cases hk
  have hL0 : L1 x.L0 R0 (fun _ => []) (Array.replicate l.toArray.size false) = x.L0 := by
    funext b
    refine propext ⟨?_, .inl⟩
    rintro (h1 | ⟨k, n, h1, _⟩)
    · exact h1
    · exact absurd h1 (hnone k)
  have hunl : unl (Array.replicate l.toArray.size false) l.toArray.size = l.toArray.size := by
    unfold unl
    rw [List.filter_eq_self.2]
    · simp
    · intro k hk
      have := List.mem_range.1 hk
      simpa [Array.getD] using this
  refine front_anyM (x := x) (R0 := R0) (R1 := res) (E := E) (H := H) (a0 := a0) (ws := w.drew) hB hs1 hsf hks hok0 hok1 (fun blk listed a w h hr => store_step hB hs1 h hz hkf hkd hR0 hR1 heq hRs0 hr hsf host hgst hdst0 hks hop) hdst ?_ _ (fun _ => []) _ a0 w.drew hunl ?_
  · intro blk listed a w' hl hF
    have h0 : [] ++ newsG l.toArray res 0 f = newsG l.toArray res 0 f := List.nil_append _
    rw [h0] at hK
    have hsameL : Lrem x.L0 res blk f 0 = L1 x.L0 res blk listed := by
      funext b
      refine propext ⟨?_, ?_⟩
      · rintro (h1 | ⟨k, n, h1, h2, h3, h4⟩)
        · exact .inl h1
        · exact .inr ⟨k, n, (hl k).2 h2, h3, h4⟩
      · rintro (h1 | ⟨k, n, h1, h3, h4⟩)
        · exact .inl h1
        · exact .inr ⟨k, n, Nat.zero_le _, (hl k).1 h1, h3, h4⟩
    have henv : ∀ t, Rel w' (live H (L1 x.L0 res blk listed)) (envG l.toArray 0 E res f t) (a.tmps.getD t undef) := by
      intro t
      by_cases hex : ∃ k, k < f ∧ dstAt l.toArray k = some t
      · obtain ⟨k, hkf, hkt⟩ := hex
        rw [envG_some f hkf hkt (fun j hj hne hd' => hB.uniq k j hkf hj hne (by rw [hkt]; simp) (by rw [hd', hkt]))]
        have hsl := hF.slots k t ((hl k).2 hkf) hkt
        cases hr : res k with
        | det d => rw [hr] at hsl; exact hsl
        | skip => rw [hr] at hsl; exact hsl
        | new n => trivial
      · rw [envG_none f (fun k hk hd' => hex ⟨k, hk, hd'⟩), hF.rest t (fun k hk hd' => hex ⟨k, (hl k).1 hk, hd'⟩)]
        exact Rel.mono hF.keeps _ _ (hs1.env t)
    obtain ⟨E2, H2, hV, hS⟩ := lay_new hs1 hF hl hnd f 0 _ H (by omega) hK henv (by rw [hsameL]; exact hF.inv) (fun b => by rw [hsameL]) hF.evo
    exact hV x a w' hn hS
  · refine ⟨R0, ?_, fun hk => absurd hk (hnone _), fun _ => rfl⟩
    refine { lsize := by simp, down := fun k o _ hk => absurd hk (hnone k), front := fun k hk => absurd hk (hnone k), slots := fun k t hk => absurd hk (hnone k), blks := fun k n hk => absurd hk (hnone k),
             inj := fun k l' n n' hk => absurd hk (hnone k), rest := fun t _ => rfl, inv := by rw [hL0]; exact hs1.inv, evo := Evo.refl _ _, defers := hs1.defers, size := hs1.size }
section
variable {P : Program} (T : Tab P) {ops : Array Oper} {H : Heap} {K : (Nat → D) → List (Tmp × NewI) → Prop} {m i kk st : Nat} {s : Tmp} {ty : TypeId} {z' : List D} {E : Nat → D} {news : List (Tmp × NewI)} {o : Oper} {l : List Oper}
theorem VCm.nil (h : K E news) : VCp (MF P T ops H kk st s ty z') K 0 i l E news := h
theorem VCm.step {d : D} {t : Tmp} (h1 : Nat.beq i kk = false) (h2 : Nat.beq i st = false) (hg : o.guard = none) (ht : o.dst = some t) (hc : opC T o (evD E) H (fun d' H' => d' = d ∧ H' = H)) (hn : VCp (MF P T ops H kk st s ty z') K m (i + 1) l (upd E t d) news) :
  VCp (MF P T ops H kk st s ty z') K (m + 1) i (o :: l) E news :=
 ⟨.det d, by unfold MF; rw [h1, h2]; exact ⟨.inl hg, opS_of T hc⟩, by rw [newsOf_det, List.append_nil, ht]; exact hn⟩
theorem VCm.alloc (h1 : Nat.beq i kk = true) (hg : o.guard = none) (hop : o.op = .alloc ty) (hd : o.dst = some s) (hk : (T.get ty).known = true) (hz : ((T.get ty).zero.map constD).all oneD = true) (hn : VCp (MF P T ops H kk st s ty z') K m (i + 1) l (upd E s .any) (news ++ [(s, .cells ty z')])) :
  VCp (MF P T ops H kk st s ty z') K (m + 1) i (o :: l) E news :=
 ⟨.new (.cells ty z'), by unfold MF; rw [h1]; exact ⟨rfl, hg, hop, hd, hk, hz⟩, by rw [hd]; exact hn⟩
theorem VCm.store (h1 : Nat.beq i kk = false) (h2 : Nat.beq i st = true) (hg : o.guard = none) (hd : o.dst = none)
  (hc : ∀ b, b ∉ H.blocks → opC T o (evD (upd E s (.is (.pointer (some ⟨b, 0, none⟩))))) ((b, .cells ty ((T.get ty).zero.map constD).length ((T.get ty).zero.map constD)) :: H) (fun d' H' => d' = .is undef ∧ H' = (b, .cells ty ((T.get ty).zero.map constD).length z') :: H))
  (hz : z'.length = ((T.get ty).zero.map constD).length) (hn : VCp (MF P T ops H kk st s ty z') K m (i + 1) l E news) :
  VCp (MF P T ops H kk st s ty z') K (m + 1) i (o :: l) E news :=
 ⟨.det (.is undef), by unfold MF; rw [h1, h2]; exact ⟨rfl, hg, hd, hz, fun b hb => let ⟨_, q1, q2⟩ := opC_sound T (hc b hb); q1.mono q2⟩, by rw [newsOf_det, List.append_nil, hd]; exact hn⟩
end
end Go.Vc
/- Contracts: where a program begins, and where a path leads. No condition. -/
namespace Go.Proofs.YtomcmfbpmkklmaaGreat
set_option maxHeartbeats 16000000
set_option linter.unusedSimpArgs false
set_option linter.unusedVariables false
set_option maxRecDepth 20000
open Go Go.Proofs Go.Vc
attribute [local irreducible] retQ VCg VCw VCx
theorem ret_ctt {P : Program} (T : Tab P) {E : Nat → D} {H : Heap} {u a v : Tmp} {ty : TypeId} {Φ : D → Heap → Prop} {H' : Heap} {b n : Nat} {ty' : TypeId} {l : List D} (ha : E a = .is (.pointer (some ⟨b, 0, none⟩))) (hb : hget H b = some (.cells ty' n l))
  (hk : (T.get ty).known = true) (hz : (T.get ty).size = l.length) (hag : (T.get ty).agg = true) (hs : H'.Sublist H) (h : Φ (.tup [.agg l, E u, E v]) H') : retQ T [.cell a ty, .tmp u, .tmp v] Φ .ret ⟨E, H⟩ :=
 by unfold retQ; exact ⟨[.agg l, E u, E v], H', ⟨b, ty', n, l, _, ha, hget_mem hb, hk, hz, by rw [hag], _, rfl, _, rfl, rfl⟩, hs, h⟩
theorem zerosE_eq (n : Nat) : zerosD n [.slice none 0 0] = List.replicate n (D.gs none 0) := by
 show (List.replicate n [D.gs none 0]).flatten = _
 induction n with
 | zero => rfl
 | succ n ih => rw [List.replicate_succ, List.flatten_cons, ih, List.replicate_succ]; rfl
theorem op_makeE {o : Oper} {E : Operand → D} {H : Heap} {l c : Operand} {n : Nat} (ho : o.op = .makeSlice 41 l c) (hl : E l = iD (n : Nat)) (hc : E c = iD (n : Nat)) (hn : n ≤ 1000000) :
  OpS Tryz.prog o E H (fun d' H' => d' = .sl false 1 (bufsR (List.replicate n [])) ∧ H' = H) := by
 have hcm : cMake (kdT (T.get 41)) (E l) (E c) H (fun d H' => ∃ k, d = .gs (some (k, n)) n ∧ H' = (k, .cells 98 (n * 1) (List.replicate n (D.gs none 0))) :: H) := by
  rw [hl, hc]
  show cMake (.slice 98 1 24 false [.slice none 0 0]) _ _ _ _
  refine ⟨⟨by omega, rfl, by rw [Int.toNat_natCast]; omega, by omega, rfl⟩, fun k hk => ⟨k, by rw [Int.toNat_natCast], ?_⟩⟩
  rw [Int.toNat_natCast, zerosE_eq]
 obtain ⟨Φ, h1, h2⟩ := r_make T (E := E) (H := H) (K := fun d H' => ∃ k, d = .gs (some (k, n)) n ∧ H' = (k, .cells 98 (n * 1) (List.replicate n (D.gs none 0))) :: H) ho hcm
 refine OpS.freeze (OpS.mono h1 h2) fun d H' ⟨k, q1, q2⟩ => ⟨[(k, .cells 98 (n * 1) (List.replicate n (D.gs none 0)))], q2, ?_⟩
 rw [q1]
 have := Fz_gs (g := some (k, n)) (n := n) (e := 98) (l := List.replicate n (D.gs none 0)) (H := [(k, .cells 98 (n * 1) (List.replicate n (D.gs none 0)))]) (by rw [bufsR_len]; simp) (by exact Nat.le_refl n) (fun b cap hb => by cases hb; exact List.mem_cons_self ..) (FzR_nil n)
 exact this
def cf0 : Cf := ⟨[], [], [], []⟩
def begC (u : Un) : Cf := match unitB u with | true => startC u | false => cf0
def begE (u : Un) : Int := match unitB u with | true => 0 | false => 8
theorem fz_cf0 {H : Heap} {d' d : D} (h : Fz H d' d) : Fz H (.tup [.agg (cfC cf0), d']) (.tup [.agg [.gs none 0, .gs none 0, .gs none 0, .gs none 0], d]) :=
 ⟨_, rfl, fz_cons ⟨_, rfl, fz_cons fz_nil (fz_cons fz_nil (fz_cons fz_nil (fz_cons fz_nil fz_end)))⟩ (fz_cons h fz_end)⟩
theorem cstart_ok (u : Un) (hu : OkU u) : Pure Tryz.prog 63 [.agg (unC u)] (.tup [.agg (cfC (begC u)), iD (begE u)]) := by
 have k1 := hu.ini
 have k2 := hu.reg
 have cu := rightL_ok u hu
 refine Fun.fz ?_
 refine Fun.of T [.cell 2 43, .tmp 3] Tryz.func63 rfl Tryz.ntmps63 Tryz.results63 rfl (by kernel_rfl) ?_
 cases hU : unitB u with
 | false =>
  rw [hU] at cu
  rw [show begC u = cf0 by simp [begC, hU], show begE u = 8 by simp [begE, hU]]
  repeat' first | refine vb (t := 25) rfl rfl rfl rfl ?_ | refine vs T rfl fun K hK => ?_; (try simp (disch := omega) only [go_sem, Nat.reduceBEq, Nat.reduceAdd, Nat.reduceLeDiff, Bool.not_false]); (first | refine hK _ _ ?_; clear hK K | intro bq hbq; (try simp only [HB] at hbq); refine hK _ _ ?_; clear hK K | refine Op1.callp rfl rfl (cu) rfl ?_; refine hK _ _ ?_; clear hK K) | refine st rfl ?_ | refine sc rfl ?_ | refine nl ?_
  exact retc1 T rfl hget_eq rfl rfl rfl (List.nil_sublist _) (fz_cf0 (Fz.refl _ _))
 | true =>
 rw [hU] at cu
 rw [show begC u = startC u by simp [begC, hU], show begE u = 0 by simp [begE, hU]]
 have co := ownIf_ok u.init (by omega)
 repeat' first | refine vb (t := 25) rfl rfl rfl rfl ?_ | refine VCg.stepS T rfl rfl (op_makeE rfl rfl rfl (by omega)) ?_ | refine VCg.stepS T rfl rfl (op_makeR rfl rfl rfl (by omega)) ?_ | refine dr (id := 4) T 9 (by kernel_rfl) ?_ | refine VCg.nil T ?_; simp only [allK, WB, Nat.reduceAdd, T43]; try (refine fun (bq : Nat) hbq => ?_; (try simp only [HB] at hbq)) | apply VCg.step T rfl rfl; focus ((try simp (disch := omega) only [go_sem, Nat.reduceBEq, Nat.reduceAdd]); (first | exact rfl | refine Op1.callp rfl rfl (co) rfl ?_; exact ⟨rfl, rfl⟩)) | refine VCg.alloc T rfl rfl rfl rfl rfl ?_ | refine vs T rfl fun K hK => ?_; (try simp (disch := omega) only [go_sem, Nat.reduceBEq, Nat.reduceAdd, Nat.reduceLeDiff, iRs_len, Bool.not_true]); (first | refine hK _ _ ?_; clear hK K | intro bq hbq; (try simp only [HB] at hbq); refine hK _ _ ?_; clear hK K | refine Op1.callp rfl rfl (cu) rfl ?_; refine hK _ _ ?_; clear hK K) | refine st rfl ?_ | refine sc rfl ?_ | refine nl ?_
 rename_i b2 hb2
 have n1 : ¬ bq = b2 := hbq
 refine VC.loop {p : Nat × G // p.1 ≤ u.regs.length ∧ gOk p.2 p.1} (fun p => ⟨lookD [(1, .pt (unC u)), (2, pD b2), (5, pD bq), (24, ints u.regs), (25, iD (u.regs.length : Nat)), (26, iD (p.1.1 : Nat))], (bq, .cells 43 4 [ints (List.replicate u.regs.length 0), .gs p.1.2 p.1.1, ints u.init, .sl false 1 (bufsR (List.replicate u.regs.length []))]) :: (b2, .cells 43 4 [.gs none 0, .gs none 0, .gs none 0, .gs none 0]) :: shp p.1.2 22 1 ((u.regs.take p.1.1).map zrow) []⟩) (fun p => u.regs.length - p.1.1) ⟨(0, none), by dsimp only; omega, rfl⟩ ?_ ?_
 ·refine Weak.sub ?_
  simp [sub, upd]
 rintro ⟨⟨t, g⟩, ht, hg⟩
 dsimp only at ht hg ⊢
 rcases Nat.lt_or_ge t u.regs.length with hlt | hge
 ·have hd : decide ((t : Int) < (u.regs.length : Int)) = true := by simp; omega
  have hw : IntKind.i64.wrap ((t : Int) + 1) = ((t + 1 : Nat) : Int) := by rw [w64 (by omega)]; omega
  obtain ⟨n, hn⟩ : ∃ n, u.regs[t]? = some n := ⟨_, List.getElem?_eq_getElem hlt⟩
  have hn6 := unitB_regs hU hn
  obtain ⟨k, rfl⟩ : ∃ k : Nat, n = (k : Int) := ⟨n.toNat, by omega⟩
  have rn : (iRs u.regs)[t]? = some [iD (k : Nat)] := by rw [iRs_at, hn]; rfl
  have hc2 : ((u.regs.take t).map zrow).length = t * 1 := by rw [List.length_map, List.length_take]; omega
  have z2 : (u.regs.take (t + 1)).map zrow = (u.regs.take t).map zrow ++ [ints (List.replicate k 0)] := by
   rw [List.take_add_one, hn]
   simp [zrow]
  repeat' first | refine VCg.stepS T rfl rfl (op_makeR rfl rfl rfl (by omega)) ?_ | refine dr (id := 8) T 5 (by kernel_rfl) ?_ | refine gn ?_ | apply VCg.step T rfl rfl; focus ((try simp (disch := omega) only [go_sem, Nat.reduceBEq, Nat.reduceMul, Nat.reduceLeDiff]); (exact rfl)) | refine vs T rfl fun K hK => ?_; (try simp (disch := omega) only [go_sem, Nat.reduceBEq, Nat.reduceAdd, Nat.reduceLeDiff, hd, hw, rn, iRs_len]); (first | refine hK _ _ ?_; clear hK K | refine ⟨_, _, _, _, (by repeat (first | exact Sp.here | apply Sp.cons)), ?_, (by exact ⟨rfl, rfl⟩), ⟨by decide, ?_⟩, fun g' hg' => hK _ _ ?_⟩ <;> clear hK K | refine ⟨?_, hK _ _ ?_⟩ <;> clear hK K; focus (try omega)) | refine st rfl ?_ | refine sc rfl ?_ | refine nl ?_
  all_goals first | exact hc2 | omega | skip
  refine ⟨⟨(t + 1, g'), by dsimp only; omega, hg'⟩, Weak_subEq ?_ ?_, by dsimp only; omega⟩
  ·dsimp only
   rw [z2]
  ·simp [sub, upd]
 ·have hd : decide ((t : Int) < (u.regs.length : Int)) = false := by simp; omega
  obtain rfl : t = u.regs.length := by omega
  rw [List.take_length]
  repeat' first | refine vs T rfl fun K hK => ?_; (try simp (disch := omega) only [go_sem, Nat.reduceBEq, Nat.reduceAdd, Nat.reduceLeDiff, hd]); (refine hK _ _ ?_; clear hK K) | refine st rfl ?_ | refine sc rfl ?_ | refine nl ?_
  refine retc1 T rfl (by (try simp (disch := omega) only [hget_ne, hget_eq]); rfl) rfl rfl rfl (List.Sublist.refl _) ?_
  refine ⟨_, rfl, fz_cons ⟨_, rfl, ?_⟩ (FzL.refl _ _)⟩
  refine fz_cons (Fz.refl _ _) (fz_cons ?_ (FzL.refl _ _))
  exact Fz_gs (e := 22) (l := u.regs.map zrow) (by rw [rowsI_len]; simp [startC]) hg (fun b cap hb => List.mem_cons_of_mem _ (List.mem_cons_of_mem _ (by rw [hb]; exact mem_shp0))) (FzR_zrow u.regs)
def goF (u : Un) (m r : Int) : Cf → List Int → Nat → Cf × Nat × Int
 | c, [], k => (c, k, 0)
 | c, a :: p, k => match enM u c m r a with
  | true => goF u m r (actM u c m r a) p (k + 1)
  | false => (c, k, 16)
def okMR (m r : Int) : Bool := decide (1 ≤ m) && decide (m ≤ 3) && (decide (1 ≤ r) && decide (r ≤ 4))
def repF (u : Un) (m r : Int) (p : List Int) : Cf × Nat × Int := match unitB u, okMR m r with
 | false, _ => (cf0, 0, 8)
 | true, false => (cf0, 0, 1)
 | true, true => goF u m r (startC u) p 0
abbrev repD (x : Cf × Nat × Int) : D := .tup [.agg (cfC x.1), iD (x.2.1 : Nat), iD x.2.2]
theorem goF_yes {u : Un} {m r : Int} {c : Cf} {p : List Int} {k : Nat} {a : Int} (h : p[k]? = some a) (he : enM u c m r a = true) : goF u m r c (p.drop k) k = goF u m r (actM u c m r a) (p.drop (k + 1)) (k + 1) := by
 obtain ⟨hk, rfl⟩ := List.getElem?_eq_some_iff.1 h
 rw [List.drop_eq_getElem_cons hk]
 simp only [goF, he]
theorem goF_no {u : Un} {m r : Int} {c : Cf} {p : List Int} {k : Nat} {a : Int} (h : p[k]? = some a) (he : enM u c m r a = false) : goF u m r c (p.drop k) k = (c, k, 16) := by
 obtain ⟨hk, rfl⟩ := List.getElem?_eq_some_iff.1 h
 rw [List.drop_eq_getElem_cons hk]
 simp only [goF, he]
theorem goF_end {u : Un} {m r : Int} {c : Cf} {p : List Int} {k : Nat} (h : k = p.length) : goF u m r c (p.drop k) k = (c, k, 0) := by
 rw [h, List.drop_length]
 rfl
theorem fz_cf03 {H : Heap} {a b : D} : Fz H (.tup [.agg (cfC cf0), a, b]) (.tup [.agg [.gs none 0, .gs none 0, .gs none 0, .gs none 0], a, b]) :=
 ⟨_, rfl, fz_cons ⟨_, rfl, fz_cons fz_nil (fz_cons fz_nil (fz_cons fz_nil (fz_cons fz_nil fz_end)))⟩ (FzL.refl _ _)⟩
theorem okMR_no {m r : Int} (h : m < 1 ∨ m > 3 ∨ r < 1 ∨ r > 4) : okMR m r = false := by
 cases hk : okMR m r with
 | false => rfl
 | true => simp only [okMR, Bool.and_eq_true, decide_eq_true_eq] at hk; omega
theorem rstart_ok (u : Un) (hu : OkU u) : Pure Tryz.prog 61 [.agg (unC u)] (.tup [.agg (cfC (begC u)), iD (begE u)]) := by
 cases hU : unitB u with
 | true =>
  rw [show begC u = startC u by simp [begC, hU], show begE u = 0 by simp [begE, hU]]
  exact start_ok u hu hU
 | false =>
 have cu := right07_ok u hu
 rw [hU] at cu
 rw [show begC u = cf0 by simp [begC, hU], show begE u = 8 by simp [begE, hU]]
 refine Fun.fz ?_
 refine Fun.of T [.cell 2 43, .tmp 3] Tryz.func61 rfl Tryz.ntmps61 Tryz.results61 rfl (by kernel_rfl) ?_
 repeat' first | refine vb (t := 25) rfl rfl rfl rfl ?_ | refine vs T rfl fun K hK => ?_; (try simp (disch := omega) only [go_sem, Nat.reduceBEq, Nat.reduceAdd, Nat.reduceLeDiff, Bool.not_false]); (first | refine hK _ _ ?_; clear hK K | intro bq hbq; (try simp only [HB] at hbq); refine hK _ _ ?_; clear hK K | refine Op1.callp rfl rfl (cu) rfl ?_; refine hK _ _ ?_; clear hK K) | refine st rfl ?_ | refine sc rfl ?_ | refine nl ?_
 exact retc1 T rfl hget_eq rfl rfl rfl (List.nil_sublist _) (fz_cf0 (Fz.refl _ _))
theorem rreplay_ok (u : Un) (hu : OkU u) (m r : Int) (p : List Int) (hp : p.length ≤ 1000000) : Pure Tryz.prog 57 [.agg (unC u), iD m, iD r, ints p] (repD (repF u m r p)) := by
 have cs := rstart_ok u hu
 refine Fun.fz ?_
 refine Fun.of T [.cell 8 43, .tmp 9, .tmp 10] Tryz.func57 rfl Tryz.ntmps57 Tryz.results57 rfl (by kernel_rfl) ?_
 cases hU : unitB u with
 | false =>
  have cs : Pure Tryz.prog 61 [.agg (unC u)] (.tup [.agg (cfC cf0), iD 8]) := by rwa [show begC u = cf0 by simp [begC, hU], show begE u = 8 by simp [begE, hU]] at cs
  rw [show repF u m r p = (cf0, 0, 8) by simp [repF, hU]]
  repeat' first
   | (refine vb (t := 25) rfl rfl rfl rfl ?_)
   | (apply VC.drawM (id := 9) T 14 12 13 (s := 14) (ty := 43) rfl rfl rfl (by kernel_rfl) (by kernel_rfl) (by kernel_rfl) (by kernel_rfl))
   | (refine VCm.nil T ?_; simp only [allK, WB, Nat.reduceAdd, List.length_cons, List.length_nil, T43]; try (refine fun (bq : Nat) hbq => ?_; (try simp only [HB] at hbq)))
   | (apply VCm.step T (by rfl) (by rfl) rfl rfl; focus ((try simp (disch := omega) only [go_sem, Nat.reduceBEq, Nat.reduceAdd, Nat.reduceMul, Nat.reduceSub, Nat.reduceLeDiff, Int.reduceToNat]); (first | exact rfl | exact ⟨rfl, rfl⟩ | (refine ⟨?_, rfl⟩; try (first | omega | exact ⟨rfl, by decide⟩ | exact rfl)) | (refine Op1.callp rfl rfl (cs) rfl ?_; exact ⟨rfl, rfl⟩))))
   | (apply VCm.alloc T; (case h1 => rfl); (case hg => rfl); (case hop => rfl); (case hd => rfl); (case hk => rfl); (case hz => rfl))
   | (apply VCm.store T; (case h1 => rfl); (case h2 => rfl); (case hg => rfl); (case hd => rfl); (case hc => (intro b hb; (try simp (disch := omega) only [go_sem, Nat.reduceBEq, Nat.reduceAdd, Nat.reduceMul, Nat.reduceSub, Nat.reduceLeDiff, Int.reduceToNat]); first | omega | (refine ⟨?_, ?_⟩; focus (first | omega | exact ⟨rfl, by decide⟩ | exact rfl); exact ⟨rfl, rfl⟩) | exact rfl | exact ⟨rfl, rfl⟩)); (case hz => (first | rfl | (simp; done))))
   | (refine vs T rfl fun K hK => ?_; (try simp (disch := omega) only [go_sem, Nat.reduceBEq, Nat.reduceAdd, Nat.reduceMul, Nat.reduceSub, Nat.reduceLeDiff, Int.reduceToNat]); (first | (refine hK _ _ ?_; clear hK K) | (intro bq hbq; (try simp only [HB] at hbq); refine hK _ _ ?_; clear hK K) | (refine ⟨?_, hK _ _ ?_⟩ <;> clear hK K; focus (try (first | omega | exact ⟨rfl, by decide⟩ | exact rfl))) | (refine ⟨_, ?_, hK _ _ ?_⟩ <;> clear hK K) | (refine Op1.callp rfl rfl (cs) rfl ?_; refine hK _ _ ?_; clear hK K) | skip))
   | (refine st rfl ?_)
   | (refine sc rfl ?_)
   | (refine nl ?_)
   | (refine gs rfl rfl ?_)
   | (refine gu rfl rfl ?_)
   | (refine ov ?_)
   | (with_reducible refine gt ?_ ?_; focus (simp (disch := omega) only [go_sem, Nat.reduceBEq, Nat.reduceAdd, Nat.reduceMul, Nat.reduceSub, Nat.reduceLeDiff, Int.reduceToNat]; done))
   | (with_reducible refine gf ?_ ?_; focus (simp (disch := omega) only [go_sem, Nat.reduceBEq, Nat.reduceAdd, Nat.reduceMul, Nat.reduceSub, Nat.reduceLeDiff, Int.reduceToNat]; done))
   | (with_reducible refine gsplit_intro (fun hc => ?_) (fun hc => ?_))
  rename_i b8 hb8
  have n1 : ¬ bq = b8 := hbq
  exact ret_ctt T rfl (by (try simp (disch := omega) only [hget_ne, hget_eq]); rfl) rfl rfl rfl (List.nil_sublist _) fz_cf03
 | true =>
 have cs : Pure Tryz.prog 61 [.agg (unC u)] (.tup [.agg (cfC (startC u)), iD 0]) := by rwa [show begC u = startC u by simp [begC, hU], show begE u = 0 by simp [begE, hU]] at cs
 have bad : (m < 1 ∨ m > 3 ∨ r < 1 ∨ r > 4) → repF u m r p = (cf0, 0, 1) := fun h => by simp [repF, hU, okMR_no h]
 by_cases h1 : m < 1
 ·have e1 : decide (m < 1) = true := by simpa using h1
  rw [bad (by omega)]
  repeat' first
   | (refine vb (t := 25) rfl rfl rfl rfl ?_)
   | (apply VC.drawM (id := 9) T 14 12 13 (s := 14) (ty := 43) rfl rfl rfl (by kernel_rfl) (by kernel_rfl) (by kernel_rfl) (by kernel_rfl))
   | (refine VCm.nil T ?_; simp only [allK, WB, Nat.reduceAdd, List.length_cons, List.length_nil, T43]; try (refine fun (bq : Nat) hbq => ?_; (try simp only [HB] at hbq)))
   | (apply VCm.step T (by rfl) (by rfl) rfl rfl; focus ((try simp (disch := omega) only [go_sem, Nat.reduceBEq, Nat.reduceAdd, Nat.reduceMul, Nat.reduceSub, Nat.reduceLeDiff, Int.reduceToNat, e1]); (first | exact rfl | exact ⟨rfl, rfl⟩ | (refine ⟨?_, rfl⟩; try (first | omega | exact ⟨rfl, by decide⟩ | exact rfl)) | (refine Op1.callp rfl rfl (cs) rfl ?_; exact ⟨rfl, rfl⟩))))
   | (apply VCm.alloc T; (case h1 => rfl); (case hg => rfl); (case hop => rfl); (case hd => rfl); (case hk => rfl); (case hz => rfl))
   | (apply VCm.store T; (case h1 => rfl); (case h2 => rfl); (case hg => rfl); (case hd => rfl); (case hc => (intro b hb; (try simp (disch := omega) only [go_sem, Nat.reduceBEq, Nat.reduceAdd, Nat.reduceMul, Nat.reduceSub, Nat.reduceLeDiff, Int.reduceToNat, e1]); first | omega | (refine ⟨?_, ?_⟩; focus (first | omega | exact ⟨rfl, by decide⟩ | exact rfl); exact ⟨rfl, rfl⟩) | exact rfl | exact ⟨rfl, rfl⟩)); (case hz => (first | rfl | (simp; done))))
   | (refine vs T rfl fun K hK => ?_; (try simp (disch := omega) only [go_sem, Nat.reduceBEq, Nat.reduceAdd, Nat.reduceMul, Nat.reduceSub, Nat.reduceLeDiff, Int.reduceToNat, e1]); (first | (refine hK _ _ ?_; clear hK K) | (intro bq hbq; (try simp only [HB] at hbq); refine hK _ _ ?_; clear hK K) | (refine ⟨?_, hK _ _ ?_⟩ <;> clear hK K; focus (try (first | omega | exact ⟨rfl, by decide⟩ | exact rfl))) | (refine ⟨_, ?_, hK _ _ ?_⟩ <;> clear hK K) | (refine Op1.callp rfl rfl (cs) rfl ?_; refine hK _ _ ?_; clear hK K) | skip))
   | (refine st rfl ?_)
   | (refine sc rfl ?_)
   | (refine nl ?_)
   | (refine gs rfl rfl ?_)
   | (refine gu rfl rfl ?_)
   | (refine ov ?_)
   | (with_reducible refine gt ?_ ?_; focus (simp (disch := omega) only [go_sem, Nat.reduceBEq, Nat.reduceAdd, Nat.reduceMul, Nat.reduceSub, Nat.reduceLeDiff, Int.reduceToNat, e1]; done))
   | (with_reducible refine gf ?_ ?_; focus (simp (disch := omega) only [go_sem, Nat.reduceBEq, Nat.reduceAdd, Nat.reduceMul, Nat.reduceSub, Nat.reduceLeDiff, Int.reduceToNat, e1]; done))
   | (with_reducible refine gsplit_intro (fun hc => ?_) (fun hc => ?_))
  rename_i b8 hb8
  have n1 : ¬ bq = b8 := hbq
  exact ret_ctt T rfl (by (try simp (disch := omega) only [hget_ne, hget_eq]); rfl) rfl rfl rfl (List.nil_sublist _) fz_cf03
 have e1 : decide (m < 1) = false := by simpa using h1
 by_cases h2 : m > 3
 ·have e2 : decide (m > 3) = true := by simpa using h2
  rw [bad (by omega)]
  repeat' first
   | (refine vb (t := 25) rfl rfl rfl rfl ?_)
   | (apply VC.drawM (id := 9) T 14 12 13 (s := 14) (ty := 43) rfl rfl rfl (by kernel_rfl) (by kernel_rfl) (by kernel_rfl) (by kernel_rfl))
   | (refine VCm.nil T ?_; simp only [allK, WB, Nat.reduceAdd, List.length_cons, List.length_nil, T43]; try (refine fun (bq : Nat) hbq => ?_; (try simp only [HB] at hbq)))
   | (apply VCm.step T (by rfl) (by rfl) rfl rfl; focus ((try simp (disch := omega) only [go_sem, Nat.reduceBEq, Nat.reduceAdd, Nat.reduceMul, Nat.reduceSub, Nat.reduceLeDiff, Int.reduceToNat, e1, e2]); (first | exact rfl | exact ⟨rfl, rfl⟩ | (refine ⟨?_, rfl⟩; try (first | omega | exact ⟨rfl, by decide⟩ | exact rfl)) | (refine Op1.callp rfl rfl (cs) rfl ?_; exact ⟨rfl, rfl⟩))))
   | (apply VCm.alloc T; (case h1 => rfl); (case hg => rfl); (case hop => rfl); (case hd => rfl); (case hk => rfl); (case hz => rfl))
   | (apply VCm.store T; (case h1 => rfl); (case h2 => rfl); (case hg => rfl); (case hd => rfl); (case hc => (intro b hb; (try simp (disch := omega) only [go_sem, Nat.reduceBEq, Nat.reduceAdd, Nat.reduceMul, Nat.reduceSub, Nat.reduceLeDiff, Int.reduceToNat, e1, e2]); first | omega | (refine ⟨?_, ?_⟩; focus (first | omega | exact ⟨rfl, by decide⟩ | exact rfl); exact ⟨rfl, rfl⟩) | exact rfl | exact ⟨rfl, rfl⟩)); (case hz => (first | rfl | (simp; done))))
   | (refine vs T rfl fun K hK => ?_; (try simp (disch := omega) only [go_sem, Nat.reduceBEq, Nat.reduceAdd, Nat.reduceMul, Nat.reduceSub, Nat.reduceLeDiff, Int.reduceToNat, e1, e2]); (first | (refine hK _ _ ?_; clear hK K) | (intro bq hbq; (try simp only [HB] at hbq); refine hK _ _ ?_; clear hK K) | (refine ⟨?_, hK _ _ ?_⟩ <;> clear hK K; focus (try (first | omega | exact ⟨rfl, by decide⟩ | exact rfl))) | (refine ⟨_, ?_, hK _ _ ?_⟩ <;> clear hK K) | (refine Op1.callp rfl rfl (cs) rfl ?_; refine hK _ _ ?_; clear hK K) | skip))
   | (refine st rfl ?_)
   | (refine sc rfl ?_)
   | (refine nl ?_)
   | (refine gs rfl rfl ?_)
   | (refine gu rfl rfl ?_)
   | (refine ov ?_)
   | (with_reducible refine gt ?_ ?_; focus (simp (disch := omega) only [go_sem, Nat.reduceBEq, Nat.reduceAdd, Nat.reduceMul, Nat.reduceSub, Nat.reduceLeDiff, Int.reduceToNat, e1, e2]; done))
   | (with_reducible refine gf ?_ ?_; focus (simp (disch := omega) only [go_sem, Nat.reduceBEq, Nat.reduceAdd, Nat.reduceMul, Nat.reduceSub, Nat.reduceLeDiff, Int.reduceToNat, e1, e2]; done))
   | (with_reducible refine gsplit_intro (fun hc => ?_) (fun hc => ?_))
  rename_i b8 hb8
  have n1 : ¬ bq = b8 := hbq
  exact ret_ctt T rfl (by (try simp (disch := omega) only [hget_ne, hget_eq]); rfl) rfl rfl rfl (List.nil_sublist _) fz_cf03
 have e2 : decide (m > 3) = false := by simpa using h2
 by_cases h3 : r < 1
 ·have e3 : decide (r < 1) = true := by simpa using h3
  rw [bad (by omega)]
  repeat' first
   | (refine vb (t := 25) rfl rfl rfl rfl ?_)
   | (apply VC.drawM (id := 9) T 14 12 13 (s := 14) (ty := 43) rfl rfl rfl (by kernel_rfl) (by kernel_rfl) (by kernel_rfl) (by kernel_rfl))
   | (refine VCm.nil T ?_; simp only [allK, WB, Nat.reduceAdd, List.length_cons, List.length_nil, T43]; try (refine fun (bq : Nat) hbq => ?_; (try simp only [HB] at hbq)))
   | (apply VCm.step T (by rfl) (by rfl) rfl rfl; focus ((try simp (disch := omega) only [go_sem, Nat.reduceBEq, Nat.reduceAdd, Nat.reduceMul, Nat.reduceSub, Nat.reduceLeDiff, Int.reduceToNat, e1, e2, e3]); (first | exact rfl | exact ⟨rfl, rfl⟩ | (refine ⟨?_, rfl⟩; try (first | omega | exact ⟨rfl, by decide⟩ | exact rfl)) | (refine Op1.callp rfl rfl (cs) rfl ?_; exact ⟨rfl, rfl⟩))))
   | (apply VCm.alloc T; (case h1 => rfl); (case hg => rfl); (case hop => rfl); (case hd => rfl); (case hk => rfl); (case hz => rfl))
   | (apply VCm.store T; (case h1 => rfl); (case h2 => rfl); (case hg => rfl); (case hd => rfl); (case hc => (intro b hb; (try simp (disch := omega) only [go_sem, Nat.reduceBEq, Nat.reduceAdd, Nat.reduceMul, Nat.reduceSub, Nat.reduceLeDiff, Int.reduceToNat, e1, e2, e3]); first | omega | (refine ⟨?_, ?_⟩; focus (first | omega | exact ⟨rfl, by decide⟩ | exact rfl); exact ⟨rfl, rfl⟩) | exact rfl | exact ⟨rfl, rfl⟩)); (case hz => (first | rfl | (simp; done))))
   | (refine vs T rfl fun K hK => ?_; (try simp (disch := omega) only [go_sem, Nat.reduceBEq, Nat.reduceAdd, Nat.reduceMul, Nat.reduceSub, Nat.reduceLeDiff, Int.reduceToNat, e1, e2, e3]); (first | (refine hK _ _ ?_; clear hK K) | (intro bq hbq; (try simp only [HB] at hbq); refine hK _ _ ?_; clear hK K) | (refine ⟨?_, hK _ _ ?_⟩ <;> clear hK K; focus (try (first | omega | exact ⟨rfl, by decide⟩ | exact rfl))) | (refine ⟨_, ?_, hK _ _ ?_⟩ <;> clear hK K) | (refine Op1.callp rfl rfl (cs) rfl ?_; refine hK _ _ ?_; clear hK K) | skip))
   | (refine st rfl ?_)
   | (refine sc rfl ?_)
   | (refine nl ?_)
   | (refine gs rfl rfl ?_)
   | (refine gu rfl rfl ?_)
   | (refine ov ?_)
   | (with_reducible refine gt ?_ ?_; focus (simp (disch := omega) only [go_sem, Nat.reduceBEq, Nat.reduceAdd, Nat.reduceMul, Nat.reduceSub, Nat.reduceLeDiff, Int.reduceToNat, e1, e2, e3]; done))
   | (with_reducible refine gf ?_ ?_; focus (simp (disch := omega) only [go_sem, Nat.reduceBEq, Nat.reduceAdd, Nat.reduceMul, Nat.reduceSub, Nat.reduceLeDiff, Int.reduceToNat, e1, e2, e3]; done))
   | (with_reducible refine gsplit_intro (fun hc => ?_) (fun hc => ?_))
  rename_i b8 hb8
  have n1 : ¬ bq = b8 := hbq
  exact ret_ctt T rfl (by (try simp (disch := omega) only [hget_ne, hget_eq]); rfl) rfl rfl rfl (List.nil_sublist _) fz_cf03
 have e3 : decide (r < 1) = false := by simpa using h3
 by_cases h4 : r > 4
 ·have e4 : decide (r > 4) = true := by simpa using h4
  rw [bad (by omega)]
  repeat' first
   | (refine vb (t := 25) rfl rfl rfl rfl ?_)
   | (apply VC.drawM (id := 9) T 14 12 13 (s := 14) (ty := 43) rfl rfl rfl (by kernel_rfl) (by kernel_rfl) (by kernel_rfl) (by kernel_rfl))
   | (refine VCm.nil T ?_; simp only [allK, WB, Nat.reduceAdd, List.length_cons, List.length_nil, T43]; try (refine fun (bq : Nat) hbq => ?_; (try simp only [HB] at hbq)))
   | (apply VCm.step T (by rfl) (by rfl) rfl rfl; focus ((try simp (disch := omega) only [go_sem, Nat.reduceBEq, Nat.reduceAdd, Nat.reduceMul, Nat.reduceSub, Nat.reduceLeDiff, Int.reduceToNat, e1, e2, e3, e4]); (first | exact rfl | exact ⟨rfl, rfl⟩ | (refine ⟨?_, rfl⟩; try (first | omega | exact ⟨rfl, by decide⟩ | exact rfl)) | (refine Op1.callp rfl rfl (cs) rfl ?_; exact ⟨rfl, rfl⟩))))
   | (apply VCm.alloc T; (case h1 => rfl); (case hg => rfl); (case hop => rfl); (case hd => rfl); (case hk => rfl); (case hz => rfl))
   | (apply VCm.store T; (case h1 => rfl); (case h2 => rfl); (case hg => rfl); (case hd => rfl); (case hc => (intro b hb; (try simp (disch := omega) only [go_sem, Nat.reduceBEq, Nat.reduceAdd, Nat.reduceMul, Nat.reduceSub, Nat.reduceLeDiff, Int.reduceToNat, e1, e2, e3, e4]); first | omega | (refine ⟨?_, ?_⟩; focus (first | omega | exact ⟨rfl, by decide⟩ | exact rfl); exact ⟨rfl, rfl⟩) | exact rfl | exact ⟨rfl, rfl⟩)); (case hz => (first | rfl | (simp; done))))
   | (refine vs T rfl fun K hK => ?_; (try simp (disch := omega) only [go_sem, Nat.reduceBEq, Nat.reduceAdd, Nat.reduceMul, Nat.reduceSub, Nat.reduceLeDiff, Int.reduceToNat, e1, e2, e3, e4]); (first | (refine hK _ _ ?_; clear hK K) | (intro bq hbq; (try simp only [HB] at hbq); refine hK _ _ ?_; clear hK K) | (refine ⟨?_, hK _ _ ?_⟩ <;> clear hK K; focus (try (first | omega | exact ⟨rfl, by decide⟩ | exact rfl))) | (refine ⟨_, ?_, hK _ _ ?_⟩ <;> clear hK K) | (refine Op1.callp rfl rfl (cs) rfl ?_; refine hK _ _ ?_; clear hK K) | skip))
   | (refine st rfl ?_)
   | (refine sc rfl ?_)
   | (refine nl ?_)
   | (refine gs rfl rfl ?_)
   | (refine gu rfl rfl ?_)
   | (refine ov ?_)
   | (with_reducible refine gt ?_ ?_; focus (simp (disch := omega) only [go_sem, Nat.reduceBEq, Nat.reduceAdd, Nat.reduceMul, Nat.reduceSub, Nat.reduceLeDiff, Int.reduceToNat, e1, e2, e3, e4]; done))
   | (with_reducible refine gf ?_ ?_; focus (simp (disch := omega) only [go_sem, Nat.reduceBEq, Nat.reduceAdd, Nat.reduceMul, Nat.reduceSub, Nat.reduceLeDiff, Int.reduceToNat, e1, e2, e3, e4]; done))
   | (with_reducible refine gsplit_intro (fun hc => ?_) (fun hc => ?_))
  rename_i b8 hb8
  have n1 : ¬ bq = b8 := hbq
  exact ret_ctt T rfl (by (try simp (disch := omega) only [hget_ne, hget_eq]); rfl) rfl rfl rfl (List.nil_sublist _) fz_cf03
 have e4 : decide (r > 4) = false := by simpa using h4
 have hok : okMR m r = true := by simp only [okMR, Bool.and_eq_true, decide_eq_true_eq]; omega
 rw [show repF u m r p = goF u m r (startC u) (p.drop 0) 0 by simp [repF, hU, hok]]
 have h0 := start_right hu hU (m := m) (r := r) (by omega) (by omega)
 generalize startC u = s0 at *
 repeat' first
  | (refine vb (t := 25) rfl rfl rfl rfl ?_)
  | (apply VC.drawM (id := 9) T 14 12 13 (s := 14) (ty := 43) rfl rfl rfl (by kernel_rfl) (by kernel_rfl) (by kernel_rfl) (by kernel_rfl))
  | (refine VCm.nil T ?_; simp only [allK, WB, Nat.reduceAdd, List.length_cons, List.length_nil, T43]; try (refine fun (bq : Nat) hbq => ?_; (try simp only [HB] at hbq)))
  | (apply VCm.step T (by rfl) (by rfl) rfl rfl; focus ((try simp (disch := omega) only [go_sem, Nat.reduceBEq, Nat.reduceAdd, Nat.reduceMul, Nat.reduceSub, Nat.reduceLeDiff, Int.reduceToNat, e1, e2, e3, e4, iRs_len]); (first | exact rfl | exact ⟨rfl, rfl⟩ | (refine ⟨?_, rfl⟩; try (first | omega | exact ⟨rfl, by decide⟩ | exact rfl)) | (refine Op1.callp rfl rfl (cs) rfl ?_; exact ⟨rfl, rfl⟩))))
  | (apply VCm.alloc T; (case h1 => rfl); (case hg => rfl); (case hop => rfl); (case hd => rfl); (case hk => rfl); (case hz => rfl))
  | (apply VCm.store T; (case h1 => rfl); (case h2 => rfl); (case hg => rfl); (case hd => rfl); (case hc => (intro b hb; (try simp (disch := omega) only [go_sem, Nat.reduceBEq, Nat.reduceAdd, Nat.reduceMul, Nat.reduceSub, Nat.reduceLeDiff, Int.reduceToNat, e1, e2, e3, e4, iRs_len]); first | omega | (refine ⟨?_, ?_⟩; focus (first | omega | exact ⟨rfl, by decide⟩ | exact rfl); exact ⟨rfl, rfl⟩) | exact rfl | exact ⟨rfl, rfl⟩)); (case hz => (first | rfl | (simp; done))))
  | (refine vs T rfl fun K hK => ?_; (try simp (disch := omega) only [go_sem, Nat.reduceBEq, Nat.reduceAdd, Nat.reduceMul, Nat.reduceSub, Nat.reduceLeDiff, Int.reduceToNat, e1, e2, e3, e4, iRs_len]); (first | (refine hK _ _ ?_; clear hK K) | (intro bq hbq; (try simp only [HB] at hbq); refine hK _ _ ?_; clear hK K) | (refine ⟨?_, hK _ _ ?_⟩ <;> clear hK K; focus (try (first | omega | exact ⟨rfl, by decide⟩ | exact rfl))) | (refine ⟨_, ?_, hK _ _ ?_⟩ <;> clear hK K) | (refine Op1.callp rfl rfl (cs) rfl ?_; refine hK _ _ ?_; clear hK K) | skip))
  | (refine st rfl ?_)
  | (refine sc rfl ?_)
  | (refine nl ?_)
  | (refine gs rfl rfl ?_)
  | (refine gu rfl rfl ?_)
  | (refine ov ?_)
  | (with_reducible refine gt ?_ ?_; focus (simp (disch := omega) only [go_sem, Nat.reduceBEq, Nat.reduceAdd, Nat.reduceMul, Nat.reduceSub, Nat.reduceLeDiff, Int.reduceToNat, e1, e2, e3, e4, iRs_len]; done))
  | (with_reducible refine gf ?_ ?_; focus (simp (disch := omega) only [go_sem, Nat.reduceBEq, Nat.reduceAdd, Nat.reduceMul, Nat.reduceSub, Nat.reduceLeDiff, Int.reduceToNat, e1, e2, e3, e4, iRs_len]; done))
  | (with_reducible refine gsplit_intro (fun hc => ?_) (fun hc => ?_))
 rename_i b8 hb8
 have n1 : ¬ bq = b8 := hbq
 clear bad cs hb8 hbq
 refine VC.loop {x : Nat × Cf // x.1 ≤ p.length ∧ goF u m r s0 (p.drop 0) 0 = goF u m r x.2 (p.drop x.1) x.1 ∧ Rt u x.2 m r} (fun x => ⟨lookD [(1, iD m), (2, iD r), (3, ints p), (4, .pt (unC u)), (8, pD b8), (11, pD bq), (13, iD (x.1.1 : Nat))], [(bq, .cells 43 4 (cfC x.1.2)), (b8, .cells 43 4 [.gs none 0, .gs none 0, .gs none 0, .gs none 0])]⟩) (fun x => p.length - x.1.1) ⟨(0, s0), by dsimp only; omega, rfl, h0⟩ ?_ ?_
 ·refine Weak.sub ?_
  simp [sub, upd]
 rintro ⟨⟨k, c⟩, hk, hg, h⟩
 dsimp only at hk hg h ⊢
 rw [hg]
 rcases Nat.lt_or_ge k p.length with hlt | hge
 case inr =>
  have hd : decide ((k : Int) < (p.length : Int)) = false := by simp; omega
  have hkp : k = p.length := by omega
  rw [goF_end hkp, hkp]
  rw [hkp] at hd
  repeat' first
   | (apply VC.drawM (id := 9) T 14 12 13 (s := 14) (ty := 43) rfl rfl rfl (by kernel_rfl) (by kernel_rfl) (by kernel_rfl) (by kernel_rfl))
   | (refine VCm.nil T ?_; simp only [allK, WB, Nat.reduceAdd, List.length_cons, List.length_nil, T43]; try (refine fun (bq : Nat) hbq => ?_; (try simp only [HB] at hbq)))
   | (apply VCm.step T (by rfl) (by rfl) rfl rfl; focus ((try simp (disch := omega) only [go_sem, Nat.reduceBEq, Nat.reduceAdd, Nat.reduceMul, Nat.reduceSub, Nat.reduceLeDiff, Int.reduceToNat, hd, iRs_len]); (first | exact rfl | exact ⟨rfl, rfl⟩ | (refine ⟨?_, rfl⟩; try (first | omega | exact ⟨rfl, by decide⟩ | exact rfl)))))
   | (apply VCm.alloc T; (case h1 => rfl); (case hg => rfl); (case hop => rfl); (case hd => rfl); (case hk => rfl); (case hz => rfl))
   | (apply VCm.store T; (case h1 => rfl); (case h2 => rfl); (case hg => rfl); (case hd => rfl); (case hc => (intro b hb; (try simp (disch := omega) only [go_sem, Nat.reduceBEq, Nat.reduceAdd, Nat.reduceMul, Nat.reduceSub, Nat.reduceLeDiff, Int.reduceToNat, hd, iRs_len]); first | omega | (refine ⟨?_, ?_⟩; focus (first | omega | exact ⟨rfl, by decide⟩ | exact rfl); exact ⟨rfl, rfl⟩) | exact rfl | exact ⟨rfl, rfl⟩)); (case hz => (first | rfl | (simp; done))))
   | (refine vs T rfl fun K hK => ?_; (try simp (disch := omega) only [go_sem, Nat.reduceBEq, Nat.reduceAdd, Nat.reduceMul, Nat.reduceSub, Nat.reduceLeDiff, Int.reduceToNat, hd, iRs_len]); (first | (refine hK _ _ ?_; clear hK K) | (intro bq hbq; (try simp only [HB] at hbq); refine hK _ _ ?_; clear hK K) | (refine ⟨?_, hK _ _ ?_⟩ <;> clear hK K; focus (try (first | omega | exact ⟨rfl, by decide⟩ | exact rfl))) | (refine ⟨_, ?_, hK _ _ ?_⟩ <;> clear hK K) | skip))
   | (refine st rfl ?_)
   | (refine sc rfl ?_)
   | (refine nl ?_)
   | (refine gs rfl rfl ?_)
   | (refine gu rfl rfl ?_)
   | (refine ov ?_)
   | (with_reducible refine gt ?_ ?_; focus (simp (disch := omega) only [go_sem, Nat.reduceBEq, Nat.reduceAdd, Nat.reduceMul, Nat.reduceSub, Nat.reduceLeDiff, Int.reduceToNat, hd, iRs_len]; done))
   | (with_reducible refine gf ?_ ?_; focus (simp (disch := omega) only [go_sem, Nat.reduceBEq, Nat.reduceAdd, Nat.reduceMul, Nat.reduceSub, Nat.reduceLeDiff, Int.reduceToNat, hd, iRs_len]; done))
   | (with_reducible refine gsplit_intro (fun hc => ?_) (fun hc => ?_))
  exact ret_ctt T rfl (by (try simp (disch := omega) only [hget_ne, hget_eq]); rfl) rfl rfl rfl (List.nil_sublist _) (Fz.refl _ _)
 have hd : decide ((k : Int) < (p.length : Int)) = true := by simp; omega
 have hw : IntKind.i64.wrap ((k : Int) + 1) = ((k + 1 : Nat) : Int) := by rw [w64 (by omega)]; omega
 obtain ⟨a, ha⟩ : ∃ a, p[k]? = some a := ⟨_, List.getElem?_eq_getElem hlt⟩
 have ra : (iRs p)[k]? = some [iD a] := by rw [iRs_at, ha]; rfl
 have ca := ractM_ok h a
 have hA := h.actM a
 cases hE : enM u c m r a with
 | false =>
  rw [hE] at ca
  rw [goF_no ha hE]
  repeat' first
   | (apply VC.drawM (id := 9) T 14 12 13 (s := 14) (ty := 43) rfl rfl rfl (by kernel_rfl) (by kernel_rfl) (by kernel_rfl) (by kernel_rfl))
   | (refine VCm.nil T ?_; simp only [allK, WB, Nat.reduceAdd, List.length_cons, List.length_nil, T43]; try (refine fun (bq : Nat) hbq => ?_; (try simp only [HB] at hbq)))
   | (apply VCm.step T (by rfl) (by rfl) rfl rfl; focus ((try simp (disch := omega) only [go_sem, Nat.reduceBEq, Nat.reduceAdd, Nat.reduceMul, Nat.reduceSub, Nat.reduceLeDiff, Int.reduceToNat, hd, hw, ra, iRs_len, Bool.not_false]); (first | exact rfl | exact ⟨rfl, rfl⟩ | (refine ⟨?_, rfl⟩; try (first | omega | exact ⟨rfl, by decide⟩ | exact rfl)) | (refine Op1.callp rfl rfl (ca) rfl ?_; exact ⟨rfl, rfl⟩))))
   | (apply VCm.alloc T; (case h1 => rfl); (case hg => rfl); (case hop => rfl); (case hd => rfl); (case hk => rfl); (case hz => rfl))
   | (apply VCm.store T; (case h1 => rfl); (case h2 => rfl); (case hg => rfl); (case hd => rfl); (case hc => (intro b hb; (try simp (disch := omega) only [go_sem, Nat.reduceBEq, Nat.reduceAdd, Nat.reduceMul, Nat.reduceSub, Nat.reduceLeDiff, Int.reduceToNat, hd, hw, ra, iRs_len, Bool.not_false]); first | omega | (refine ⟨?_, ?_⟩; focus (first | omega | exact ⟨rfl, by decide⟩ | exact rfl); exact ⟨rfl, rfl⟩) | exact rfl | exact ⟨rfl, rfl⟩)); (case hz => (first | rfl | (simp; done))))
   | (refine vs T rfl fun K hK => ?_; (try simp (disch := omega) only [go_sem, Nat.reduceBEq, Nat.reduceAdd, Nat.reduceMul, Nat.reduceSub, Nat.reduceLeDiff, Int.reduceToNat, hd, hw, ra, iRs_len, Bool.not_false]); (first | (refine hK _ _ ?_; clear hK K) | (intro bq hbq; (try simp only [HB] at hbq); refine hK _ _ ?_; clear hK K) | (refine ⟨?_, hK _ _ ?_⟩ <;> clear hK K; focus (try (first | omega | exact ⟨rfl, by decide⟩ | exact rfl))) | (refine ⟨_, ?_, hK _ _ ?_⟩ <;> clear hK K) | (refine Op1.callp rfl rfl (ca) rfl ?_; refine hK _ _ ?_; clear hK K) | skip))
   | (refine st rfl ?_)
   | (refine sc rfl ?_)
   | (refine nl ?_)
   | (refine gs rfl rfl ?_)
   | (refine gu rfl rfl ?_)
   | (refine ov ?_)
   | (with_reducible refine gt ?_ ?_; focus (simp (disch := omega) only [go_sem, Nat.reduceBEq, Nat.reduceAdd, Nat.reduceMul, Nat.reduceSub, Nat.reduceLeDiff, Int.reduceToNat, hd, hw, ra, iRs_len, Bool.not_false]; done))
   | (with_reducible refine gf ?_ ?_; focus (simp (disch := omega) only [go_sem, Nat.reduceBEq, Nat.reduceAdd, Nat.reduceMul, Nat.reduceSub, Nat.reduceLeDiff, Int.reduceToNat, hd, hw, ra, iRs_len, Bool.not_false]; done))
   | (with_reducible refine gsplit_intro (fun hc => ?_) (fun hc => ?_))
  have n2 : ¬ bq = b8 := by simp_all
  exact ret_ctt T rfl (by (try simp (disch := omega) only [hget_ne, hget_eq]); rfl) rfl rfl rfl (List.nil_sublist _) (Fz.refl _ _)
 | true =>
  rw [hE] at ca
  rw [← hg]
  have hg2 := hg.trans (goF_yes ha hE)
  generalize actM u c m r a = d at *
  repeat' first
   | (apply VC.drawM (id := 9) T 14 12 13 (s := 14) (ty := 43) rfl rfl rfl (by kernel_rfl) (by kernel_rfl) (by kernel_rfl) (by kernel_rfl))
   | (refine VCm.nil T ?_; simp only [allK, WB, Nat.reduceAdd, List.length_cons, List.length_nil, T43]; try (refine fun (bq : Nat) hbq => ?_; (try simp only [HB] at hbq)))
   | (apply VCm.step T (by rfl) (by rfl) rfl rfl; focus ((try simp (disch := omega) only [go_sem, Nat.reduceBEq, Nat.reduceAdd, Nat.reduceMul, Nat.reduceSub, Nat.reduceLeDiff, Int.reduceToNat, hd, hw, ra, iRs_len, Bool.not_true]); (first | exact rfl | exact ⟨rfl, rfl⟩ | (refine ⟨?_, rfl⟩; try (first | omega | exact ⟨rfl, by decide⟩ | exact rfl)) | (refine Op1.callp rfl rfl (ca) rfl ?_; exact ⟨rfl, rfl⟩))))
   | (apply VCm.alloc T; (case h1 => rfl); (case hg => rfl); (case hop => rfl); (case hd => rfl); (case hk => rfl); (case hz => rfl))
   | (apply VCm.store T; (case h1 => rfl); (case h2 => rfl); (case hg => rfl); (case hd => rfl); (case hc => (intro b hb; (try simp (disch := omega) only [go_sem, Nat.reduceBEq, Nat.reduceAdd, Nat.reduceMul, Nat.reduceSub, Nat.reduceLeDiff, Int.reduceToNat, hd, hw, ra, iRs_len, Bool.not_true]); first | omega | (refine ⟨?_, ?_⟩; focus (first | omega | exact ⟨rfl, by decide⟩ | exact rfl); exact ⟨rfl, rfl⟩) | exact rfl | exact ⟨rfl, rfl⟩)); (case hz => (first | rfl | (simp; done))))
   | (refine vs T rfl fun K hK => ?_; (try simp (disch := omega) only [go_sem, Nat.reduceBEq, Nat.reduceAdd, Nat.reduceMul, Nat.reduceSub, Nat.reduceLeDiff, Int.reduceToNat, hd, hw, ra, iRs_len, Bool.not_true]); (first | (refine hK _ _ ?_; clear hK K) | (intro bq hbq; (try simp only [HB] at hbq); refine hK _ _ ?_; clear hK K) | (refine ⟨?_, hK _ _ ?_⟩ <;> clear hK K; focus (try (first | omega | exact ⟨rfl, by decide⟩ | exact rfl))) | (refine ⟨_, ?_, hK _ _ ?_⟩ <;> clear hK K) | (refine Op1.callp rfl rfl (ca) rfl ?_; refine hK _ _ ?_; clear hK K) | skip))
   | (refine st rfl ?_)
   | (refine sc rfl ?_)
   | (refine nl ?_)
   | (refine gs rfl rfl ?_)
   | (refine gu rfl rfl ?_)
   | (refine ov ?_)
   | (with_reducible refine gt ?_ ?_; focus (simp (disch := omega) only [go_sem, Nat.reduceBEq, Nat.reduceAdd, Nat.reduceMul, Nat.reduceSub, Nat.reduceLeDiff, Int.reduceToNat, hd, hw, ra, iRs_len, Bool.not_true]; done))
   | (with_reducible refine gf ?_ ?_; focus (simp (disch := omega) only [go_sem, Nat.reduceBEq, Nat.reduceAdd, Nat.reduceMul, Nat.reduceSub, Nat.reduceLeDiff, Int.reduceToNat, hd, hw, ra, iRs_len, Bool.not_true]; done))
   | (with_reducible refine gsplit_intro (fun hc => ?_) (fun hc => ?_))
  refine ⟨⟨(k + 1, d), by dsimp only; omega, hg2, hA⟩, Weak.subH (List.sublist_cons_self _ _) ?_, by dsimp only; omega⟩
  simp [sub, upd]
section
variable {u : Un} {c : Cf} {m r : Int} (b : Nat)
end
end Go.Proofs.YtomcmfbpmkklmaaGreat
/- Calls through method values. No condition. -/
namespace Go.Vc
set_option maxHeartbeats 16000000
set_option linter.unusedSimpArgs false
set_option linter.unusedVariables false
open Go
end Go.Vc
/- Contracts: what is seen on a circle. No condition. -/
namespace Go.Proofs.YtomcmfbpmkklmaaGreat
set_option maxHeartbeats 16000000
set_option linter.unusedSimpArgs false
set_option linter.unusedVariables false
set_option maxRecDepth 20000
open Go Go.Proofs Go.Vc
attribute [local irreducible] retQ VCg VCw VCx
theorem goF_rt {u : Un} {m r : Int} : ∀ (p : List Int) (c : Cf) (k : Nat), Rt u c m r → Rt u (goF u m r c p k).1 m r
 | [], c, k, h => h
 | a :: p, c, k, h => by
  unfold goF
  cases enM u c m r a with
  | true => exact goF_rt p _ _ (h.actM a)
  | false => exact h
theorem repF_rt {u : Un} (hu : OkU u) {m r : Int} {p : List Int} (h : ((repF u m r p).2.2 == 0) = true) : Rt u (repF u m r p).1 m r := by
 cases hU : unitB u with
 | false => simp [repF, hU] at h
 | true =>
  cases hM : okMR m r with
  | false => simp [repF, hU, hM] at h
  | true =>
   rw [show repF u m r p = goF u m r (startC u) p 0 by simp [repF, hU, hM]]
   simp only [okMR, Bool.and_eq_true, decide_eq_true_eq] at hM
   exact goF_rt _ _ _ (start_right hu hU (by omega) (by omega))
section
variable {u : Un} {c : Cf} {m r : Int}
end
end Go.Proofs.YtomcmfbpmkklmaaGreat
