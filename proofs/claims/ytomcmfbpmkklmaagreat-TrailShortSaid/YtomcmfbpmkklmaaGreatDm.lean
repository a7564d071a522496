/- Slices of one's own that begin at any place of their block: made, read, cut, appended to. No condition. -/
import Derived.Test.YtomcmfbpmkklmaaGreatK2
namespace Go.Vc
set_option linter.unusedSimpArgs false
set_option linter.unusedVariables false
open Go
theorem r_indexO {P : Program} (T : Tab P) {o : Oper} {E : Operand → D} {H : Heap} {K : D → Heap → Prop} {t : TypeId} {x i : Operand} {e : TypeId} {esz eb : Nat} {ea : Bool} {ez : List Value} {b f n cap : Nat} {ik : IntKind} {k : Int}
  (ho : o.op = .indexAddr t x i) (hkd : kdT (T.get t) = .slice e esz eb ea ez) (hx0 : E x = .os b f n cap) (hi0 : E i = .is (.int ik k)) (hn : 0 ≤ k ∧ k < n) (hk : K (.is (.pointer (some ⟨b, f + k.toNat * esz, none⟩))) H) : Op1 P o E H K := by
 obtain ⟨hu, hkn, hsz, _⟩ := kd_slice T hkd
 obtain ⟨d, inf, z, h1, h2, h3, h4, _⟩ := knOf_facts hkn
 rw [hsz] at h4
 refine Op1.value (d := .is (.pointer (some ⟨b, f + k.toNat * esz, none⟩))) (fun w L0 ε hi hx => ?_) hk
 have q1 := hx x (by simp [ho, Op.operands])
 have q2 := hx i (by simp [ho, Op.operands])
 rw [hx0, Rel] at q1
 rw [hi0] at q2
 obtain ⟨f', hv, hc, hf⟩ := q1
 obtain rfl : f' = f := hf (by omega)
 have q2 : ε i = .int ik k := q2
 refine ⟨_, ?_, rfl⟩
 simp only [execOp, ho, hv, q2, Instr.indexAt]
 refine (run_bind (a := .pointer (some ⟨b, f' + k.toNat * esz, none⟩)) (w' := w) ?_).trans rfl
 refine (run_bind (a := (ik, k)) (w' := w) rfl).trans ?_
 simp only
 rw [run_bind (run_underlying hu w)]
 simp only
 refine (run_bind (a := (some (⟨b, f', none⟩ : Addr), n, e)) (w' := w) rfl).trans ?_
 simp only
 rw [run_bind (run_underlying hu w)]
 simp only
 rw [if_pos ⟨hn.1, hn.2⟩, run_bind (run_sz h2 w), h4, add0]
 rfl
theorem r_sliceO {P : Program} (T : Tab P) {o : Oper} {E : Operand → D} {H : Heap} {K : D → Heap → Prop} {t : TypeId} {x lo : Operand} {e : TypeId} {esz eb : Nat} {ea : Bool} {ez : List Value} {b f n cap k : Nat}
  (ho : o.op = .slice t x (some lo) none none) (hkd : kdT (T.get t) = .slice e esz eb ea ez) (hx0 : E x = .os b f n cap) (hl0 : E lo = .is (.int .i64 k)) (hn : k ≤ n) (hk : K (.os b (f + k * esz) (n - k) (cap - k)) H) : Op1 P o E H K := by
 obtain ⟨hu, hkn, hsz, _⟩ := kd_slice T hkd
 obtain ⟨d, inf, z, h1, h2, h3, h4, _⟩ := knOf_facts hkn
 rw [hsz] at h4
 refine Op1.value (d := .os b (f + k * esz) (n - k) (cap - k)) (fun w L0 ε hi hx => ?_) hk
 have q1 := hx x (by simp [ho, Op.operands])
 have q2 := hx lo (by simp [ho, Op.operands])
 rw [hx0, Rel] at q1
 rw [hl0] at q2
 obtain ⟨f', hv, hc, hf⟩ := q1
 have q2 : ε lo = .int .i64 k := q2
 have hr := run_slice_sl (P := P) (w := w) (a := some ⟨b, f', none⟩) (len := n) (cap := cap) hu h2 h4 (lo := some (.int .i64 k)) (hi := none) (mx := none) (by simp) trivial trivial
  (by simp only [vC, vV]; omega)
 simp only [vV, Option.map_some, add0] at hr
 have hk0 : (k : Int).toNat = k := by omega
 simp only [hk0] at hr
 refine ⟨.slice (if cap = k then some ⟨b, f', none⟩ else some ⟨b, f' + k * esz, none⟩) (n - k) (cap - k), ?_, ?_⟩
 ·simp only [execOp, ho, hv, q2, Option.map_some, Option.map_none]
  exact (run_bind (a := .slice (if cap = k then some ⟨b, f', none⟩ else some ⟨b, f' + k * esz, none⟩) (n - k) (cap - k)) (w' := w) hr).trans rfl
 ·rw [Rel]
  by_cases h : cap = k
  ·exact ⟨f', by rw [if_pos h], by omega, fun h => by omega⟩
  ·exact ⟨_, by rw [if_neg h], by omega, fun _ => by rw [hf (by omega)]⟩
theorem run_append_roomO {P : Program} {w : World} (t ty e : TypeId) (i : TypeInfo) (ht : P.underlying t = some (.slice e)) (hi : P.info? e = some i)
  (g f sLen sCap : Nat) (cur : Array Value) (hg : w.heap[g]? = some (.cells cur e (0, 0)))
  (a : Addr) (m c : Nat) (news : List Value) (hl : news.length = m * i.size) (hnews : ∀ (j : Nat) u, news[j]? = some u → w.cell? (a.add j) = some u) (h1 : ∀ u ∈ news, u.oneCell' = true)
  (hroom : sLen + m ≤ sCap) (hfit : f + sLen * i.size + news.length ≤ cur.size) :
  (Builtin.append_ #[t, t] ty #[.slice (some ⟨g, f, none⟩) sLen sCap, .slice (some a) m c]).run P w =
   .ok (.slice (some ⟨g, f, none⟩) (sLen + m) sCap) (w.setRow g (cur.toList.take (f + sLen * i.size) ++ news ++ cur.toList.drop (f + sLen * i.size + news.length)).toArray) := by
 have hf := run_firstCells_some (P := P) w i.size m a m c news hl hnews
 have hst := run_storeCells_at P g (f + sLen * i.size) e news 0 cur w hg (by simpa using hfit) h1
 simp only [Nat.add_zero] at hst
 simp [Builtin.append_, run_underlying ht, sizeOf, typeInfo, hi, Builtin.lenOf, hroom, hf, Addr.add_lit, hst]
theorem r_appO {P : Program} (T : Tab P) {o : Oper} {E : Operand → D} {X : Heap} {K : D → Heap → Prop} {s x : Operand} {t e : TypeId} {esz eb : Nat} {ea : Bool} {ez : List Value} {b f n cap m : Nat} {l news : List D}
  (ho : o.op = .call ⟨.builtin .append, #[s, x], #[t, t]⟩) (hkd : kdT (T.get t) = .slice e esz eb ea ez) (hs0 : E s = .os b f n cap) (hl : l.length = f + n * esz)
  (hsrc : srcOk esz (E x) ((b, .cells e (f + cap * esz) l) :: X) news m) (hm : 0 < m) (hb : 0 < esz ∧ 0 < eb ∧ (n + m) * eb ≤ 140737488355328)
  (hk : ∀ b' pre cap', n + m ≤ cap' → K (.os b' pre.length (n + m) cap') ((b', .cells e (pre.length + cap' * esz) (pre ++ (l.drop f ++ news))) :: X)) :
  Op1 P o E ((b, .cells e (f + cap * esz) l) :: X) K := by
 obtain ⟨hu, hkn, hsz, hbt, _, hze⟩ := kd_slice T hkd
 obtain ⟨d, inf, z, h1, h2, h3, h4, _, h6, h7, h8⟩ := knOf_facts hkn
 rw [hsz] at h4 h7
 rw [hze] at h6 h7
 rw [hbt] at h8
 have hzs : z.cells.size = esz := by rw [← Array.length_toList, h6, h7]
 obtain ⟨he0, hb0, hbig⟩ := hb
 have hnm : n + m ≤ 140737488355328 := Nat.le_trans (Nat.le_mul_of_pos_right _ hb0) hbig
 refine ⟨fun d' H' => ∃ b' pre cap', n + m ≤ cap' ∧ d' = .os b' pre.length (n + m) cap' ∧ H' = (b', .cells e (pre.length + cap' * esz) (pre ++ (l.drop f ++ news))) :: X, ?_, fun d' H' ⟨b', pre, cap', k1, k3, k4⟩ => k3 ▸ k4 ▸ hk b' pre cap' k1⟩
 intro w L0 ε hi hx
 have run : ∀ (w' : World) (v r : Value), ε s = v → (Builtin.append_ #[t, t] o.type #[v, ε x]).run P w = .ok r w' → (execOp ε o).run P w = .ok (.value r) w' := by
  intro w' v r h1 h2
  exact run_builtin ho (s := Builtin.append_ #[t, t] o.type (#[s, x].map ε)) rfl (by rw [← h1] at h2; simpa using h2)
 have hx1 := hx s (by simp [ho, Op.operands, Call.operands])
 have hx2 := hx x (by simp [ho, Op.operands, Call.operands])
 rw [hs0, Rel] at hx1
 obtain ⟨f', hv, hnc, hff⟩ := hx1
 obtain ⟨nv, k1, k2, k3, k4⟩ := src_spec hi hsrc hx2
 have hnvl := RelL.length _ _ k1
 have hnv1 := RelL.one _ _ k2 k1
 rcases k4 with ⟨hm0, _⟩ | ⟨ad, c, hxv, hcell⟩
 ·omega
 obtain ⟨hl1, arr, hbk, hsize, hrel⟩ := hi.rel b _ (List.mem_cons_self ..)
 have hll := RelL.length _ _ hrel
 have hrel' : RelL w (live ((b, .cells e (f + cap * esz) l) :: X) L0) (l.drop f) ((arr.toList.take l.length).drop f) := RelL.drop _ _ _ hrel
 by_cases hroom : n + m ≤ cap
 ·obtain rfl : f' = f := hff (by omega)
  have hfit : f' + n * inf.size + nv.length ≤ arr.size := by
   rw [hnvl, k3, hsize, h4, Nat.add_assoc, ← Nat.add_mul]; exact Nat.add_le_add_left (Nat.mul_le_mul_right _ hroom) _
  have hr := run_append_roomO (P := P) t o.type e inf hu h2 b f' n cap arr hbk ad m c nv (by rw [hnvl, k3, h4]) hcell hnv1 hroom hfit
  rw [run _ _ _ hv (by rw [hxv]; exact hr)]
  have hbm : b ∈ Heap.blocks ((b, .cells e (f' + cap * esz) l) :: X) := List.mem_map.2 ⟨_, List.mem_cons_self .., rfl⟩
  have hset : hset ((b, .cells e (f' + cap * esz) l) :: X) b (.cells e (f' + cap * esz) (l ++ news)) = (b, .cells e (f' + cap * esz) (l ++ news)) :: X := by simp only [Vc.hset, beq_self_eq_true, cond_true]
  have hsp : (l.take f') ++ (l.drop f' ++ news) = l ++ news := by rw [← List.append_assoc, List.take_append_drop]
  have htl : (l.take f').length = f' := by rw [List.length_take, hl]; omega
  have hke : Keeps w (live ((b, .cells e (f' + cap * esz) l) :: X) L0) (w.setRow b (arr.toList.take (f' + n * inf.size) ++ nv ++ arr.toList.drop (f' + n * inf.size + nv.length)).toArray) (live ((b, .cells e (f' + cap * esz) l) :: X) L0) :=
   fun k hk1 hn => ⟨setRow_other w b k _ (fun e => hn (.inr (e ▸ hbm))), hn⟩
  refine ⟨_, _, ⟨b, l.take f', cap, hroom, rfl, rfl⟩, ?_, ?_, ?_⟩
  ·rw [htl, Rel]; exact ⟨f', rfl, hroom, fun _ => rfl⟩
  ·rw [htl, hsp, ← hset]
   refine HInv.set hi hbm (by simp [World.setRow]) (fun k hne hk1 => setRow_other w b k _ hne) ⟨by rw [List.all_append, hl1, k2]; rfl, _, setRow_heap w b arr _ e _ hbk, ?_, ?_⟩
   ·simp only [List.size_toArray, List.length_append, List.length_take, List.length_drop, Array.length_toList]
    rw [h4] at hfit ⊢
    omega
   ·have e1 : (arr.toList.take (f' + n * inf.size) ++ nv ++ arr.toList.drop (f' + n * inf.size + nv.length)).toArray.toList.take (l ++ news).length = arr.toList.take l.length ++ nv := by
     have hlt : (arr.toList.take (f' + n * inf.size)).length = f' + n * esz := by
      rw [List.length_take, Array.length_toList, h4]; rw [h4] at hfit; omega
     rw [h4] at hlt ⊢
     rw [hl, show (l ++ news).length = (arr.toList.take (f' + n * esz) ++ nv).length by rw [List.length_append, List.length_append, hlt, hl, hnvl]]
     exact List.take_left
    rw [e1]
    exact RelL.append _ _ _ _ (RelL.mono hke _ _ hrel) (RelL.mono hke _ _ k1)
  ·exact evo_setRow hbm _ (by simp [Heap.blocks])
 ·have holen : ((arr.toList.take l.length).drop f).length = n * esz := by rw [List.length_drop, hll, hl]; omega
  have holds : ∀ (j : Nat) u, ((arr.toList.take l.length).drop f)[j]? = some u → w.cell? ((⟨b, f', none⟩ : Addr).add j) = some u := by
   intro j u hu
   have hj : j < n * esz := by
    rcases Nat.lt_or_ge j (n * esz) with h | h
    ·exact h
    ·rw [List.getElem?_eq_none (by omega)] at hu; cases hu
   have hn0 : n ≠ 0 := fun h => by rw [h, Nat.zero_mul] at hj; omega
   obtain rfl : f' = f := hff (by omega)
   rw [List.getElem?_drop, List.getElem?_take] at hu
   split at hu
   ·rw [add0, cell_of_row w b _ arr e (0, 0) hbk]; simpa using hu
   ·cases hu
  have hr := run_append_grow (P := P) w t o.type e inf z hu h2 h3 ⟨b, f', none⟩ n cap ((arr.toList.take l.length).drop f) (by rw [holen, h4]) holds ad m c nv (by rw [hnvl, k3, h4]) hcell (by omega) (by omega)
   (by rw [h8]; exact growslice_fits (by omega) hbig)
  have hsub : X.Sublist ((b, .cells e (f + cap * esz) l) :: X) := List.sublist_cons_self _ _
  have hi0 : HInv w L0 X := SubH.inv hsub hi
  have hk0 := SubH.live hsub w L0
  obtain ⟨g1, g2⟩ := grown_inv (n := n) (m := m) (cap := grownCap w (n + m) cap e) (e := e) (esz := esz) (olds := (arr.toList.take l.length).drop f) (news := nv) (lo := l.drop f) (ln := news) (z := z) hi0
   (RelL.mono hk0 _ _ hrel') (RelL.mono hk0 _ _ k1) (all_drop hl1 _) k2 (by rw [List.length_drop, hl]; omega) k3 hzs (grownCap_ge w (n + m) cap e) (w' := _) rfl
  rw [run _ _ _ hv (by rw [hxv]; exact hr)]
  refine ⟨_, _, ⟨w.heap.size, [], grownCap w (n + m) cap e, grownCap_ge w (n + m) cap e, rfl, rfl⟩, ?_, ?_, ?_⟩
  ·rw [Rel]; exact ⟨0, rfl, grownCap_ge w (n + m) cap e, fun _ => rfl⟩
  ·simpa using g1
  ·exact ⟨g2.os, g2.tape, g2.output, g2.size, fun k hk1 hn => g2.block k hk1 (fun h => hn (SubH.blocks hsub k h)), fun k hk1 => (g2.fresh k hk1).imp (SubH.blocks hsub k) id⟩
theorem r_buildX {P : Program} (T : Tab P) {o : Oper} {E : Operand → D} {H : Heap} {K : D → Heap → Prop} {t : TypeId} {n : Nat} {ps : List (Nat × Operand)} {e : TypeId} {esz eb : Nat} {ea : Bool} {ez : List Value} {l : List D} (dX : Nat → D) (hdr : ∀ w L b, Rel w L (dX b) (.slice (some ⟨b, 0, none⟩) n n)) (ho : o.op = .buildSlice t n ps.toArray)
  (hkd : kdT (T.get t) = .slice e esz eb ea ez) (hl : fillD (fun i => some (i * esz, esz)) ((List.replicate n (ez.map constD)).flatten) (ps.map fun p => (p.1, E p.2)) = some l) (hone : l.all oneD = true) (hbig : n * esz ≤ 16777216)
  (hk : ∀ b, b ∉ H.blocks → K (dX b) ((b, .cells e (n * esz) l) :: H)) : Op1 P o E H K := by
 obtain ⟨hu, hkn, hsz, _, _, hze⟩ := kd_slice T hkd
 obtain ⟨d, inf, z, h1, h2, h3, h4, _, h6, h7, _⟩ := knOf_facts hkn
 rw [hsz] at h4 h7
 rw [hze] at h6 h7
 have hzs : z.cells.size = esz := by rw [← Array.length_toList, h6, h7]
 refine ⟨fun d' H' => ∃ b, b ∉ H.blocks ∧ d' = dX b ∧ H' = (b, .cells e (n * esz) l) :: H, ?_, fun _ _ ⟨b, h0, h1, h2⟩ => h1 ▸ h2 ▸ hk b h0⟩
 intro w L0 ε hi hx
 have hmem : ∀ i x, (i, x) ∈ ps → Rel w (live H L0) (E x) (ε x) := fun i x hm => hx x (by
  simp only [ho, Op.operands, List.mem_toArray, List.mem_map]
  exact ⟨(i, x), hm, rfl⟩)
 have hz0 : RelL w (live H L0) ((List.replicate n (ez.map constD)).flatten) ((Array.range (n * esz)).map (z.cells[· % z.cells.size]!)).toList := by
  rw [← hzs, zeros_toList, h6]
  exact map_constD_flat _ _ _ _
 obtain ⟨a', hf, hr, hs⟩ := fill_spec (ε := ε) ps _ _ l hmem hl hz0
 have hs' : a'.size = n * esz := by rw [hs]; simp
 have hll : l.length = n * esz := by rw [← RelL.length _ _ hr, Array.length_toList, hs']
 have hrun : (execOp ε o).run P w = .ok (.value (.slice (some ⟨w.heap.size, 0, none⟩) n n)) (w.alloc (.cells a' e)) := by
  simp only [execOp, ho, Instr.buildSlice]
  refine (run_bind (a := .slice (some ⟨w.heap.size, 0, none⟩) n n) (w' := w.alloc (.cells a' e)) ?_).trans rfl
  rw [run_bind (run_underlying hu w)]
  simp only
  rw [run_bind (run_sz h2 w), h4]
  rw [if_neg (by omega)]
  have hzv : (zeroValue e).run P w = .ok z w := by unfold zeroValue; rw [run_bind (run_info h2 w), h3]; rfl
  simp only [List.map_toArray] at hf ⊢
  by_cases hz0 : n * esz = 0
  ·rw [if_pos hz0, run_bind run_pure]
   rw [show (Array.map (fun x => (#[] : Array Value)[x % (#[] : Array Value).size]!) (Array.range (n * esz))) = Array.map (fun x => z.cells[x % z.cells.size]!) (Array.range (n * esz)) by simp [hz0], hf]
   rfl
  ·rw [if_neg hz0, run_bind hzv, run_bind run_pure, hf]
   rfl
 rw [hrun]
 have hnew : (w.alloc (.cells a' e)).heap[w.heap.size]? = some (.cells a' e) := heap_alloc_new w _
 have hnb : w.heap.size ∉ H.blocks := fun h => by have := hi.lt h; omega
 have hevo : Evo w H (w.alloc (.cells a' e)) ((w.heap.size, .cells e (n * esz) l) :: H) := evo_alloc w H (.cells a' e) (.cells e (n * esz) l)
 refine ⟨_, _, ⟨w.heap.size, hnb, rfl, rfl⟩, ?_, ?_, hevo⟩
 ·exact hdr _ _ _
 ·refine HInv.new hi hevo.size (fun k hk => alloc_old w _ k hk) (Nat.le_refl _) ⟨hone, _, hnew, hs', ?_⟩
  rw [show a'.toList.take l.length = a'.toList by rw [hll, ← hs', ← Array.length_toList, List.take_length]]
  refine RelL.mono (fun k hk1 hn => ⟨alloc_old w _ k hk1, fun h => ?_⟩) _ _ hr
  rcases h with h | h
  ·exact hn (.inl h)
  ·simp only [Heap.blocks, List.map_cons, List.mem_cons] at h
   rcases h with h | h
   ·omega
   ·exact hn (.inr h)
theorem r_buildO {P : Program} (T : Tab P) {o : Oper} {E : Operand → D} {H : Heap} {K : D → Heap → Prop} {t : TypeId} {n : Nat} {ps : List (Nat × Operand)} {e : TypeId} {esz eb : Nat} {ea : Bool} {ez : List Value} {l : List D} (ho : o.op = .buildSlice t n ps.toArray)
  (hkd : kdT (T.get t) = .slice e esz eb ea ez) (hl : fillD (fun i => some (i * esz, esz)) ((List.replicate n (ez.map constD)).flatten) (ps.map fun p => (p.1, E p.2)) = some l) (hone : l.all oneD = true) (hbig : n * esz ≤ 16777216)
  (hk : ∀ b, b ∉ H.blocks → K (.os b 0 n n) ((b, .cells e (n * esz) l) :: H)) : Op1 P o E H K :=
 r_buildX T (fun b => .os b 0 n n) (fun w L b => by rw [Rel]; exact ⟨0, rfl, Nat.le_refl _, fun _ => rfl⟩) ho hkd hl hone hbig hk
theorem r_buildG {P : Program} (T : Tab P) {o : Oper} {E : Operand → D} {H : Heap} {K : D → Heap → Prop} {t : TypeId} {n : Nat} {ps : List (Nat × Operand)} {e : TypeId} {esz eb : Nat} {ea : Bool} {ez : List Value} {l : List D} (ho : o.op = .buildSlice t n ps.toArray)
  (hkd : kdT (T.get t) = .slice e esz eb ea ez) (hl : fillD (fun i => some (i * esz, esz)) ((List.replicate n (ez.map constD)).flatten) (ps.map fun p => (p.1, E p.2)) = some l) (hone : l.all oneD = true) (hbig : n * esz ≤ 16777216)
  (hk : ∀ b, b ∉ H.blocks → K (.gs (some (b, n)) n) ((b, .cells e (n * esz) l) :: H)) : Op1 P o E H K :=
 r_buildX T (fun b => .gs (some (b, n)) n) (fun w L b => sv_rel w L (some (b, n)) n (Nat.le_refl _)) ho hkd hl hone hbig hk
theorem r_lookJ {P : Program} {o : Oper} {E : Operand → D} {H : Heap} {K : D → Heap → Prop} {t kt et : TypeId} {k : IntKind} {m x : Operand} {b : Nat} {l : List (Int × Value)} {n : Int} {r : Value}
  (ho : o.op = .lookup t m x false) (hu : P.underlying t = some (.map kt et)) (hkt : P.underlying kt = some (.int k)) (hm : E m = .is (.map (some b))) (hx0 : E x = .is (.int .i64 n))
  (hg : hget H b = some (.obj (mapI l))) (hf : findI n l = some r) (hone : ∀ cs, r = .agg cs → cs.toList.all Value.oneCell' = true)
  (hk : K (valD r) H) : Op1 P o E H K := by
 have hmem := hget_mem hg
 refine Op1.value (d := valD r) (fun w L0 ε hi hx => ?_) hk
 have r1 := hx m (by simp [ho, Op.operands])
 have r2 := hx x (by simp [ho, Op.operands])
 rw [hm] at r1; rw [hx0] at r2
 have r1' : ε m = .map (some b) := r1
 have r2' : ε x = .int .i64 n := r2
 have hob : w.heap[b]? = some (mapI l) := hi.rel _ _ hmem
 obtain ⟨p, hp1, hp2⟩ := run_findKey_I hkt n l w
 refine ⟨r, ?_, valD_rel _ _ _ hone⟩
 have : (Instr.lookup t (.map (some b)) (.int .i64 n) false).run P w = .ok r w := by
  unfold Instr.lookup
  rw [run_bind (run_underlying hu w)]
  simp only
  rw [run_bind (a := Obj.map (mkEs 0 l).toArray l.length) (w' := w) (by simp [getObj, Sem.run, hob, mapI])]
  simp only
  rw [run_bind (a := (mkEs 0 l).toArray) (w' := w) rfl]
  rw [run_bind (run_checkKey_int hkt _ 9999 _ w), run_bind hp1]
  cases p with
  | none => rw [hf] at hp2; cases hp2
  | some q =>
   obtain ⟨j, v⟩ := q
   rw [hf] at hp2
   cases hp2
   rfl
 simp only [execOp, ho, r1', r2']
 rw [run_bind this]
 rfl
end Go.Vc
