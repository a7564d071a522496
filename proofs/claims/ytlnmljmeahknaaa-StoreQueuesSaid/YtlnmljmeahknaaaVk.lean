/- What append makes of descriptors. No condition. -/
import Derived.Test.YtlnmljmeahknaaaVj
namespace Go.Vc
set_option linter.unusedSimpArgs false
open Go
set_option linter.unusedVariables false

theorem append_core {P : Program} {t e : TypeId} {inf : TypeInfo} {z : Value} {esz eb : Nat} (hu : P.underlying t = some (.slice e)) (hinf : P.info? e = some inf) (hz : inf.zero = some z)
    (hsz : inf.size = esz) (hby : inf.bytes = eb) (hzs : z.cells.size = esz) (h0 : 0 < esz) (hb0 : 0 < eb) (ty : TypeId)
    {w : World} {L0 : Nat → Prop} {g : Option (Nat × Nat)} {n m : Nat} {l news : List D} {H0 : Heap} (hi : HInv w L0 (shp g e esz l H0)) (hg : gOk g n) (hl : l.length = n * esz)
    {nv : List Value} (hnv : RelL w (live (shp g e esz l H0) L0) news nv) (hone : news.all oneD = true) (hlen : news.length = m * esz) {xv : Value}
    (hx : (m = 0 ∧ xv = .slice none 0 0) ∨ ∃ ad c, xv = .slice (some ad) m c ∧ ∀ (j : Nat) u, nv[j]? = some u → w.cell? (ad.add j) = some u)
    (hbig : (n + m) * eb ≤ 140737488355328) :
    ∃ g' w', (Builtin.append_ #[t, t] ty #[sv g n, xv]).run P w = .ok (sv g' (n + m)) w' ∧ gOk g' (n + m) ∧ (∀ b c, g' = some (b, c) → b ∉ H0.blocks) ∧
      HInv w' L0 (shp g' e esz (l ++ news) H0) ∧ Evo w (shp g e esz l H0) w' (shp g' e esz (l ++ news) H0) := by
  have hnm : n + m ≤ 140737488355328 := Nat.le_trans (Nat.le_mul_of_pos_right _ hb0) hbig
  have hnvl := RelL.length _ _ hnv
  have hnv1 := RelL.one _ _ hone hnv
  -- the block, where there is one
  have blk : ∀ b cap, g = some (b, cap) → ∃ arr, w.heap[b]? = some (.cells arr e (0, 0)) ∧ arr.size = cap * esz ∧ n ≤ cap ∧ RelL w (live (shp g e esz l H0) L0) l (arr.toList.take (n * esz)) ∧ l.all oneD = true ∧ b ∉ H0.blocks := by
    intro b cap hgb
    subst hgb
    obtain ⟨h1, arr, h2, h3, h4⟩ := hi.rel b _ (List.mem_cons_self ..)
    have h5 := RelL.length _ _ h4
    simp only [List.length_take, Array.length_toList] at h5
    refine ⟨arr, h2, h3, ?_, by rw [hl] at h4; exact h4, h1, ?_⟩
    · have : n * esz ≤ cap * esz := by rw [← h3, ← hl]; omega
      exact Nat.le_of_mul_le_mul_right this h0
    · have := hi.nodup
      simp only [shp, Heap.blocks, List.map_cons, List.nodup_cons] at this
      exact this.1
  rcases hx with ⟨rfl, rfl⟩ | ⟨ad, c, rfl, hcell⟩
  · -- nothing
    have hnews : news = [] := List.eq_nil_of_length_eq_zero (by simpa using hlen)
    subst hnews
    refine ⟨g, w, ?_, by simpa using hg, ?_, by simpa using hi, by simpa using Evo.refl w _⟩
    · cases g with
      | none =>
        obtain rfl : n = 0 := hg
        simp [sv, Builtin.append_, run_underlying hu, sizeOf, typeInfo, hinf, Builtin.lenOf, Builtin.firstCells]
      | some g =>
        obtain ⟨b, cap⟩ := g
        obtain ⟨arr, _, _, hnc, _⟩ := blk b cap rfl
        simp [sv, Builtin.append_, run_underlying hu, sizeOf, typeInfo, hinf, Builtin.lenOf, Builtin.firstCells, hnc, storeCells]
    · intro b c hgb
      exact (blk b c hgb).choose_spec.2.2.2.2.2
  · cases g with
    | none =>
      obtain rfl : n = 0 := hg
      have hl0 : l = [] := List.eq_nil_of_length_eq_zero (by simpa using hl)
      subst hl0
      by_cases hm : m = 0
      · subst hm
        have hnews : news = [] := List.eq_nil_of_length_eq_zero (by simpa using hlen)
        subst hnews
        refine ⟨none, w, ?_, rfl, fun b c h => (by cases h), hi, Evo.refl w _⟩
        simp [sv, Builtin.append_, run_underlying hu, sizeOf, typeInfo, hinf, Builtin.lenOf, Builtin.firstCells, loadCells, loadCellsFrom]
      · have hr := run_append_nil (P := P) w t ty e inf z hu hinf hz ad m c nv (by rw [hnvl, hlen, hsz]) hcell (by omega) (by omega) (by rw [hby]; have hbb := hbig; rw [Nat.zero_add] at hbb; omega)
        obtain ⟨k1, k2⟩ := grown_inv (n := 0) (m := m) (cap := grownCap w m 0 e) (e := e) (esz := esz) (olds := []) (news := nv) (lo := []) (ln := news) (z := z) hi rfl hnv rfl hone (by simp) hlen hzs
          (by rw [Nat.zero_add]; exact grownCap_ge w m 0 e) (w' := _) rfl
        simp only [Array.empty_append, Nat.zero_add, List.nil_append] at k1 k2
        refine ⟨some (w.heap.size, grownCap w m 0 e), w.drew.alloc (.cells (nv.toArray ++ Builtin.zeroCells z.cells (grownCap w m 0 e - m)) e), ?_, by simpa [gOk] using grownCap_ge w m 0 e, fun b c hbc => ?_, ?_, ?_⟩
        · rw [Nat.zero_add]; exact hr
        · cases hbc; exact fun hm => by have := hi.lt (b := w.heap.size) hm; omega
        · simpa [shp] using k1
        · simpa [shp] using k2
    | some g =>
      obtain ⟨b, cap⟩ := g
      obtain ⟨arr, hb, hsize, hnc, hrel, hl1, hbH⟩ := blk b cap rfl
      have hll : l.length = n * inf.size := by rw [hsz, hl]
      by_cases hroom : n + m ≤ cap
      · have hfit : n * inf.size + nv.length ≤ arr.size := by rw [hnvl, hlen, hsize, hsz, ← Nat.add_mul]; exact Nat.mul_le_mul_right _ hroom
        have hr := run_append_room (P := P) w t ty e inf hu hinf b n cap arr hb ad m c nv (by rw [hnvl, hlen, hsz]) hcell hnv1 hroom hfit
        have hbm : b ∈ (shp (some (b, cap)) e esz l H0).blocks := List.mem_map.2 ⟨_, List.mem_cons_self .., rfl⟩
        have hset : hset (shp (some (b, cap)) e esz l H0) b (.cells e (cap * esz) (l ++ news)) = shp (some (b, cap)) e esz (l ++ news) H0 := by
          simp only [shp, Vc.hset, beq_self_eq_true, cond_true]
        have hke : Keeps w (live (shp (some (b, cap)) e esz l H0) L0) (w.setRow b (arr.toList.take (n * inf.size) ++ nv ++ arr.toList.drop (n * inf.size + nv.length)).toArray) (live (shp (some (b, cap)) e esz l H0) L0) :=
          fun k hk1 hn => ⟨setRow_other w b k _ (fun e => hn (.inr (e ▸ hbm))), hn⟩
        refine ⟨some (b, cap), _, hr, hroom, fun b' c' hbc => (by cases hbc; exact hbH), ?_, ?_⟩
        · rw [← hset]
          refine HInv.set hi hbm (by simp [World.setRow]) (fun k hne hk1 => setRow_other w b k _ hne) ⟨by rw [List.all_append, hl1, hone]; rfl, _, setRow_heap w b arr _ e _ hb, ?_, ?_⟩
          · simp only [List.size_toArray, List.length_append, List.length_take, List.length_drop, Array.length_toList]
            rw [hsz] at hfit ⊢
            omega
          · have e1 : (arr.toList.take (n * inf.size) ++ nv ++ arr.toList.drop (n * inf.size + nv.length)).toArray.toList.take (l ++ news).length = arr.toList.take (n * esz) ++ nv := by
              have hlt : (arr.toList.take (n * inf.size)).length = n * esz := by
                rw [List.length_take, Array.length_toList, hsz]; rw [hsz] at hfit; omega
              rw [hsz] at hlt ⊢
              rw [show (l ++ news).length = (arr.toList.take (n * esz) ++ nv).length by rw [List.length_append, List.length_append, hlt, hl, hnvl]]
              exact List.take_left
            rw [e1]
            exact RelL.append _ _ _ _ (RelL.mono hke _ _ hrel) (RelL.mono hke _ _ hnv)
        · exact evo_setRow hbm _ (by simp [shp, Heap.blocks])
      · have holds : ∀ (j : Nat) u, (arr.toList.take (n * esz))[j]? = some u → w.cell? ((⟨b, 0, none⟩ : Addr).add j) = some u := by
          intro j u hu
          rw [List.getElem?_take] at hu
          split at hu
          · rw [add0, Nat.zero_add, cell_of_row w b j arr e (0, 0) hb]; simpa using hu
          · cases hu
        have holen : (arr.toList.take (n * esz)).length = n * esz := by rw [RelL.length _ _ hrel, hl]
        have hr := run_append_grow (P := P) w t ty e inf z hu hinf hz ⟨b, 0, none⟩ n cap (arr.toList.take (n * esz)) (by rw [holen, hsz]) holds ad m c nv (by rw [hnvl, hlen, hsz]) hcell (by omega) (by omega)
          (by rw [hby]; exact growslice_fits (by omega) hbig)
        have hsub : H0.Sublist (shp (some (b, cap)) e esz l H0) := List.sublist_cons_self _ _
        have hi0 : HInv w L0 H0 := SubH.inv hsub hi
        have hk0 := SubH.live hsub w L0
        obtain ⟨k1, k2⟩ := grown_inv (n := n) (m := m) (cap := grownCap w (n + m) cap e) (e := e) (esz := esz) (olds := arr.toList.take (n * esz)) (news := nv) (lo := l) (ln := news) (z := z) hi0
          (RelL.mono hk0 _ _ hrel) (RelL.mono hk0 _ _ hnv) hl1 hone hl hlen hzs (grownCap_ge w (n + m) cap e) (w' := _) rfl
        refine ⟨some (w.heap.size, grownCap w (n + m) cap e), _, hr, grownCap_ge w (n + m) cap e, fun b' c' hbc => ?_, k1, ?_⟩
        · cases hbc; exact fun hm => by have := hi0.lt hm; omega
        · exact ⟨k2.os, k2.tape, k2.output, k2.size, fun k hk1 hn => k2.block k hk1 (fun h => hn (SubH.blocks hsub k h)), fun k hk1 => (k2.fresh k hk1).imp (SubH.blocks hsub k) id⟩

theorem sv_rel (w : World) (L : Nat → Prop) (g : Option (Nat × Nat)) (n : Nat) (h : gOk g n) : Rel w L (.gs g n) (sv g n) := ⟨rfl, h⟩

theorem r_append {P : Program} (T : Tab P) {o : Oper} {E : Operand → D} {H : Heap} {K : D → Heap → Prop} {s x : Operand} {t : TypeId} (ho : o.op = .call ⟨.builtin .append, #[s, x], #[t, t]⟩)
    (hk : cAppend (kdT (T.get t)) (E s) (E x) H K) : Op1 P o E H K := by
  have run : ∀ (w w' : World) (ε : Operand → Value) (v r : Value), ε s = v → (Builtin.append_ #[t, t] o.type #[v, ε x]).run P w = .ok r w' → (execOp ε o).run P w = .ok (.value r) w' := by
    intro w w' ε v r h1 h2
    exact run_builtin ho (s := Builtin.append_ #[t, t] o.type (#[s, x].map ε)) rfl (by rw [← h1] at h2; simpa using h2)
  unfold cAppend at hk
  split at hk
  · rename_i e esz eb ea ez g n hkd hs0
    obtain ⟨hu, hkn, hsz, hbt, _, hze⟩ := kd_slice T hkd
    obtain ⟨d, inf, z, h1, h2, h3, h4, _, h6, h7, h8⟩ := knOf_facts hkn
    rw [hsz] at h4 h7
    rw [hze] at h6 h7
    rw [hbt] at h8
    have hzs : z.cells.size = esz := by rw [← Array.length_toList, h6, h7]
    obtain ⟨l, H0, news, m, rfl, hl, hsrc, ⟨he0, hb0, hbig⟩, hk⟩ := hk
    refine ⟨fun d' H' => ∃ g', gOk g' (n + m) ∧ (∀ b c, g' = some (b, c) → b ∉ H0.blocks) ∧ d' = .gs g' (n + m) ∧ H' = shp g' e esz (l ++ news) H0, ?_, fun d' H' ⟨g', k1, k2, k3, k4⟩ => k3 ▸ k4 ▸ hk g' k1 k2⟩
    intro w L0 ε hi hx
    have hx1 := hx s (by simp [ho, Op.operands, Call.operands])
    have hx2 := hx x (by simp [ho, Op.operands, Call.operands])
    rw [hs0, Rel] at hx1
    obtain ⟨nv, k1, k2, k3, k4⟩ := src_spec hi hsrc hx2
    obtain ⟨g', w', r1, r2, r3, r4, r5⟩ := append_core hu h2 h3 h4 h8 hzs he0 hb0 o.type hi hx1.2 hl k1 k2 k3 k4 hbig
    rw [run w w' ε _ _ hx1.1 r1]
    exact ⟨_, _, ⟨g', r2, r3, rfl, rfl⟩, sv_rel _ _ _ _ r2, r4, r5⟩
  · rename_i e esz eb ea ez esz' rows hkd hs0
    obtain ⟨hu, hkn, hsz, hbt, _, hze⟩ := kd_slice T hkd
    obtain ⟨d, inf, z, h1, h2, h3, h4, _, h6, h7, h8⟩ := knOf_facts hkn
    rw [hsz] at h4 h7
    rw [hze] at h6 h7
    rw [hbt] at h8
    have hzs : z.cells.size = esz := by rw [← Array.length_toList, h6, h7]
    obtain ⟨news, m, hsrc, ⟨rfl, he0, hb0, hbig⟩, hk1, hk2⟩ := hk
    refine ⟨fun d' H' => (m = 0 ∧ d' = .sl true esz' rows ∧ H' = H) ∨ (m ≠ 0 ∧ ∃ b cap, b ∉ H.blocks ∧ rows.length + m ≤ cap ∧ d' = .gs (some (b, cap)) (rows.length + m) ∧ H' = (b, .cells e (cap * esz') (rows.flatten ++ news)) :: H), ?_, ?_⟩
    · intro w L0 ε hi hx
      have hx1 := hx s (by simp [ho, Op.operands, Call.operands])
      have hx2 := hx x (by simp [ho, Op.operands, Call.operands])
      rw [hs0] at hx1
      have hx1' := hx1
      rw [Rel] at hx1
      obtain ⟨a, cap, hv, hcap, hfull, hrows⟩ := hx1
      obtain rfl := hfull rfl
      obtain ⟨nv, k1, k2, k3, k4⟩ := src_spec hi hsrc hx2
      have hnvl := RelL.length _ _ k1
      by_cases hm : m = 0
      · subst hm
        have hr : (Builtin.append_ #[t, t] o.type #[.slice a rows.length rows.length, ε x]).run P w = .ok (.slice a rows.length rows.length) w := by
          rcases k4 with ⟨_, hxv⟩ | ⟨ad, c, hxv, hc⟩
          · rw [hxv]
            simp [Builtin.append_, run_underlying hu, sizeOf, typeInfo, h2, Builtin.lenOf, Builtin.firstCells]
            cases a <;> simp [storeCells, go_sem]
          · rw [hxv]
            simp [Builtin.append_, run_underlying hu, sizeOf, typeInfo, h2, Builtin.lenOf, Builtin.firstCells, loadCells, loadCellsFrom]
            cases a <;> simp [storeCells, go_sem]
        rw [run w w ε _ _ hv hr]
        exact ⟨_, _, .inl ⟨rfl, rfl, rfl⟩, ⟨a, _, rfl, hcap, fun _ => rfl, hrows⟩, hi, Evo.refl _ _⟩
      · rcases k4 with ⟨hm0, _⟩ | ⟨ad, c, hxv, hc⟩
        · exact absurd hm0 hm
        · have hnm : rows.length + m ≤ 140737488355328 := Nat.le_trans (Nat.le_mul_of_pos_right _ hb0) hbig
          have fin : ∀ (olds : List Value) (lo : List D) (cap' : Nat), RelL w (live H L0) lo olds → lo.all oneD = true → lo = rows.flatten → lo.length = rows.length * esz' → rows.length + m ≤ cap' →
              (Builtin.append_ #[t, t] o.type #[.slice a rows.length rows.length, ε x]).run P w = .ok (.slice (some ⟨w.heap.size, 0, none⟩) (rows.length + m) cap') (w.drew.alloc (.cells (olds.toArray ++ nv.toArray ++ Builtin.zeroCells z.cells (cap' - (rows.length + m))) e)) →
              Good P (fun v w' => ∃ d H', ((m = 0 ∧ d = .sl true esz' rows ∧ H' = H) ∨ (m ≠ 0 ∧ ∃ b cap, b ∉ H.blocks ∧ rows.length + m ≤ cap ∧ d = .gs (some (b, cap)) (rows.length + m) ∧ H' = (b, .cells e (cap * esz') (rows.flatten ++ news)) :: H)) ∧
                Rel w' (live H' L0) d v ∧ HInv w' L0 H' ∧ Evo w H w' H') ((execOp ε o).run P w) := by
            intro olds lo cap' q1 q2 q3 q4 q5 q6
            obtain ⟨g1, g2⟩ := grown_inv (e := e) (esz := esz') (n := rows.length) (m := m) (cap := cap') (z := z) hi q1 k1 q2 k2 q4 k3 hzs q5 (w' := _) rfl
            rw [run w _ ε _ _ hv q6]
            refine ⟨_, _, .inr ⟨hm, w.heap.size, cap', fun hm => (by have := hi.lt hm; omega), q5, rfl, by rw [← q3]⟩, ⟨rfl, q5⟩, g1, g2⟩
          cases a with
          | none =>
            have hc0 := hcap.2 rfl
            have hr0 : rows = [] := List.eq_nil_of_length_eq_zero hc0
            subst hr0
            have hr := run_append_nil (P := P) w t o.type e inf z hu h2 h3 ad m c nv (by rw [hnvl, k3, h4]) hc (by omega) (by simp at hnm; omega) (by rw [h8]; have hbb := hbig; simp at hbb; omega)
            refine fin [] [] (grownCap w m 0 e) rfl rfl rfl (by simp) (by simpa using grownCap_ge w m 0 e) ?_
            rw [hxv]
            simpa using hr
          | some ad0 =>
            have hold : ∃ olds : List Value, RelL w (live H L0) rows.flatten olds ∧ rows.flatten.all oneD = true ∧ rows.flatten.length = rows.length * esz' ∧ ∀ (j : Nat) u, olds[j]? = some u → w.cell? (ad0.add j) = some u := by
              rcases hrows with rfl | ⟨b, off, hab, hrows⟩
              · exact ⟨[], rfl, rfl, by simp, fun j u hu => by simp at hu⟩
              · cases hab
                obtain ⟨q1, q2, cs, q3, q4⟩ := RowsAt.values _ _ _ hrows
                exact ⟨cs, q3, q1, q2, fun j u hu => by rw [add0]; exact q4 j u hu⟩
            obtain ⟨olds, q1, q2, q3, q4⟩ := hold
            have qlen := RelL.length _ _ q1
            have hr := run_append_grow (P := P) w t o.type e inf z hu h2 h3 ad0 rows.length rows.length olds (by rw [qlen, q3, h4]) q4 ad m c nv (by rw [hnvl, k3, h4]) hc (by omega) (by omega)
              (by rw [h8]; exact growslice_fits (by omega) hbig)
            refine fin olds _ (grownCap w (rows.length + m) rows.length e) q1 q2 rfl q3 (grownCap_ge w (rows.length + m) rows.length e) ?_
            rw [hxv]
            exact hr
    · rintro d' H' (⟨hm, rfl, rfl⟩ | ⟨hm, b, cap, hb, hbc, rfl, rfl⟩)
      · have := hk1 hm
        rw [hs0] at this; exact this
      · exact hk2 hm b cap hb hbc
  · exact hk.elim

end Go.Vc
