/- What each operation makes of descriptors: new slices, append, parts of slices and strings. No condition. -/
import Derived.Test.YtlnmljmeahknaaaVh
namespace Go.Vc
set_option linter.unusedSimpArgs false
open Go
set_option linter.unusedVariables false

theorem flat_replicate_get (z : List Value) : ∀ (n i : Nat), i < n * z.length → ((List.replicate n z).flatten)[i]? = z[i % z.length]?
  | 0, i, h => by simp at h
  | n + 1, i, h => by
    rw [List.replicate_succ, List.flatten_cons, List.getElem?_append]
    by_cases hi : i < z.length
    · rw [if_pos hi, Nat.mod_eq_of_lt hi]
    · rw [if_neg hi, flat_replicate_get z n (i - z.length) (by rw [Nat.add_mul] at h; omega)]
      congr 1
      rw [← Nat.mod_eq_sub_mod (by omega)]

theorem zeros_toList (z : Array Value) (n : Nat) : ((Array.range (n * z.size)).map (z[· % z.size]!)).toList = (List.replicate n z.toList).flatten := by
  apply List.ext_getElem?
  intro i
  by_cases hi : i < n * z.size
  · have hz : 0 < z.size := by rcases Nat.eq_zero_or_pos z.size with h | h; rw [h] at hi; simp at hi; exact h
    have hm := Nat.mod_lt i hz
    rw [flat_replicate_get _ _ _ (by simpa using hi)]
    simp [hi, hm]
  · have h1 : ((List.replicate n z.toList).flatten).length ≤ i := by simp; omega
    rw [List.getElem?_eq_none (by simp; omega), List.getElem?_eq_none h1]

theorem map_constD_flat (w : World) (L : Nat → Prop) (z : List Value) : ∀ n : Nat, RelL w L ((List.replicate n (z.map constD)).flatten) ((List.replicate n z).flatten)
  | 0 => rfl
  | n + 1 => by
    rw [List.replicate_succ, List.replicate_succ, List.flatten_cons, List.flatten_cons]
    exact RelL.append _ _ _ _ (constL_rel w L z) (map_constD_flat w L z n)

theorem r_buildSlice {P : Program} (T : Tab P) {o : Oper} {E : Operand → D} {H : Heap} {K : D → Heap → Prop} {t : TypeId} {n : Nat} {ps : List (Nat × Operand)} (ho : o.op = .buildSlice t n ps.toArray)
    (hk : cBuildSlice (kdT (T.get t)) n (ps.map fun p => (p.1, E p.2)) H K) : Op1 P o E H K := by
  unfold cBuildSlice at hk
  split at hk
  · rename_i e esz eb ea ez hkd
    obtain ⟨hu, hkn, hsz, _, _, hze⟩ := kd_slice T hkd
    obtain ⟨d, inf, z, h1, h2, h3, h4, _, h6, h7, _⟩ := knOf_facts hkn
    rw [hsz] at h4 h7
    rw [hze] at h6 h7
    have hzs : z.cells.size = esz := by rw [← Array.length_toList, h6, h7]
    split at hk
    · rename_i l hl
      obtain ⟨⟨hone, hbig⟩, hk⟩ := hk
      refine ⟨fun d' H' => d' = .sl true esz (rowsOf esz n l) ∧ H' = H, ?_, fun _ _ ⟨h1, h2⟩ => h1 ▸ h2 ▸ hk⟩
      intro w L0 ε hi hx
      have hmem : ∀ i x, (i, x) ∈ ps → Rel w (live H L0) (E x) (ε x) := fun i x hm => hx x (by
        simp only [ho, Op.operands, List.mem_toArray, List.mem_map]
        exact ⟨(i, x), hm, rfl⟩)
      have hz0 : RelL w (live H L0) ((List.replicate n (ez.map constD)).flatten) ((Array.range (n * esz)).map (z.cells[· % z.cells.size]!)).toList := by
        rw [← hzs, zeros_toList, h6]
        exact map_constD_flat _ _ _ _
      obtain ⟨a', hf, hr, hs⟩ := fill_spec (ε := ε) ps _ _ l hmem hl hz0
      have hs' : a'.size = n * esz := by rw [hs]; simp
      have hll : l.length = n * esz := by rw [← RelL.length _ _ hr, Array.length_toList, hs']
      have hrun : (execOp ε o).run P w = .ok (.value (.slice (some ⟨w.heap.size, 0, none⟩) n n)) (w.alloc (.cells a' e)) := by
        simp only [execOp, ho, Instr.buildSlice]
        refine (run_bind (a := .slice (some ⟨w.heap.size, 0, none⟩) n n) (w' := w.alloc (.cells a' e)) ?_).trans rfl
        rw [run_bind (run_underlying hu w)]
        simp only
        rw [run_bind (run_sz h2 w), h4]
        rw [if_neg (by omega)]
        have hzv : (zeroValue e).run P w = .ok z w := by unfold zeroValue; rw [run_bind (run_info h2 w), h3]; rfl
        simp only [List.map_toArray] at hf ⊢
        by_cases hz0 : n * esz = 0
        · rw [if_pos hz0, run_bind run_pure]
          rw [show (Array.map (fun x => (#[] : Array Value)[x % (#[] : Array Value).size]!) (Array.range (n * esz))) = Array.map (fun x => z.cells[x % z.cells.size]!) (Array.range (n * esz)) by simp [hz0], hf]
          rfl
        · rw [if_neg hz0, run_bind hzv, run_bind run_pure, hf]
          rfl
      rw [hrun]
      have hnew : (w.alloc (.cells a' e)).heap[w.heap.size]? = some (.cells a' e) := heap_alloc_new w _
      have hevo : Evo w H (w.alloc (.cells a' e)) H :=
        ⟨rfl, rfl, rfl, by simp, fun b hb _ => alloc_old w _ b hb, fun b hb => .inl hb⟩
      have hnl : ¬ live H L0 w.heap.size := fun h => by
        rcases h with h | h
        · have := hi.old _ h; omega
        · have := hi.lt h; omega
      refine ⟨_, H, ⟨rfl, rfl⟩, ?_, ?_, hevo⟩
      · refine ⟨_, n, by rw [rowsOf_length], ⟨by rw [rowsOf_length]; exact Nat.le_refl _, fun h => by cases h⟩, fun _ => by rw [rowsOf_length], .inr ⟨w.heap.size, 0, rfl, ?_⟩⟩
        refine RowsAt.of hnl n l a'.toList 0 (by omega) hone (RelL.mono hevo.keeps _ _ hr) fun j v hv => ?_
        rw [Nat.zero_add]
        simp only [World.cell?, hnew]
        simpa using hv
      · exact { rel := fun b c hm => (hi.rel b c hm).mono hevo.keeps (alloc_old w _ b (hi.lt (List.mem_map.2 ⟨_, hm, rfl⟩))), nodup := hi.nodup, apart := hi.apart, old := fun b h => Nat.lt_of_lt_of_le (hi.old b h) hevo.size }
    · exact hk.elim
  · exact hk.elim

def zerosD (n : Nat) (z : List Value) : List D := (List.replicate n (z.map constD)).flatten

def cMake (kd : Kd) (l c : D) (H : Heap) (K : D → Heap → Prop) : Prop :=
  match kd, l, c with
  | .slice e esz eb _ ez, .is (.int _ a), .is (.int _ b) => (0 ≤ a ∧ a = b ∧ a.toNat * eb ≤ 281474976710656 ∧ a ≤ 9223372036854775807 ∧ (ez.map constD).all oneD = true) ∧
      ∀ k, k ∉ H.blocks → K (.gs (some (k, a.toNat)) a.toNat) ((k, .cells e (a.toNat * esz) (zerosD a.toNat ez)) :: H)
  | _, _, _ => False

theorem r_make {P : Program} (T : Tab P) {o : Oper} {E : Operand → D} {H : Heap} {K : D → Heap → Prop} {t : TypeId} {l c : Operand} (ho : o.op = .makeSlice t l c)
    (hk : cMake (kdT (T.get t)) (E l) (E c) H K) : Op1 P o E H K := by
  unfold cMake at hk
  split at hk
  · rename_i e esz eb ea ez k1 a k2 b hkd hl0 hc0
    obtain ⟨hu, hkn, hsz, hbt, _, hze⟩ := kd_slice T hkd
    obtain ⟨d, inf, z, h1, h2, h3, h4, _, h6, h7, h8⟩ := knOf_facts hkn
    rw [hsz] at h4 h7
    rw [hze] at h6 h7
    rw [hbt] at h8
    have hzs : z.cells.size = esz := by rw [← Array.length_toList, h6, h7]
    obtain ⟨⟨ha0, rfl, hb, h63, hone⟩, hk⟩ := hk
    have hone' : (zerosD a.toNat ez).all oneD = true := by
      rw [List.all_eq_true] at hone ⊢
      intro x hx
      simp only [zerosD, List.mem_flatten, List.mem_replicate] at hx
      obtain ⟨y, ⟨_, rfl⟩, hx⟩ := hx
      exact hone x hx
    refine Op1.new (zerosD a.toNat ez) e (a.toNat * esz) (fun k => .slice (some ⟨k, 0, none⟩) a.toNat a.toNat) (fun k => .gs (some (k, a.toNat)) a.toNat) (fun _ _ _ => ⟨rfl, Nat.le_refl _⟩) hone' (fun w L0 ε hi hx => ?_) hk
    have hx1 := hx l (by simp [ho, Op.operands])
    have hx2 := hx c (by simp [ho, Op.operands])
    rw [hl0] at hx1; rw [hc0] at hx2
    have hx1' : ε l = .int k1 a := hx1
    have hx2' : ε c = .int k2 a := hx2
    have hby : (inf.bytes : Int) * a ≤ 281474976710656 := by
      have h9 : ((eb * a.toNat : Nat) : Int) ≤ 281474976710656 := by rw [Nat.mul_comm]; omega
      rw [Int.natCast_mul, Int.toNat_of_nonneg ha0] at h9
      rw [h8]; exact h9
    have hr := run_make (P := P) w t e inf z hu h2 h3 k1 k2 a a ha0 (Int.le_refl _) hby h63
    refine ⟨madeCells z.cells (a.toNat * inf.size), ?_, ?_, ?_⟩
    · simp only [execOp, ho, hx1', hx2']
      exact (run_bind hr).trans rfl
    · rw [size_madeCells, h4]
    · rw [h4]
      have e1 : (madeCells z.cells (a.toNat * esz)).toList = (List.replicate a.toNat ez).flatten := by
        rw [← h6, ← zeros_toList, hzs]
        simp only [madeCells, hzs]
      rw [e1, List.take_of_length_le]
      · exact map_constD_flat _ _ _ _
      · simp [zerosD]
  · exact hk.elim

end Go.Vc
