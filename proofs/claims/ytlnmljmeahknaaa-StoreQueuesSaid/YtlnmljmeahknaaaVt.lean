/- What copy makes of descriptors; an own slice let go for reading. No condition. -/
import Derived.Test.YtlnmljmeahknaaaVm
import Derived.Laws.CopyRow
namespace Go.Vc
set_option linter.unusedSimpArgs false
open Go
set_option linter.unusedVariables false

section
variable {P : Program} {n : Nat} {ops : Array Oper} {o : Oper} {r : List Oper} {E : Nat → D} {H : Heap} {Q : Exit → St → Prop}
/-- An operation whose guard has not been reckoned itself: it is not carried out. -/
theorem VCo.gundef {j g : Nat} {want : Bool} (hg : o.guard = some (j, want)) (hj : (ops[j]?).bind (·.dst) = some g) (hgn : Nat.blt g n = true) (hd : dstOk n o = true) (ht : E g = .is undef)
    (h : VCo P n ops r ⟨updO E o.dst (.is undef), H⟩ Q) : VCo P n ops (o :: r) ⟨E, H⟩ Q := fun x a w hn hs => by
  have h2 : a.tmps[g]? = some undef := by
    have h1 := hs.env g
    rw [show (⟨E, H⟩ : St).env g = .is undef from ht] at h1
    have hlt : g < a.tmps.size := by rw [hs.size, hn]; simpa using hgn
    have h3 : a.tmps.getD g undef = undef := h1
    simp [Array.getD, hlt] at h3
    simp [hlt, h3]
  have hy : yielded ops a.tmps j = none := by simp [yielded, hj, h2, undef]
  unfold wpList
  simp only [Region.wanted, hg, hy]
  rw [if_neg (by simp)]
  exact h x _ w hn (hs.put (s := ⟨E, H⟩) (fun t ht => hn ▸ dstOk_spec hd t ht) rfl hs.inv (Evo.refl _ _))
end

/-- The cells of a slice that is read, and how many elements it has. -/
def cSrc (esz : Nat) (x : D) (H : Heap) (K : List D → Nat → Prop) : Prop :=
  match x with
  | .sl _ esz' rows => esz' = esz ∧ K rows.flatten rows.length
  | .gs none _ => K [] 0
  | .gs (some (b, _)) n => match hget H b with
    | some (.cells _ _ l) => n * esz ≤ l.length ∧ K (l.take (n * esz)) n
    | _ => False
  | .os b o n _ => match hget H b with
    | some (.cells _ _ l) => o + n * esz ≤ l.length ∧ K ((l.drop o).take (n * esz)) n
    | _ => False
  | _ => False

theorem cSrc_ok {esz : Nat} {x : D} {H : Heap} {K : List D → Nat → Prop} (h : cSrc esz x H K) : ∃ news m, srcOk esz x H news m ∧ K news m := by
  unfold cSrc at h
  split at h
  · exact ⟨_, _, ⟨h.1, rfl, rfl⟩, h.2⟩
  · exact ⟨_, _, ⟨rfl, rfl⟩, h⟩
  · split at h
    · rename_i hg; exact ⟨_, _, ⟨_, _, _, hg, h.1, rfl, rfl⟩, h.2⟩
    · exact h.elim
  · split at h
    · rename_i hg; exact ⟨_, _, ⟨_, _, _, hg, h.1, rfl, rfl⟩, h.2⟩
    · exact h.elim
  · exact h.elim

/-- Cells that are laid into a block of one's own. -/
def cPut (esz b o n : Nat) (news : List D) (m : Nat) (H : Heap) (K : D → Heap → Prop) : Prop :=
  match hget H b with
  | some (.cells ty k l) => o + Nat.min m n * esz ≤ l.length ∧ K (.is (.int .i64 (Nat.min m n : Nat))) (hset H b (.cells ty k (setL l o (news.take (Nat.min m n * esz)))))
  | _ => False

def cCopy (kd : Kd) (d x : D) (H : Heap) (K : D → Heap → Prop) : Prop :=
  match kd with
  | .slice e esz eb _ _ => cSrc esz x H fun news m =>
    match d with
    | .gs none _ => K (.is (.int .i64 0)) H
    | .gs (some (b, cap)) n => cPut esz b 0 n news m H K
    | .os b o n cap => cPut esz b o n news m H K
    | _ => False
  | _ => False

theorem hset_self : ∀ {H : Heap} {b : Nat} {c : HC}, hget H b = some c → hset H b c = H
  | [], _, _, h => by simp [hset]
  | (k, c0) :: H, b, c, h => by
    by_cases e : k = b
    · subst e
      rw [hget_eq] at h
      rw [hset_eq, Option.some.inj h]
    · rw [hget_ne e] at h
      rw [hset_ne e, hset_self h]

theorem run_copy_rows {P : Program} (w : World) (dT sT ty elem : TypeId) {inf : TypeInfo} (g o dLen dCap : Nat) (a : Addr) (sLen sCap : Nat) (cur : Array Value) (t : TypeId) (cs : List Value)
    (hu : P.underlying dT = some (.slice elem)) (hi : P.info? elem = some inf)
    (hg : w.heap[g]? = some (.cells cur t (0, 0))) (hn : cs.length = Nat.min sLen dLen * inf.size)
    (hsrc : ∀ j v, cs[j]? = some v → w.cell? (a.add j) = some v) (hfit : o + cs.length ≤ cur.size) (h1 : ∀ v ∈ cs, v.oneCell' = true) :
    (Builtin.copy_ #[dT, sT] ty #[.slice (some ⟨g, o, none⟩) dLen dCap, .slice (some a) sLen sCap]).run P w =
      .ok (goInt (Nat.min sLen dLen)) (w.setRow g (cur.toList.take o ++ cs ++ cur.toList.drop (o + cs.length)).toArray) := by
  have hl := run_loadCells_list (P := P) w a cs hsrc
  have hst := run_storeCells_at P g o t cs 0 cur w hg (by simpa using hfit) h1
  simp [Builtin.copy_, run_underlying hu, Builtin.lenOf, Builtin.firstCells, sizeOf, typeInfo, hi, ← hn, hl, hst]

theorem run_copy_src_nil {P : Program} (w : World) (dT sT ty elem : TypeId) {inf : TypeInfo} (d : Option Addr) (dLen dCap : Nat) (hu : P.underlying dT = some (.slice elem)) (hi : P.info? elem = some inf) :
    (Builtin.copy_ #[dT, sT] ty #[.slice d dLen dCap, .slice none 0 0]).run P w = .ok (goInt 0) w := by
  cases d <;> simp [Builtin.copy_, run_underlying hu, Builtin.lenOf, Builtin.firstCells, sizeOf, typeInfo, hi, storeCells]

theorem run_copy_zero {P : Program} (w : World) (dT sT ty elem : TypeId) {inf : TypeInfo} (d : Option Addr) (dCap : Nat) (a : Addr) (sLen sCap : Nat) (hu : P.underlying dT = some (.slice elem)) (hi : P.info? elem = some inf) :
    (Builtin.copy_ #[dT, sT] ty #[.slice d 0 dCap, .slice (some a) sLen sCap]).run P w = .ok (goInt 0) w := by
  have hl : (loadCells a 0).run P w = .ok #[] w := by simpa using run_loadCells_list (P := P) w a [] (by simp)
  cases d <;> simp [Builtin.copy_, run_underlying hu, Builtin.lenOf, Builtin.firstCells, sizeOf, typeInfo, hi, storeCells, hl]

theorem r_copy {P : Program} (T : Tab P) {o : Oper} {E : Operand → D} {H : Heap} {K : D → Heap → Prop} {s x : Operand} {t u : TypeId} (ho : o.op = .call ⟨.builtin .copy, #[s, x], #[t, u]⟩)
    (hk : cCopy (kdT (T.get t)) (E s) (E x) H K) : Op1 P o E H K := by
  unfold cCopy at hk
  split at hk
  · rename_i e esz eb ea ez hkd
    obtain ⟨hu, hkn, hsz, _⟩ := kd_slice T hkd
    obtain ⟨d, inf, z, _, hinf, _, h4, _⟩ := knOf_facts hkn
    rw [hsz] at h4
    obtain ⟨news, m, hsrc, hk⟩ := cSrc_ok hk
    have run : ∀ (ε : Operand → Value) (w w' : World) (v : Value), (Builtin.copy_ #[t, u] o.type #[ε s, ε x]).run P w = .ok v w' → (execOp ε o).run P w = .ok (.value v) w' := by
      intro ε w w' v h
      simp only [execOp, ho, resolve, invoke, builtin]
      simp [go_sem, h]
    -- into a block
    have put : ∀ (b off n : Nat), (∀ (w : World) (L0 : Nat → Prop) (v : Value), Rel w (live H L0) (E s) v → ∃ o' cap, v = .slice (some ⟨b, o', none⟩) n cap ∧ (n ≠ 0 → o' = off)) → cPut esz b off n news m H K → Op1 P o E H K := by
      intro b off n hv hk
      unfold cPut at hk
      split at hk
      · rename_i ty k l hg
        obtain ⟨hfit, hk⟩ := hk
        have hm := hget_mem hg
        have hbm : b ∈ H.blocks := List.mem_map.2 ⟨_, hm, rfl⟩
        refine ⟨fun d' H' => d' = .is (.int .i64 (Nat.min m n : Nat)) ∧ H' = hset H b (.cells ty k (setL l off (news.take (Nat.min m n * esz)))), ?_, fun _ _ ⟨h1, h2⟩ => h1 ▸ h2 ▸ hk⟩
        intro w L0 ε hi hx
        have h1 := hx s (by simp [ho, Op.operands, Call.operands])
        have h2 := hx x (by simp [ho, Op.operands, Call.operands])
        obtain ⟨o', cap, hd, ho'⟩ := hv w L0 _ h1
        obtain ⟨nv, k1, k2, k3, k4⟩ := src_spec hi hsrc h2
        obtain ⟨hl1, arr, hb, hn, hrel⟩ := hi.rel _ _ hm
        have hll := RelL.length _ _ hrel
        simp only [List.length_take, Array.length_toList] at hll
        have hnl := RelL.length _ _ k1
        have setnil : ∀ (l : List D) (o : Nat), setL l o [] = l := fun l o => by rw [setL]
        have same : Nat.min m n = 0 → ∃ d H', (d = .is (.int .i64 (Nat.min m n : Nat)) ∧ H' = hset H b (.cells ty k (setL l off (news.take (Nat.min m n * esz))))) ∧ Rel w (live H' L0) d (goInt 0) ∧ HInv w L0 H' ∧ Evo w H w H' := by
          intro h0
          refine ⟨_, _, ⟨rfl, rfl⟩, ?_⟩
          rw [h0, Nat.zero_mul, List.take_zero, setnil, hset_self hg]
          exact ⟨rfl, hi, Evo.refl _ _⟩
        rcases k4 with ⟨rfl, hxv⟩ | ⟨ad, c, hxv, hc⟩
        · rw [run ε w w (goInt 0) (by rw [hd, hxv]; exact run_copy_src_nil w t u o.type e _ _ _ hu hinf)]
          exact same (Nat.zero_min n)
        · by_cases hn0 : n = 0
          · subst hn0
            rw [run ε w w (goInt 0) (by rw [hd, hxv]; exact run_copy_zero w t u o.type e _ _ ad m c hu hinf)]
            exact same (Nat.min_zero m)
          · obtain rfl := ho' hn0
            have hmn : Nat.min m n ≤ m := Nat.min_le_left m n
            have htl : (nv.take (Nat.min m n * esz)).length = Nat.min m n * esz := by
              rw [List.length_take, hnl, k3]
              exact Nat.min_eq_left (Nat.mul_le_mul_right _ hmn)
            have hrel' := RelL.take (Nat.min m n * esz) _ _ k1
            have hone' : (news.take (Nat.min m n * esz)).all oneD = true := all_take k2 _
            have hr := run_copy_rows (P := P) w t u o.type e (inf := inf) b o' n cap ad m c arr ty (nv.take (Nat.min m n * esz)) hu hinf hb (by rw [htl, h4])
              (fun j v hj => hc j v (by rw [List.getElem?_take] at hj; split at hj; exact hj; cases hj)) (by rw [htl]; omega) (RelL.one _ _ hone' hrel')
            rw [htl] at hr
            rw [run ε w _ _ (by rw [hd, hxv]; exact hr)]
            have hcells : arr.toList.take o' ++ nv.take (Nat.min m n * esz) ++ arr.toList.drop (o' + Nat.min m n * esz) = setLV arr.toList o' (nv.take (Nat.min m n * esz)) := by
              rw [setLV_split _ _ _ (by rw [htl, Array.length_toList]; omega), htl]
            rw [hcells]
            have hevo : Evo w H (w.setRow b (setLV arr.toList o' (nv.take (Nat.min m n * esz))).toArray) (hset H b (.cells ty k (setL l o' (news.take (Nat.min m n * esz))))) := evo_setRow hbm _ (hset_blocks _ _ _)
            refine ⟨.is (.int .i64 (Nat.min m n : Nat)), _, ⟨rfl, rfl⟩, rfl, ?_, hevo⟩
            have hke : Keeps w (live H L0) (w.setRow b (setLV arr.toList o' (nv.take (Nat.min m n * esz))).toArray) (live H L0) := fun k hk1 hn => ⟨setRow_other w b k _ (fun e => hn (.inr (e ▸ hbm))), hn⟩
            refine HInv.set hi hbm (by simp [World.setRow]) (fun k hne hk1 => setRow_other w b k _ hne) ⟨all_setL _ _ _ hl1 hone', _, setRow_heap w b arr _ ty _ hb, ?_, ?_⟩
            · simp [setLV_length, hn]
            · rw [setL_length]
              simp only []
              rw [take_setLV _ _ _ _ (by rw [htl]; omega) (by simp; omega)]
              exact RelL.setL _ _ _ _ _ (RelL.mono hke _ _ hrel) (RelL.mono hke _ _ hrel')
      · exact hk.elim
    split at hk
    · rename_i n hs0
      refine Op1.value (d := .is (.int .i64 0)) (fun w L0 ε hi hx => ?_) hk
      have h1 := hx s (by simp [ho, Op.operands, Call.operands])
      have h2 := hx x (by simp [ho, Op.operands, Call.operands])
      rw [hs0, Rel] at h1
      obtain ⟨hv, hn⟩ := h1
      obtain rfl : n = 0 := hn
      obtain ⟨nv, k1, k2, k3, k4⟩ := src_spec hi hsrc h2
      refine ⟨goInt 0, run ε w w _ ?_, rfl⟩
      rw [hv]
      rcases k4 with ⟨rfl, hxv⟩ | ⟨ad, c, hxv, hc⟩
      · rw [hxv]; exact run_copy_src_nil w t u o.type e _ _ _ hu hinf
      · rw [hxv]; exact run_copy_zero w t u o.type e _ _ ad m c hu hinf
    · rename_i b cap n hs0
      refine put b 0 n (fun w L0 v hr => ?_) hk
      rw [hs0, Rel] at hr
      exact ⟨0, cap, hr.1, fun _ => rfl⟩
    · rename_i b off n cap hs0
      refine put b off n (fun w L0 v hr => ?_) hk
      rw [hs0, Rel] at hr
      obtain ⟨o', h1, h2, h3⟩ := hr
      exact ⟨o', cap, h1, fun hn => h3 (by omega)⟩
    · exact hk.elim
  · exact hk.elim

end Go.Vc
