/- What a buffer lets go. No condition. -/
import Derived.Test.YtfifcjgcajpnoaaYk
import Derived.Test.YtfifcjgcajpnoaaK2
namespace Go.Proofs.Ytfifcjgcajpnoaa
set_option linter.unusedSimpArgs false
set_option linter.unusedVariables false
set_option maxRecDepth 20000
open Go Go.Proofs Go.Vc
attribute [local irreducible] retQ VCg VCw

def flushC (c : Cf) (m t loc : Int) : Cf := match flushB c m t loc with
  | true => setM (setB c t.toNat (popF m loc (c.bufs.getD t.toNat [])).1) (popF m loc (c.bufs.getD t.toNat [])).2.1.1.toNat (popF m loc (c.bufs.getD t.toNat [])).2.1.2
  | false => c
/-- The entries' locations are in the memory. -/
def LocsIn (c : Cf) : Prop := ∀ b, b ∈ c.bufs → ∀ e, e ∈ b → 0 ≤ e.1 ∧ e.1 < c.mem.length
theorem pop_mem {m loc : Int} {b : List En} (h : (popF m loc b).2.2 = true) : (popF m loc b).2.1 ∈ b := by
  unfold popF at h ⊢
  cases hn : nextF m loc b with
  | none => rw [hn] at h; cases h
  | some k =>
    have hk := nextF_lt hn
    simp only
    rw [List.getElem?_eq_getElem hk]
    exact List.getElem_mem hk

theorem cfz {q : OC} {c : Cf} (h : q.ok c) {H : Heap} (hm : ∀ y, y ∈ q.h c [] → y ∈ H) (v : Bool) : Fz H (.tup [.agg (cfC c), bD v]) (.tup [.agg (q.cs c), bD v]) :=
  ⟨_, rfl, fz_cons ⟨_, rfl, OC.fzL (X := []) h hm⟩ (FzL.refl _ _)⟩

set_option maxHeartbeats 16000000 in
theorem flush_ok (c : Cf) (hc : OkC c) (hin : LocsIn c) (m t loc : Int) : Pure Try.prog 110 [.agg (cfC c), iD m, iD t, iD loc] (.tup [.agg (cfC (flushC c m t loc)), bD (flushB c m t loc)]) := by
  have cc := copy_ok c hc
  have cf := flushes_ok c hc.buf m t loc
  refine Fun.fz ?_
  refine Fun.of T [.cell 8 41, .tmp 9] Try.func110 rfl Try.ntmps110 Try.results110 rfl (by kernel_rfl) ?_
  repeat' first | refine vb (t := 41) rfl rfl rfl rfl ?_ | refine vs T rfl fun K hK => ?_; (try simp (disch := omega) only [go_sem, Nat.reduceBEq, Nat.reduceAdd, Nat.reduceLeDiff]); (first | refine hK _ _ ?_; clear hK K | intro bq hbq; (try simp only [HB] at hbq); refine hK _ _ ?_; clear hK K | skip) | refine st rfl ?_ | refine nl ?_
  refine Op1.callx rfl rfl cc rfl (fun q hq => ?_)
  refine hK _ _ ?_
  clear hK K
  refine vo ?_
  refine VCo.weak (Weak.perm (H' := (bq, .cells 41 4 [.gs none 0, .gs none 0, .gs none 0, .gs none 0]) :: q.h c []) (perm_of fun a => by simp only [cnt_cons, cnt_app, cnt_nil]; omega)) ?_
  revert bq
  intro b8
  cases hfl : flushB c m t loc with
  | false =>
    rw [hfl] at cf
    have hfc : flushC c m t loc = c := by simp [flushC, hfl]
    rw [hfc]
    repeat' first | refine vs T rfl fun K hK => ?_; (try simp (disch := omega) only [go_sem, Nat.reduceBEq, Nat.reduceAdd, Nat.reduceLeDiff, OC.cs, Bool.not_false]); (first | refine hK _ _ ?_; clear hK K | intro bq hbq; (try simp only [HB] at hbq); refine hK _ _ ?_; clear hK K | refine Op1.callp rfl rfl (cf) rfl ?_; refine hK _ _ ?_; clear hK K) | refine st rfl ?_ | refine sc rfl ?_ | refine nl ?_ | refine ov ?_
    exact retc1 T rfl (by (try simp (disch := omega) only [hget_ne, hget_eq]); rfl) rfl rfl rfl (List.Sublist.refl _) (cfz hq (fun y hy => List.mem_cons_of_mem _ (List.mem_cons_of_mem _ hy)) false)
  | true =>
    rw [hfl] at cf
    have ht0 : 0 ≤ t := by
      rcases Int.lt_or_le t 0 with h | h
      · simp [flushB, Int.not_le.2 h] at hfl
      · exact h
    obtain ⟨i, rfl⟩ : ∃ i : Nat, t = (i : Int) := ⟨t.toNat, by omega⟩
    obtain ⟨b, hb⟩ : ∃ b, c.bufs[i]? = some b := by
      cases hb : c.bufs[i]? with
      | none => simp [flushB, hb] at hfl
      | some b => exact ⟨b, rfl⟩
    have hil := (List.getElem?_eq_some_iff.1 hb).1
    have kb := hc.buf b (List.mem_of_getElem? hb)
    have hp2 : (popF m loc b).2.2 = true := by simpa [flushB, hb] using hfl
    have hem := hin b (List.mem_of_getElem? hb) _ (pop_mem hp2)
    have rb : (bufsR c.bufs)[i]? = some [buf b] := by rw [bufsR_at, hb]; rfl
    have cp : Pure Try.prog 112 [buf b, iD m, iD loc] (.tup [buf (popF m loc b).1, .agg [iD (popF m loc b).2.1.1, iD (popF m loc b).2.1.2], bD (popF m loc b).2.2]) := pop_ok b (by omega) m loc
    have hfc : flushC c m (i : Nat) loc = setM (setB c i (popF m loc b).1) (popF m loc b).2.1.1.toNat (popF m loc b).2.1.2 := by simp [flushC, hfl, List.getD_eq_getElem?_getD, hb]
    rw [hfc]
    have hq3 := OC.okM (OC.okB hq i (popF m loc b).1) (popF m loc b).2.1.1.toNat (popF m loc b).2.1.2
    generalize (popF m loc b) = pp at *
    obtain ⟨b', ⟨e1, e2⟩, is⟩ := pp
    simp only at hp2 hem cp hq3 hfc ⊢
    obtain ⟨gp, gr, gm, gb, rs⟩ := q
    rcases gb with _ | ⟨bb, capb⟩
    · have h0 : c.bufs.length = 0 := hq.bufs
      omega
    rcases gm with _ | ⟨bm, capm⟩
    · have h0 : c.mem.length = 0 := hq.mem
      omega
    refine VCo.weak (Weak.perm (H' := (b8, .cells 41 4 [.gs none 0, .gs none 0, .gs none 0, .gs none 0]) :: (bb, .cells 82 (capb * 1) (c.bufs.map buf)) :: (bm, .cells 3 (capm * 1) (c.mem.map iD)) :: shp gp 3 1 (c.pc.map iD) (shp gr 22 1 (rgC rs) (rgH rs []))) (perm_of fun a => by simp only [OC.h, shp_some, cnt_shp, cnt_rgH, cnt_cons, cnt_app, cnt_nil]; omega)) ?_
    refine VCo.nodup fun hn => ?_
    have n1 : ¬ b8 = bb := fun h => by subst h; simp [Heap.blocks] at hn
    have n2 : ¬ b8 = bm := fun h => by subst h; simp [Heap.blocks] at hn
    have n3 : ¬ bb = bm := fun h => by subst h; simp [Heap.blocks] at hn
    repeat' first | refine VC.drawS (id := 5) (by kernel_rfl) ?_ | refine vs T rfl fun K hK => ?_; (try simp (disch := omega) only [go_sem, Nat.reduceBEq, Nat.reduceAdd, Nat.reduceLeDiff, OC.cs, Bool.not_true, rb, bufsR_len]); (first | refine hK _ _ ?_; clear hK K | intro bq hbq; (try simp only [HB] at hbq); refine hK _ _ ?_; clear hK K | refine ⟨?_, hK _ _ ?_⟩ <;> clear hK K; focus (try omega) | refine Op1.callp rfl rfl (cf) rfl ?_; refine hK _ _ ?_; clear hK K | refine Op1.callp rfl rfl (cp) rfl ?_; refine hK _ _ ?_; clear hK K) | refine st rfl ?_ | refine sc rfl ?_ | refine nl ?_ | refine ov ?_
    rename_i hb8 b10 hb10
    have hpm : ((OC.mk gp gr (some (bm, capm)) (some (bb, capb)) rs).h (setM (setB c i b') e1.toNat e2) []).Perm ((bb, .cells 82 (capb * 1) ((c.bufs.map buf).set (i * 1) (buf b'))) :: (bm, .cells 3 (capm * 1) ((c.mem.map iD).set (e1.toNat * 1) (iD e2))) :: shp gp 3 1 (c.pc.map iD) (shp gr 22 1 (rgC rs) (rgH rs []))) :=
      perm_of fun a => by simp only [OC.h, setM, setB, Nat.mul_one, List.map_set, shp_some, cnt_shp, cnt_rgH, cnt_cons, cnt_app, cnt_nil]; omega
    refine VCd.groupW T ((bq, .cells 70 2 [iD e1, iD e2]) :: (b10, .cells 41 4 [.gs gp c.pc.length, .gs gr c.regs.length, .gs (some (bm, capm)) c.mem.length, .gs (some (bb, capb)) c.bufs.length]) :: (b8, .cells 41 4 [.gs none 0, .gs none 0, .gs none 0, .gs none 0]) :: (bb, .cells 82 (capb * 1) ((c.bufs.map buf).set (i * 1) (buf b'))) :: (bm, .cells 3 (capm * 1) (c.mem.map iD)) :: shp gp 3 1 (c.pc.map iD) (shp gr 22 1 (rgC rs) (rgH rs []))) 11 12 12 rfl rfl rfl (by kernel_rfl) (by kernel_rfl) (by kernel_rfl) ?_
    repeat' first | apply VCw.step T rfl rfl (by rfl); (focus ((try simp (disch := omega) only [go_sem, Nat.reduceBEq]); (first | exact rfl | refine ⟨?_, rfl⟩; try omega))); (focus (try simp (disch := omega) only [go_sem, Nat.reduceBEq])); (focus (try omega)) | refine VCw.write T rfl rfl (by rfl) ?_ ?_; focus ((try simp (disch := omega) only [go_sem, Nat.reduceBEq]); omega) | refine VCw.nil T ?_ | refine VCd.tail (f := 12) (by kernel_rfl) ?_; (try simp only [List.drop_succ_cons, List.drop_zero]) | refine vs T rfl fun K hK => ?_; (try simp (disch := omega) only [go_sem, Nat.reduceBEq, Nat.reduceAdd, Nat.reduceLeDiff]); (first | refine hK _ _ ?_; clear hK K | refine ⟨?_, hK _ _ ?_⟩ <;> clear hK K; focus (try omega)) | refine st rfl ?_ | refine nl ?_ | refine ov ?_
    have hcs : (OC.mk gp gr (some (bm, capm)) (some (bb, capb)) rs).cs (setM (setB c i b') e1.toNat e2) = [.gs gp c.pc.length, .gs gr c.regs.length, .gs (some (bm, capm)) c.mem.length, .gs (some (bb, capb)) c.bufs.length] := by simp [OC.cs, setM, setB]
    refine retc1 T rfl (by (try simp (disch := omega) only [hget_ne, hget_eq]); rfl) rfl rfl rfl (List.Sublist.refl _) ?_
    rw [← hcs]
    exact cfz hq3 (fun y hy => List.mem_cons_of_mem _ (List.mem_cons_of_mem _ (List.mem_cons_of_mem _ (hpm.mem_iff.1 hy)))) true

end Go.Proofs.Ytfifcjgcajpnoaa
