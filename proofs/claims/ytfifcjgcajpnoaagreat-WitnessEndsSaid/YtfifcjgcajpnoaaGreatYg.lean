/- Copies, as the reference makes them. No condition. -/
import Derived.Test.YtfifcjgcajpnoaaGreatYf
namespace Go.Proofs.YtfifcjgcajpnoaaGreat
set_option linter.unusedSimpArgs false
set_option linter.unusedVariables false
set_option maxRecDepth 20000
open Go Go.Proofs Go.Vc
attribute [local irreducible] retQ VCg VCw

theorem nodup_app {H X : Heap} (h : (H ++ X).blocks.Nodup) : ∀ b, b ∈ H.blocks → b ∉ X.blocks := by
  simp only [Heap.blocks, List.map_append] at h
  obtain ⟨_, _, h3⟩ := List.nodup_append.1 h
  exact fun b hp hr => h3 b hp b hr rfl
theorem FzL.length {H : Heap} : ∀ {l' l : List D}, FzL H l' l → l'.length = l.length
  | [], _, h => by cases h; rfl
  | _ :: _, _, h => by
    obtain ⟨d, ds, rfl, _, h2⟩ := h
    rw [List.length_cons, List.length_cons, FzL.length h2]
/-- Own cells that lead to blocks of one's own: these are let go, and read from now on. -/
theorem Weak.fzc {env : Nat → D} {b n : Nat} {e : TypeId} {l l' : List D} {X H1 : Heap} (h : FzL H1 l' l) : Weak ⟨env, (b, .cells e n l) :: (X ++ H1)⟩ ⟨env, (b, .cells e n l') :: X⟩ := fun x a w hs => by
  have hsub : ((b, HC.cells e n l) :: X).Sublist ((b, HC.cells e n l) :: (X ++ H1)) := (List.sublist_append_left _ _).cons_cons _
  have h1 := Weak.heap hsub x a w hs
  have hnd := hs.inv.nodup
  have hnot : ∀ k, k ∈ H1.blocks → k ∉ Heap.blocks ((b, HC.cells e n l) :: X) := fun k hk hm => by
    simp only at hnd
    have : ((b, HC.cells e n l) :: (X ++ H1)) = ((b, HC.cells e n l) :: X) ++ H1 := rfl
    rw [this] at hnd
    exact nodup_app hnd k hm hk
  have hlv : live ((b, HC.cells e n l') :: X) x.L0 = live ((b, HC.cells e n l) :: X) x.L0 := rfl
  refine { env := fun t => by rw [hlv]; exact h1.env t, inv := ?_, evo := ?_, defers := h1.defers, size := h1.size }
  · refine { rel := fun k c hm => ?_, nodup := h1.inv.nodup, apart := h1.inv.apart, old := h1.inv.old }
    rw [hlv]
    rcases List.mem_cons.1 hm with hm | hm
    · cases hm
      obtain ⟨q1, arr, q2, q3, q4⟩ := hs.inv.rel b _ (List.mem_cons_self ..)
      refine ⟨FzL.one h q1, arr, q2, q3, ?_⟩
      rw [FzL.length h]
      refine RelL.fz (H1 := H1) ⟨hs.inv, fun k c hk => ⟨List.mem_cons_of_mem _ (List.mem_append_right _ hk), fun hl => ?_⟩, fun k _ hl => hl.imp id (SubH.blocks hsub k)⟩ _ _ _ h q4
      rcases hl with hl | hl
      · exact hs.inv.apart k (List.mem_map.2 ⟨(k, c), List.mem_cons_of_mem _ (List.mem_append_right _ hk), rfl⟩) hl
      · exact hnot k (List.mem_map.2 ⟨(k, c), hk, rfl⟩) hl
    · exact h1.inv.rel k c (List.mem_cons_of_mem _ hm)
  · exact ⟨h1.evo.os, h1.evo.tape, h1.evo.output, h1.evo.size, h1.evo.block, h1.evo.fresh⟩
theorem FzL.append {H : Heap} : ∀ {l' l m' m : List D}, FzL H l' l → FzL H m' m → FzL H (l' ++ m') (l ++ m)
  | [], _, _, _, h, h2 => by cases h; exact h2
  | _ :: _, _, _, _, h, h2 => by
    obtain ⟨d, ds, rfl, q1, q2⟩ := h
    exact ⟨d, ds ++ _, rfl, q1, FzL.append q2 h2⟩
theorem shp_some {b cap : Nat} {e : TypeId} {esz : Nat} {l : List D} {X : Heap} : shp (some (b, cap)) e esz l X = (b, .cells e (cap * esz) l) :: X := rfl

set_option maxHeartbeats 8000000 in
theorem rcopy_ok (c : Cf) (hc : OkC c) : Fun Tryz.prog 49 [.agg (cfC c)] [] false (fun d H' => ∃ q : OC, q.ok c ∧ d = .agg (q.cs c) ∧ H' = q.h c []) := by
  have kp := hc.pc
  have kr := hc.regs
  have km := hc.mem
  have kb := hc.bufs
  refine Fun.of T [.cell 2 48] Tryz.func49 rfl Tryz.ntmps49 Tryz.results49 rfl (by kernel_rfl) ?_
  repeat' first | refine vb rfl rfl rfl rfl ?_ | refine vs T rfl fun K hK => ?_; (try simp (disch := omega) only [go_sem, Nat.reduceBEq, Nat.reduceAdd, Nat.reduceLeDiff, flatI, iRs_len, List.nil_append]); (first | refine hK _ _ ?_; clear hK K | refine ⟨_, _, _, _, (by repeat (first | apply Sp.cons | exact Sp.nil)), ?_, (by exact ⟨rfl, rfl⟩), ⟨by decide, ?_⟩, fun g' hg' => hK _ _ ?_⟩ <;> clear hK K | intro bq hbq; (try simp only [HB] at hbq); refine hK _ _ ?_; clear hK K) | refine st rfl ?_ | refine nl ?_
  · rfl
  · omega
  · rfl
  · omega
  rename_i b2 hb2 gp hgp
  revert g'
  intro gm hgm
  refine VC.loop {p : Nat × G × OR // (p.1 ≤ c.regs.length ∧ gOk p.2.1 p.1) ∧ p.2.2.map (·.2) = c.regs.take p.1 ∧ ∀ x, x ∈ p.2.2 → gOk x.1 x.2.length} (fun p => ⟨lookD [(1, .pt (cfC c)), (2, .is (.pointer (some ⟨b2, 0, none⟩))), (3, .is (.pointer (some ⟨bq, 0, none⟩))), (4, iD (p.1.1 : Nat))], (bq, .cells 48 4 [.gs gp c.pc.length, .gs p.1.2.1 p.1.1, .gs gm c.mem.length, .gs none 0]) :: (b2, .cells 48 4 [.gs none 0, .gs none 0, .gs none 0, .gs none 0]) :: shp p.1.2.1 22 1 (rgC p.1.2.2) (rgH p.1.2.2 (shp gm 3 1 (c.mem.map iD) (shp gp 3 1 (c.pc.map iD) [])))⟩) (fun p => c.regs.length - p.1.1) ⟨(0, none, []), by simp [gOk]⟩ ?_ ?_
  · refine Weak.sub ?_
    simp [sub, upd]
  rintro ⟨⟨k, gr, rs⟩, ⟨hk, hgr⟩, hrs, hg⟩
  dsimp only at hk hgr hrs hg ⊢
  have hrl : rs.length = k := by
    have := congrArg List.length hrs
    rw [List.length_map, List.length_take] at this
    omega
  have hfl : (rgC rs).length = k * 1 := by rw [rgC_len]; omega
  rcases Nat.lt_or_ge k c.regs.length with hlt | hge
  · have hd : decide ((k : Int) < (c.regs.length : Int)) = true := by simp; omega
    have hw : IntKind.i64.wrap ((k : Int) + 1) = ((k + 1 : Nat) : Int) := by rw [w64 (by omega)]; omega
    obtain ⟨r, hx⟩ : ∃ r, c.regs[k]? = some r := ⟨_, List.getElem?_eq_getElem hlt⟩
    have hrow : (rowsI c.regs)[k]? = some [ints r] := by rw [rowsI_at, hx]; rfl
    have hrr := hc.row r (List.mem_of_getElem? hx)
    repeat' first | refine vs T rfl fun K hK => ?_; (try simp (disch := omega) only [go_sem, Nat.reduceBEq, Nat.reduceAdd, Nat.reduceMul, Nat.reduceLeDiff, hd, hw, hrow, rowsI_len, flatI, iRs_len, List.nil_append]); (first | refine hK _ _ ?_; clear hK K | refine ⟨_, _, _, _, (by repeat (first | exact Sp.here | apply Sp.cons | exact Sp.nil | apply Sp.over)), ?_, (by exact ⟨rfl, rfl⟩), ⟨by decide, ?_⟩, fun g' hg' => hK _ _ ?_⟩ <;> clear hK K | refine ⟨?_, hK _ _ ?_⟩ <;> clear hK K; focus (try omega)) | refine st rfl ?_ | refine sc rfl ?_ | refine nl ?_
    · rfl
    · omega
    · exact hfl
    · omega
    rename_i q hq
    refine ⟨⟨(k + 1, g', rs ++ [(q, r)]), ⟨by simp only []; omega, hg'⟩, ?_, ?_⟩, ?_, by simp only []; omega⟩
    · simp only []
      rw [List.map_append, hrs, List.take_add_one, hx]; rfl
    · intro p hp
      rcases List.mem_append.1 hp with hp | hp
      · exact hg p hp
      · rw [List.mem_singleton] at hp; subst hp; exact hq
    · have hrc : rgC (rs ++ [(q, r)]) = rgC rs ++ [.gs q r.length] := by simp [rgC]
      refine Weak.trans (Weak.perm (H' := (bq, .cells 48 4 [.gs gp c.pc.length, .gs g' (k + 1), .gs gm c.mem.length, .gs none 0]) :: (b2, .cells 48 4 [.gs none 0, .gs none 0, .gs none 0, .gs none 0]) :: shp g' 22 1 (rgC (rs ++ [(q, r)])) (rgH (rs ++ [(q, r)]) (shp gm 3 1 (c.mem.map iD) (shp gp 3 1 (c.pc.map iD) [])))) (perm_of fun a => by rw [hrc]; simp only [rgH_snoc, cnt_shp, cnt_rgH, cnt_cons, cnt_app, cnt_nil]; omega)) (Weak.sub ?_)
      simp [sub, upd]
  have hd : decide ((k : Int) < (c.regs.length : Int)) = false := by simp; omega
  obtain rfl : k = c.regs.length := by omega
  rw [List.take_length] at hrs
  repeat' first | refine vs T rfl fun K hK => ?_; (try simp (disch := omega) only [go_sem, Nat.reduceBEq, hd, rowsI_len]); (refine hK _ _ ?_; clear hK K) | refine st rfl ?_ | refine sc rfl ?_ | refine nl ?_
  refine VC.loop {p : Nat × G // p.1 ≤ c.bufs.length ∧ gOk p.2 p.1} (fun p => ⟨lookD [(1, .pt (cfC c)), (2, .is (.pointer (some ⟨b2, 0, none⟩))), (3, .is (.pointer (some ⟨bq, 0, none⟩))), (6, iD (p.1.1 : Nat))], (bq, .cells 48 4 [.gs gp c.pc.length, .gs gr c.regs.length, .gs gm c.mem.length, .gs p.1.2 p.1.1]) :: (b2, .cells 48 4 [.gs none 0, .gs none 0, .gs none 0, .gs none 0]) :: shp p.1.2 79 1 ((c.bufs.take p.1.1).map buf) (shp gr 22 1 (rgC rs) (rgH rs (shp gm 3 1 (c.mem.map iD) (shp gp 3 1 (c.pc.map iD) []))))⟩) (fun p => c.bufs.length - p.1.1) ⟨(0, none), by simp [gOk]⟩ ?_ ?_
  · refine Weak.sub ?_
    simp [sub, upd]
  rintro ⟨⟨j, gb⟩, hj, hgb⟩
  dsimp only at hj hgb ⊢
  have hfl2 : ((c.bufs.take j).map buf).length = j * 1 := by rw [List.length_map, List.length_take]; omega
  rcases Nat.lt_or_ge j c.bufs.length with hlt | hge
  · have hd : decide ((j : Int) < (c.bufs.length : Int)) = true := by simp; omega
    have hw : IntKind.i64.wrap ((j : Int) + 1) = ((j + 1 : Nat) : Int) := by rw [w64 (by omega)]; omega
    obtain ⟨r, hx⟩ : ∃ r, c.bufs[j]? = some r := ⟨_, List.getElem?_eq_getElem hlt⟩
    have hrow : (bufsR c.bufs)[j]? = some [buf r] := by rw [bufsR_at, hx]; rfl
    have hrr := hc.buf r (List.mem_of_getElem? hx)
    repeat' first | refine vs T rfl fun K hK => ?_; (try simp (disch := omega) only [go_sem, Nat.reduceBEq, Nat.reduceAdd, Nat.reduceMul, Nat.reduceLeDiff, hd, hw, hrow, bufsR_len, eRs_len, List.nil_append]); (first | refine hK _ _ ?_; clear hK K | refine ⟨_, _, _, _, (by repeat (first | exact Sp.here | apply Sp.cons | apply Sp.over)), ?_, (by exact ⟨rfl, rfl⟩), ⟨by decide, ?_⟩, fun g' hg' => hK _ _ ?_⟩ <;> clear hK K | refine ⟨_, _, _, _, (by repeat (first | apply Sp.cons | exact Sp.nil)), ?_, (by exact ⟨rfl, rfl⟩), ?_, fun g' hg' => hK _ _ ?_⟩ <;> clear hK K | refine ⟨?_, hK _ _ ?_⟩ <;> clear hK K; focus (try omega)) | refine st rfl ?_ | refine sc rfl ?_ | refine nl ?_
    · rfl
    · omega
    · exact hfl2
    · omega
    rename_i q hq
    rcases g' with _ | ⟨bb, cap⟩
    · have : j + 1 = 0 := hg'
      omega
    have htk : (c.bufs.take (j + 1)).map buf = (c.bufs.take j).map buf ++ [buf r] := by
      rw [List.take_add_one, hx]
      simp
    refine ⟨⟨(j + 1, some (bb, cap)), by simp only []; omega, hg'⟩, ?_, by simp only []; omega⟩
    refine Weak.trans (Weak.perm (H' := (bb, .cells 79 (cap * 1) ((c.bufs.take j).map buf ++ [.gs q r.length])) :: (((bq, .cells 48 4 [.gs gp c.pc.length, .gs gr c.regs.length, .gs gm c.mem.length, .gs (some (bb, cap)) (j + 1)]) :: (b2, .cells 48 4 [.gs none 0, .gs none 0, .gs none 0, .gs none 0]) :: (shp gr 22 1 (rgC rs) (rgH rs (shp gm 3 1 (c.mem.map iD) (shp gp 3 1 (c.pc.map iD) []))))) ++ shp q 77 2 (eRs r).flatten []))
      (perm_of fun a => by simp only [shp_some, cnt_shp, cnt_rgH, cnt_cons, cnt_app, cnt_nil]; omega)) ?_
    refine Weak.trans (Weak.fzc (l' := (c.bufs.take j).map buf ++ [buf r]) (FzL.append (FzL.refl _ _) (fz_cons (Fz_shp hq (eRs_len r) (eRs_row r)) fz_end))) ?_
    refine Weak.trans (Weak.perm (H' := (bq, .cells 48 4 [.gs gp c.pc.length, .gs gr c.regs.length, .gs gm c.mem.length, .gs (some (bb, cap)) (j + 1)]) :: (b2, .cells 48 4 [.gs none 0, .gs none 0, .gs none 0, .gs none 0]) :: shp (some (bb, cap)) 79 1 ((c.bufs.take (j + 1)).map buf) (shp gr 22 1 (rgC rs) (rgH rs (shp gm 3 1 (c.mem.map iD) (shp gp 3 1 (c.pc.map iD) [])))))
      (perm_of fun a => by rw [htk]; simp only [shp_some, cnt_shp, cnt_rgH, cnt_cons, cnt_app, cnt_nil]; omega)) (Weak.sub ?_)
    simp [sub, upd]
  have hd : decide ((j : Int) < (c.bufs.length : Int)) = false := by simp; omega
  obtain rfl : j = c.bufs.length := by omega
  rw [List.take_length]
  refine VC.weak (Weak.perm (H' := (bq, .cells 48 4 [.gs gp c.pc.length, .gs gr c.regs.length, .gs gm c.mem.length, .gs gb c.bufs.length]) :: (b2, .cells 48 4 [.gs none 0, .gs none 0, .gs none 0, .gs none 0]) :: (OC.mk gp gr gm gb rs).h c []) (perm_of fun a => by simp only [OC.h, cnt_shp, cnt_rgH, cnt_cons, cnt_app, cnt_nil]; omega)) ?_
  have hne : ¬ bq = b2 := hbq
  repeat' first | refine vs T rfl fun K hK => ?_; (try simp (disch := omega) only [go_sem, Nat.reduceBEq, Nat.reduceAdd, Nat.reduceLeDiff, hd, bufsR_len, OC.h]); (refine hK _ _ ?_; clear hK K) | refine st rfl ?_ | refine sc rfl ?_ | refine nl ?_
  refine retc T rfl (by (simp (disch := omega) only [hget_ne, hget_eq]); rfl) rfl rfl rfl ((List.sublist_cons_self _ _).trans (List.sublist_cons_self _ _)) ⟨⟨gp, gr, gm, gb, rs⟩, ⟨hgp, hgr, hgm, hgb, hrs, hg⟩, rfl, rfl⟩
end Go.Proofs.YtfifcjgcajpnoaaGreat
