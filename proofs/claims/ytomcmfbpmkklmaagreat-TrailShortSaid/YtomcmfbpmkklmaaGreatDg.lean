/- Contracts: the reference finds all that can be reached. No condition. -/
import Derived.Test.YtomcmfbpmkklmaaGreatDf
import Derived.Test.YtomcmfbpmkklmaaGreatSa
import Derived.Test.YtomcmfbpmkklmaaGreatRt
namespace Go.Proofs.YtomcmfbpmkklmaaGreat
set_option maxHeartbeats 16000000
set_option linter.unusedSimpArgs false
set_option linter.unusedVariables false
set_option maxRecDepth 20000
open Go Go.Proofs Go.Vc
attribute [local irreducible] retQ VCg VCw VCx
theorem sameC_iff {a b : Cf} : sameC a b = true ↔ a = b := ⟨fun h => (sameC_eq h).symm, fun h => by subst h; exact sameC_refl a⟩
theorem find15_ok (C : List Cf) (g : Cs) (P B : List Int) (hl : C.length ≤ 1000000) (hC : ∀ c, c ∈ C → OkC c) (c : Cf) (hc : OkC c) : Pure Tryz.prog 45 [.agg (spC C g P B), .agg (cfC c)] (iD (plI (idxD C c))) := by
 refine Fun.of T [.tmp 4] Tryz.func45 rfl Tryz.ntmps45 Tryz.results45 rfl (by kernel_rfl) ?_
 repeat' first | refine vb (t := 34) rfl rfl rfl rfl ?_ | refine vb (t := 43) rfl rfl rfl rfl ?_ | refine vs T rfl fun K hK => ?_; (try simp (disch := omega) only [go_sem]); (refine hK _ _ ?_; clear hK K) | refine st rfl ?_ | refine nl ?_
 refine VC.loop {k : Nat // k ≤ C.length ∧ ∀ i, i < k → C[i]? ≠ some c} (fun p => ⟨lookD [(2, .pt (spC C g P B)), (3, .pt (cfC c)), (5, iD (p.1 : Nat))], []⟩) (fun p => C.length - p.1) ⟨0, by omega, fun i hi => by omega⟩ ?_ ?_
 ·refine Weak.sub ?_
  simp [sub, upd]
 rintro ⟨k, hk, hs⟩
 dsimp only
 rcases Nat.lt_or_ge k C.length with hlt | hge
 case inr =>
  obtain rfl : k = C.length := by omega
  rw [idx_no hs]
  repeat' first | refine vs T rfl fun K hK => ?_; (try simp (disch := omega) only [go_sem, Nat.reduceBEq, cfsRows_l]); (refine hK _ _ ?_; clear hK K) | refine st rfl ?_ | refine sc rfl ?_ | refine nl ?_ | exact ret1 T (List.nil_sublist _) ⟨rfl, rfl⟩ | with_reducible refine gsplit_intro (fun hc => ?_) (fun hc => ?_) <;> (try simp only [decide_eq_true_eq, decide_eq_false_iff_not, Int.not_lt] at hc) <;> (try (exfalso; omega))
 have hat := getD_at (d := (default : Cf)) hlt
 have cs := rsame_ok (C.getD k default) c (hC _ (getD_mem hlt)) hc
 cases h : sameC (C.getD k default) c with
 | true =>
  rw [h] at cs
  rw [idx_at (by rw [hat, sameC_iff.1 h]) hs]
  repeat' first | refine dr (id := 4) T 6 (by kernel_rfl) ?_ | refine gn ?_ | apply VCg.step T rfl rfl; focus ((try simp (disch := omega) only [go_sem, Nat.reduceBEq, Nat.reduceAdd, Nat.reduceLeDiff, ix_cfs, Int.toNat_natCast]); (first | exact rfl | refine ⟨?_, rfl⟩; try omega)) | refine vs T rfl fun K hK => ?_; (try simp (disch := omega) only [go_sem, Nat.reduceBEq, cfsRows_l]); (first | refine hK _ _ ?_; clear hK K | refine Op1.callp rfl rfl (cs) rfl ?_; refine hK _ _ ?_; clear hK K) | refine st rfl ?_ | refine sc rfl ?_ | refine nl ?_ | exact ret1 T (List.nil_sublist _) ⟨rfl, rfl⟩ | with_reducible refine gsplit_intro (fun hc => ?_) (fun hc => ?_) <;> (try simp only [decide_eq_true_eq, decide_eq_false_iff_not, Int.not_lt] at hc) <;> (try (exfalso; omega))
 | false =>
  rw [h] at cs
  repeat' first | refine dr (id := 4) T 6 (by kernel_rfl) ?_ | refine gn ?_ | apply VCg.step T rfl rfl; focus ((try simp (disch := omega) only [go_sem, Nat.reduceBEq, Nat.reduceAdd, Nat.reduceLeDiff, ix_cfs, Int.toNat_natCast]); (first | exact rfl | refine ⟨?_, rfl⟩; try omega)) | refine vs T rfl fun K hK => ?_; (try simp (disch := omega) only [go_sem, Nat.reduceBEq, cfsRows_l, w64]); (first | refine hK _ _ ?_; clear hK K | refine Op1.callp rfl rfl (cs) rfl ?_; refine hK _ _ ?_; clear hK K) | refine st rfl ?_ | refine sc rfl ?_ | refine nl ?_ | with_reducible refine gsplit_intro (fun hc => ?_) (fun hc => ?_) <;> (try simp only [decide_eq_true_eq, decide_eq_false_iff_not, Int.not_lt] at hc) <;> (try (exfalso; omega))
  refine ⟨⟨k + 1, by omega, fun i hi => ?_⟩, Weak.sub ?_, by simp only []; omega⟩
  ·rcases Nat.lt_or_ge i k with h' | h'
   ·exact hs i h'
   ·obtain rfl : i = k := by omega
    rw [hat]
    rintro e
    rw [Option.some.inj e, sameC_refl] at h
    cases h
  ·simp [sub, upd]
def argS (m r b : Int) : Bool := (decide (1 ≤ m) && decide (m ≤ 3)) && ((decide (1 ≤ r) && decide (r ≤ 4)) && (decide (1 ≤ b) && decide (b ≤ 100000)))
def errS (u : Un) (m r b : Int) : Int := match unitB u, argS m r b with
 | false, _ => 8
 | true, false => 1
 | true, true => match allS u m r b with
  | some _ => 0
  | none => 18
def spR (u : Un) (m r b : Int) : List D := match unitB u && argS m r b with
 | true => match allS u m r b with
  | some S => spA S
  | none => spC [] ⟨[], [], []⟩ [] []
 | false => spC [] ⟨[], [], []⟩ [] []
abbrev spZ : List D := [.gs none 0, .gs none 0, .gs none 0, .gs none 0, .gs none 0, .gs none 0]
theorem fz_spZ {H : Heap} {a : D} : Fz H (.tup [.agg (spC [] ⟨[], [], []⟩ [] []), a]) (.tup [.agg spZ, a]) :=
 ⟨_, rfl, fz_cons ⟨_, rfl, fz_cons fz_nil (fz_cons fz_nil (fz_cons fz_nil (fz_cons fz_nil (fz_cons fz_nil (fz_cons fz_nil fz_end)))))⟩ (FzL.refl _ _)⟩
abbrev spD (bc cc : Nat) (gp gb : Option (Nat × Nat)) (n1 n2 n3 : Nat) : List D := [.gs (some (bc, cc)) n1, .gs none 0, .gs none 0, .gs none 0, .gs gp n2, .gs gb n3]
abbrev spH (bc cc : Nat) (gp gb gl : Option (Nat × Nat)) (S : Spc Cf) : Heap :=
 (bc, .cells 43 (cc * 4) (cfsRows S.cf).flatten) :: shp gp 3 1 (S.pa.map iD) (shp gb 3 1 (S.ag.map iD) (shp gl 62 3 (edRs (edS S)).flatten []))
theorem cfs_at {C : List Cf} {i : Nat} (h : i < C.length) : ((cfsRows C).flatten.drop (i * 4)).take 4 = cfC (C.getD i default) := by
 induction C generalizing i with
 | nil => simp at h
 | cons c C ih =>
  cases i with
  | zero => rfl
  | succ i =>
   have : (cfsRows (c :: C)).flatten = cfC c ++ (cfsRows C).flatten := rfl
   rw [this, show (i + 1) * 4 = (cfC c).length + i * 4 by simp; omega, List.drop_length_add_append, ih (by simpa using h)]
   simp
theorem fz_spD {bc cc : Nat} {gp gb gl : Option (Nat × Nat)} {S : Spc Cf} {H : Heap} (h1 : S.cf.length ≤ cc) (h2 : gOk gp S.pa.length) (h3 : gOk gb S.ag.length) (hm : ∀ x, x ∈ spH bc cc gp gb gl S → x ∈ H) :
  Fz H (.agg (spC S.cf ⟨[], [], []⟩ S.pa S.ag)) (.agg (spD bc cc gp gb S.cf.length S.pa.length S.ag.length)) := by
 have z1 : Fz H (.sl false 4 (cfsRows S.cf)) (.gs (some (bc, cc)) S.cf.length) := Fz_gs (e := 43) (cfsRows_l S.cf).symm h1 (fun b c e => by cases e; exact hm _ (List.mem_cons_self ..)) (FzR.refl _ _ (cfsRows_row _))
 have z2 := Fz_ints (e := 3) (s := S.pa) (H := H) h2 fun b c e => hm _ (List.mem_cons_of_mem _ (by subst e; exact mem_shp0))
 have z3 := Fz_ints (e := 3) (s := S.ag) (H := H) h3 fun b c e => hm _ (List.mem_cons_of_mem _ (mem_shp (by subst e; exact mem_shp0)))
 exact ⟨_, rfl, fz_cons z1 (fz_cons fz_nil (fz_cons fz_nil (fz_cons fz_nil (fz_cons z2 (fz_cons z3 fz_end)))))⟩
theorem fz_spF {bc cc : Nat} {gp gb : Option (Nat × Nat)} {S : Spc Cf} {g : Cs} {H : Heap} {a : D} (h1 : S.cf.length ≤ cc) (h2 : gOk gp S.pa.length) (h3 : gOk gb S.ag.length) (hm : ∀ x, x ∈ (bc, HC.cells 43 (cc * 4) (cfsRows S.cf).flatten) :: shp gp 3 1 (S.pa.map iD) (shp gb 3 1 (S.ag.map iD) []) → x ∈ H) :
  Fz H (.tup [.agg (spC S.cf g S.pa S.ag), a]) (.tup [.agg [.gs (some (bc, cc)) S.cf.length, ints g.st, ints g.ag, ints g.to, .gs gp S.pa.length, .gs gb S.ag.length], a]) := by
 have z1 : Fz H (.sl false 4 (cfsRows S.cf)) (.gs (some (bc, cc)) S.cf.length) := Fz_gs (e := 43) (cfsRows_l S.cf).symm h1 (fun b c e => by cases e; exact hm _ (List.mem_cons_self ..)) (FzR.refl _ _ (cfsRows_row _))
 have z2 := Fz_ints (e := 3) (s := S.pa) (H := H) h2 fun b c e => hm _ (List.mem_cons_of_mem _ (by subst e; exact mem_shp0))
 have z3 := Fz_ints (e := 3) (s := S.ag) (H := H) h3 fun b c e => hm _ (List.mem_cons_of_mem _ (mem_shp (by subst e; exact mem_shp0)))
 exact ⟨_, rfl, fz_cons ⟨_, rfl, fz_cons z1 (fz_cons (Fz.refl _ _) (fz_cons (Fz.refl _ _) (fz_cons (Fz.refl _ _) (fz_cons z2 (fz_cons z3 fz_end)))))⟩ (FzL.refl _ _)⟩
theorem fz_edS {gl : Option (Nat × Nat)} {S : Spc Cf} {H : Heap} (hg : gOk gl S.ed.length) (hm : ∀ b cap, gl = some (b, cap) → (b, HC.cells 62 (cap * 3) (edRs (edS S)).flatten) ∈ H) : Fz H (edsD (edS S)) (.gs gl S.ed.length) :=
 Fz_gs (e := 62) (by rw [edRs_len, edS_len]) hg hm (FzR.refl _ _ (edRs_row _))
theorem rall_in (u : Un) (hu : OkU u) (m r b : Int) (hU : unitB u = true) (hA : argS m r b = true) (hb : b ≤ 1000) : Pure Tryz.prog 16 [.agg (unC u), iD m, iD r, iD b] (.tup [.agg (spR u m r b), iD (errS u m r b)]) := by
 have cs := rstart_ok u hu
 have cs : Pure Tryz.prog 61 [.agg (unC u)] (.tup [.agg (cfC (startC u)), iD 0]) := by rwa [show begC u = startC u by simp [begC, hU], show begE u = 0 by simp [begE, hU]] at cs
 have hA' := hA
 simp only [argS, Bool.and_eq_true, decide_eq_true_eq] at hA'
 have h0 := start_right hu hU hA'.1 hA'.2.1
 refine Fun.fz ?_
 refine Fun.of T [.cell 8 34, .tmp 9] Tryz.func16 rfl Tryz.ntmps16 Tryz.results16 rfl (by kernel_rfl) ?_
 repeat' first | refine vb (t := 25) rfl rfl rfl rfl ?_ | refine vs T rfl fun K hK => ?_; (try simp (disch := omega) only [go_sem, Nat.reduceBEq, Nat.reduceAdd, Nat.reduceMul, Nat.reduceLeDiff]); (first | refine hK _ _ ?_; clear hK K | refine ⟨_, _, _, _, (by repeat (first | apply Sp.cons | exact Sp.nil)), ?_, (by exact ⟨rfl, rfl⟩), ⟨by decide, ?_⟩, fun g' hg' => hK _ _ ?_⟩ <;> clear hK K | refine ⟨_, _, _, _, (by repeat (first | apply Sp.cons | exact Sp.nil)), ?_, (by exact ⟨rfl, rfl⟩), ?_, fun g' hg' => hK _ _ ?_⟩ <;> clear hK K | intro bq hbq; (try simp only [HB] at hbq); refine hK _ _ ?_; clear hK K | refine Op1.callp rfl rfl (cs) rfl ?_; refine hK _ _ ?_; clear hK K) | refine st rfl ?_ | refine sc rfl ?_ | refine nl ?_ | refine gs rfl rfl ?_ | with_reducible refine gsplit_intro (fun hc => ?_) (fun hc => ?_) <;> (try simp only [decide_eq_true_eq, decide_eq_false_iff_not, gt_iff_lt, Int.not_lt] at hc) <;> (try (exfalso; omega))
 ·rfl
 ·decide
 ·rfl
 ·decide
 ·rfl
 ·decide
 rename_i b8 t8 b10 h10 c1 c2 c3 c4 c5 gc hgc gp hgp
 have hE0 : errS u m r b = match allS u m r b with | some _ => 0 | none => 18 := by simp only [errS, hU, hA]
 have hS0 : spR u m r b = match allS u m r b with | some S => spA S | none => spC [] ⟨[], [], []⟩ [] [] := by simp only [spR, hU, hA, Bool.and_self]
 rcases gc with _ | ⟨bc, cc⟩
 ·cases hgc
 have hall : allS u m r b = rowsA (fun c => movesF u c m r) (fun c a => actM u c m r a) b.toNat (b.toNat + 1) 0 ⟨[startC u], [-1], [-1], []⟩ := rfl
 obtain ⟨B, rfl⟩ : ∃ B : Nat, b = (B : Int) := ⟨b.toNat, by omega⟩
 rw [Int.toNat_natCast] at hall
 refine VC.loop {p : Spc Cf × Nat × (Nat × Nat) × Option (Nat × Nat) × Option (Nat × Nat) × Option (Nat × Nat) // p.2.1 ≤ p.1.cf.length ∧ p.1.cf.length ≤ B ∧ 1 ≤ p.1.cf.length ∧ (p.1.pa.length = p.1.cf.length ∧ p.1.ag.length = p.1.cf.length ∧ p.1.ed.length ≤ 28 * p.2.1) ∧ (∀ c, c ∈ p.1.cf → Rt u c m r) ∧
   allS u m r B = rowsA (fun c => movesF u c m r) (fun c a => actM u c m r a) B (B + 1 - p.2.1) p.2.1 p.1 ∧ (p.1.cf.length ≤ p.2.2.1.2 ∧ gOk p.2.2.2.1 p.1.pa.length ∧ gOk p.2.2.2.2.1 p.1.ag.length)}
  (fun p => ⟨lookD [(1, iD m), (2, iD r), (3, iD (B : Nat)), (4, .pt (unC u)), (8, pD b8), (12, pD bq), (13, .gs p.1.2.2.2.2.2 p.1.1.ed.length), (14, iD (p.1.2.1 : Nat))],
   (bq, .cells 34 6 (spD p.1.2.2.1.1 p.1.2.2.1.2 p.1.2.2.2.1 p.1.2.2.2.2.1 p.1.1.cf.length p.1.1.pa.length p.1.1.ag.length)) :: (b10, .cells 43 4 (cfC (startC u))) :: (b8, .cells 34 6 spZ) :: spH p.1.2.2.1.1 p.1.2.2.1.2 p.1.2.2.2.1 p.1.2.2.2.2.1 p.1.2.2.2.2.2 p.1.1⟩)
  (fun p => B + 1 - p.1.2.1) ⟨(⟨[startC u], [-1], [-1], []⟩, 0, (bc, cc), gp, g', none), by dsimp only; exact ⟨Nat.zero_le _, by simp only [List.length_cons, List.length_nil]; omega, Nat.le_refl _, ⟨rfl, rfl, by decide⟩, fun c hc => by rw [List.mem_singleton] at hc; rw [hc]; exact h0, hall, hgc, hgp, hg'⟩⟩ ?_ ?_
 ·refine Weak.trans (Weak.perm perm3) (Weak_subEq rfl ?_)
  simp [sub, upd]
 rintro ⟨⟨S, i, ⟨bc, cc⟩, gp, gb, gl⟩, hi, hSb, hS1, ⟨hpa, hag, hed⟩, hrt, hE, hcc, hgp, hgb⟩
 dsimp only at hi hSb hS1 hpa hag hed hrt hE hcc hgp hgb ⊢
 refine VC.nodup fun hn => ?_
 simp only [Heap.blocks, List.map_cons, List.nodup_cons, List.mem_cons, not_or] at hn
 obtain ⟨⟨q1, q2, q3, _⟩, ⟨q4, q5, _⟩, ⟨q6, _⟩, _⟩ := hn
 rcases Nat.lt_or_ge i S.cf.length with hlt | hge
 case inr =>
  obtain rfl : i = S.cf.length := by omega
  rw [rowsA_end (Nat.le_refl _)] at hE
  have hG := gphS_ok hE (by omega)
  have cb := build14_ok (S.cf.length : Nat) (edS S) (by rw [edS_len]; omega)
  rw [buildR_ok (by omega) hG] at cb
  rw [hS0, hE0, hE]
  refine VC_gok (t := 13) rfl fun hgl => ?_
  repeat' first | refine vs T rfl fun K hK => ?_; (try simp (disch := omega) only [go_sem, Nat.reduceBEq]); (first | refine hK _ _ ?_; clear hK K | skip) | refine st rfl ?_ | refine sc rfl ?_ | refine nl ?_ | with_reducible refine gsplit_intro (fun hc => ?_) (fun hc => ?_) <;> (try simp only [decide_eq_true_eq, decide_eq_false_iff_not, Int.not_lt] at hc) <;> (try (exfalso; omega))
  refine Op1.callG (Hp := shp gl 62 3 (edRs (edS S)).flatten []) (Hr := (bq, .cells 34 6 (spD bc cc gp gb S.cf.length S.pa.length S.ag.length)) :: (b10, .cells 43 4 (cfC (startC u))) :: (b8, .cells 34 6 spZ) :: (bc, .cells 43 (cc * 4) (cfsRows S.cf).flatten) :: shp gp 3 1 (S.pa.map iD) (shp gb 3 1 (S.ag.map iD) [])) rfl rfl rfl
   (Fun.lendF cb (fz_cons (Fz.refl _ _) (fz_cons (fz_edS hgl fun b cap e => by subst e; exact mem_shp0) fz_end))) (perm_of fun a => by simp only [cnt_cons, cnt_shp, cnt_app, cnt_nil]; omega) (fun d H' h => ?_)
  obtain ⟨rfl, rfl⟩ := h
  refine hK _ _ ?_
  clear hK K
  simp only [List.nil_append]
  repeat' first | refine vs T rfl fun K hK => ?_; (try simp (disch := omega) only [go_sem, Nat.reduceBEq, Nat.reduceAdd, Nat.reduceLeDiff]); (first | refine hK _ _ ?_; clear hK K | intro bq hbq; (try simp only [HB] at hbq); refine hK _ _ ?_; clear hK K) | refine st rfl ?_ | refine nl ?_
  exact retc1 T rfl (by (try simp (disch := omega) only [hget_ne, hget_eq]); rfl) rfl rfl rfl (List.Sublist.refl _) (fz_spF hcc hgp hgb fun x hx => List.mem_cons_of_mem _ (List.mem_cons_of_mem _ (List.mem_cons_of_mem _ (List.mem_cons_of_mem _ hx))))
 have hat := getD_at (d := (default : Cf)) hlt
 have hR := hrt _ (getD_mem (d := (default : Cf)) hlt)
 have cm := rmoves_ok hR
 rw [show B + 1 - i = (B - i) + 1 by omega, rowsA_at hat] at hE
 have hml := moves_len (u := u) (c := S.cf.getD i default) (m := m) (r := r)
 generalize hM : movesF u (S.cf.getD i default) m r = M at *
 repeat' first | refine dr (id := 14) T 8 (by kernel_rfl) ?_ | refine gn ?_ | (apply VCg.step T rfl rfl); focus ((try simp (disch := omega) only [go_sem, Nat.reduceBEq, Nat.reduceAdd, Nat.reduceLeDiff, cfsRows_len, cfs_at, Int.toNat_natCast]); (first | exact rfl | refine ⟨?_, rfl⟩; try omega)) | refine vs T rfl fun K hK => ?_; (try simp (disch := omega) only [go_sem, Nat.reduceBEq]); (first | refine hK _ _ ?_; clear hK K | refine Op1.callp rfl rfl (cm) rfl ?_; refine hK _ _ ?_; clear hK K) | refine st rfl ?_ | refine sc rfl ?_ | refine nl ?_ | with_reducible refine gsplit_intro (fun hc => ?_) (fun hc => ?_) <;> (try simp only [decide_eq_true_eq, decide_eq_false_iff_not, Int.not_lt] at hc) <;> (try (exfalso; omega))
 rename_i hc0
 obtain ⟨c, hcd⟩ : ∃ c, c = S.cf.getD i default := ⟨_, rfl⟩
 rw [← hcd] at hat hR hE cm
 refine VC.loop {p : Spc Cf × Nat × (Nat × Nat) × Option (Nat × Nat) × Option (Nat × Nat) × Option (Nat × Nat) // p.2.1 ≤ M.length ∧ p.1.cf.length ≤ B ∧ (i < p.1.cf.length ∧ p.1.cf.getD i default = c) ∧ (p.1.pa.length = p.1.cf.length ∧ p.1.ag.length = p.1.cf.length ∧ p.1.ed.length ≤ 28 * i + p.2.1) ∧ (∀ c, c ∈ p.1.cf → Rt u c m r) ∧
   allS u m r B = (rowA (fun c a => actM u c m r a) B i c (M.drop p.2.1) p.1).bind (rowsA (fun c => movesF u c m r) (fun c a => actM u c m r a) B (B - i) (i + 1)) ∧ (p.1.cf.length ≤ p.2.2.1.2 ∧ gOk p.2.2.2.1 p.1.pa.length ∧ gOk p.2.2.2.2.1 p.1.ag.length)}
  (fun p => ⟨lookD [(1, iD m), (2, iD r), (3, iD (B : Nat)), (4, .pt (unC u)), (8, pD b8), (12, pD bq), (13, .gs p.1.2.2.2.2.2 p.1.1.ed.length), (14, iD (i : Nat)), (15, ints M), (16, iD (p.1.2.1 : Nat))],
   (bq, .cells 34 6 (spD p.1.2.2.1.1 p.1.2.2.1.2 p.1.2.2.2.1 p.1.2.2.2.2.1 p.1.1.cf.length p.1.1.pa.length p.1.1.ag.length)) :: (b10, .cells 43 4 (cfC (startC u))) :: (b8, .cells 34 6 spZ) :: spH p.1.2.2.1.1 p.1.2.2.1.2 p.1.2.2.2.1 p.1.2.2.2.2.1 p.1.2.2.2.2.2 p.1.1⟩)
  (fun p => M.length - p.1.2.1) ⟨(S, 0, (bc, cc), gp, gb, gl), by dsimp only; exact ⟨Nat.zero_le _, hSb, ⟨hlt, hcd.symm⟩, ⟨hpa, hag, by omega⟩, hrt, by rw [List.drop_zero]; exact hE, ⟨hcc, hgp, hgb⟩⟩⟩ ?_ ?_
 ·refine Weak_subEq rfl ?_
  simp [sub, upd]
 clear hat hlt hcd hE hrt hed hag hpa hS1 hSb hcc hgp hgb hi q1 q2 q3 q4 q5 q6 cm hc0
 rintro ⟨⟨S', k, ⟨bc, cc⟩, gp, gb, gl⟩, hk, hSb, ⟨hlt, hcd⟩, ⟨hpa, hag, hed⟩, hrt, hE, hcc, hgp, hgb⟩
 dsimp only at hk hSb hlt hcd hpa hag hed hrt hE hcc hgp hgb ⊢
 refine VC.nodup fun hn => ?_
 simp only [Heap.blocks, List.map_cons, List.nodup_cons, List.mem_cons, not_or] at hn
 obtain ⟨⟨q1, q2, q3, _⟩, ⟨q4, q5, _⟩, ⟨q6, _⟩, _⟩ := hn
 rcases Nat.lt_or_ge k M.length with hkl | hge
 case inr =>
  obtain rfl : k = M.length := by omega
  rw [List.drop_length] at hE
  simp only [rowA, Option.bind_some] at hE
  repeat' first | refine vs T rfl fun K hK => ?_; (try simp (disch := omega) only [go_sem, Nat.reduceBEq, iRs_len, w64]); (refine hK _ _ ?_; clear hK K) | refine st rfl ?_ | refine sc rfl ?_ | refine nl ?_ | with_reducible refine gsplit_intro (fun hc => ?_) (fun hc => ?_) <;> (try simp only [decide_eq_true_eq, decide_eq_false_iff_not, Int.not_lt] at hc) <;> (try (exfalso; omega))
  refine ⟨⟨(S', i + 1, (bc, cc), gp, gb, gl), by dsimp only; exact ⟨by omega, hSb, by omega, ⟨hpa, hag, by omega⟩, hrt, by rw [hE, show B + 1 - (i + 1) = B - i by omega], ⟨hcc, hgp, hgb⟩⟩⟩, Weak_subEq rfl ?_, by dsimp only; omega⟩
  simp [sub, upd]
 obtain ⟨a, ha⟩ : ∃ a, a = M.getD k 0 := ⟨_, rfl⟩
 have had : M.drop k = a :: M.drop (k + 1) := by rw [ha, List.drop_eq_getElem_cons hkl, List.getD_eq_getElem?_getD, List.getElem?_eq_getElem hkl]; rfl
 rw [had, rowA_cons] at hE
 have ra := ractM_ok hR a
 have hd := hR.actM a
 have cf := find15_ok S'.cf ⟨[], [], []⟩ S'.pa S'.ag (by omega) (fun c hc => (hrt c hc).okC) (actM u c m r a) hd.okC
 generalize hD : actM u c m r a = d at *
 cases hx : idxD S'.cf d with
 | some j =>
  rw [hx] at cf
  simp only [plI] at cf
  have hst : stepA (fun c a => actM u c m r a) B i c S' a = some { S' with ed := S'.ed ++ [(i, a, j)] } := by
   unfold stepA
   simp only [hD]
   rw [show S'.cf.idxOf? d = some j from hx]
  rw [hst, Option.bind_some] at hE
  repeat' first | apply VC.drawM (id := 18) T 18 16 17 (s := 17) (ty := 43) rfl rfl rfl (by kernel_rfl) (by kernel_rfl) (by kernel_rfl) (by kernel_rfl) | refine VCm.nil T ?_; simp only [allK, WB, Nat.reduceAdd]; try (refine fun (bq : Nat) hbq => ?_; (try simp only [HB] at hbq)) | apply VCm.step T (by rfl) (by rfl) rfl rfl; focus ((try simp (disch := omega) only [go_sem, Nat.reduceBEq, Nat.reduceAdd, Nat.reduceLeDiff, ix_ints, cfsRows_len, cfs_at, Int.toNat_natCast, hcd, ← ha]); (first | exact rfl | refine ⟨?_, rfl⟩; try omega | refine Op1.callp rfl rfl (ra) rfl ?_; exact ⟨rfl, rfl⟩)) | apply VCm.alloc T; (case h1 => rfl); (case hg => rfl); (case hop => rfl); (case hd => rfl); (case hk => rfl); (case hz => rfl) | apply VCm.store T; (case h1 => rfl); (case h2 => rfl); (case hg => rfl); (case hd => rfl); (case hc => (intro b hb; (try simp (disch := omega) only [go_sem, Nat.reduceBEq, Nat.reduceAdd, Nat.reduceLeDiff]); exact rfl)); (case hz => (rfl)) | refine vs T rfl fun K hK => ?_; (try simp (disch := omega) only [go_sem, Nat.reduceBEq, Nat.reduceAdd, Nat.reduceMul, Nat.reduceLeDiff, iRs_len, ix_ints, Int.toNat_natCast, ← ha, w64]); (first | refine hK _ _ ?_; clear hK K | refine ⟨_, _, _, _, (by repeat (first | exact Sp.here | apply Sp.cons | apply Sp.over)), ?_, (by exact ⟨rfl, rfl⟩), ?_, fun g' hg' => hK _ _ ?_⟩ <;> clear hK K | refine ⟨?_, hK _ _ ?_⟩ <;> clear hK K; focus (try omega) | refine Op1.lend rfl rfl (cf) (fz_cons (fz_spD hcc hgp hgb (fun x hx => List.mem_cons_of_mem _ (List.mem_cons_of_mem _ (List.mem_cons_of_mem _ (List.mem_cons_of_mem _ hx))))) (FzL.refl _ _)) (.inr rfl) ?_; refine hK _ _ ?_; clear hK K) | refine st rfl ?_ | refine sc rfl ?_ | refine nl ?_ | refine ov ?_ | with_reducible refine gsplit_intro (fun hc => ?_) (fun hc => ?_) <;> (try simp only [decide_eq_true_eq, decide_eq_false_iff_not, Int.not_lt] at hc) <;> (try (exfalso; omega))
  ·rw [edF_len, edS_len]
  ·omega
  ·refine ⟨⟨({ S' with ed := S'.ed ++ [(i, a, j)] }, k + 1, (bc, cc), gp, gb, g'), by dsimp only; exact ⟨by omega, hSb, ⟨hlt, hcd⟩, ⟨hpa, hag, by simp only [List.length_append, List.length_cons, List.length_nil]; omega⟩, hrt, hE, ⟨hcc, hgp, hgb⟩⟩⟩, Weak_subH ?_ ?_, by dsimp only; omega⟩
   ·dsimp only
    simp only [spH, edS_snoc, edF_snoc]
    rfl
   ·simp [sub, upd]
 | none =>
  rw [hx] at cf
  simp only [plI] at cf
  rcases Nat.lt_or_ge S'.cf.length B with hB | hB
  case inr =>
   have hst : stepA (fun c a => actM u c m r a) B i c S' a = none := by
    unfold stepA
    simp only [hD]
    rw [show S'.cf.idxOf? d = none from hx]
    simp only [decide_eq_false (Nat.not_lt.2 hB)]
   rw [hst] at hE
   simp only [Option.bind_none] at hE
   repeat' first | apply VC.drawM (id := 18) T 18 16 17 (s := 17) (ty := 43) rfl rfl rfl (by kernel_rfl) (by kernel_rfl) (by kernel_rfl) (by kernel_rfl) | refine VCm.nil T ?_; simp only [allK, WB, Nat.reduceAdd]; try (refine fun (bq : Nat) hbq => ?_; (try simp only [HB] at hbq)) | apply VCm.step T (by rfl) (by rfl) rfl rfl; focus ((try simp (disch := omega) only [go_sem, Nat.reduceBEq, Nat.reduceAdd, Nat.reduceLeDiff, ix_ints, cfsRows_len, cfs_at, Int.toNat_natCast, hcd, ← ha]); (first | exact rfl | refine ⟨?_, rfl⟩; try omega | refine Op1.callp rfl rfl (ra) rfl ?_; exact ⟨rfl, rfl⟩)) | apply VCm.alloc T; (case h1 => rfl); (case hg => rfl); (case hop => rfl); (case hd => rfl); (case hk => rfl); (case hz => rfl) | apply VCm.store T; (case h1 => rfl); (case h2 => rfl); (case hg => rfl); (case hd => rfl); (case hc => (intro b hb; (try simp (disch := omega) only [go_sem, Nat.reduceBEq, Nat.reduceAdd, Nat.reduceLeDiff]); exact rfl)); (case hz => (rfl)) | refine vs T rfl fun K hK => ?_; (try simp (disch := omega) only [go_sem, Nat.reduceBEq, Nat.reduceAdd, Nat.reduceLeDiff, iRs_len]); (first | refine hK _ _ ?_; clear hK K | refine Op1.lend rfl rfl (cf) (fz_cons (fz_spD hcc hgp hgb (fun x hx => List.mem_cons_of_mem _ (List.mem_cons_of_mem _ (List.mem_cons_of_mem _ (List.mem_cons_of_mem _ hx))))) (FzL.refl _ _)) (.inr rfl) ?_; refine hK _ _ ?_; clear hK K) | refine st rfl ?_ | refine sc rfl ?_ | refine nl ?_ | refine ov ?_ | with_reducible refine gsplit_intro (fun hc => ?_) (fun hc => ?_) <;> (try simp only [decide_eq_true_eq, decide_eq_false_iff_not, ge_iff_le, Int.not_le, Int.not_lt] at hc) <;> (try (exfalso; omega))
   rw [hS0, hE0, hE]
   exact retc1 T rfl (by (try simp (disch := omega) only [hget_ne, hget_eq]); rfl) rfl rfl rfl (List.nil_sublist _) fz_spZ
  have hst : stepA (fun c a => actM u c m r a) B i c S' a = some ⟨S'.cf ++ [d], S'.pa ++ [(i : Int)], S'.ag ++ [a], S'.ed ++ [(i, a, S'.cf.length)]⟩ := by
   unfold stepA
   simp only [hD]
   rw [show S'.cf.idxOf? d = none from hx]
   simp only [decide_eq_true hB]
  rw [hst, Option.bind_some] at hE
  repeat' first | refine dr (id := 26) T 7 (by kernel_rfl) ?_ | apply VC.drawM (id := 18) T 18 16 17 (s := 17) (ty := 43) rfl rfl rfl (by kernel_rfl) (by kernel_rfl) (by kernel_rfl) (by kernel_rfl) | refine VCm.nil T ?_; simp only [allK, WB, Nat.reduceAdd]; try (refine fun (bq : Nat) hbq => ?_; (try simp only [HB] at hbq)) | apply VCm.step T (by rfl) (by rfl) rfl rfl; focus ((try simp (disch := omega) only [go_sem, Nat.reduceBEq, Nat.reduceAdd, Nat.reduceLeDiff, ix_ints, cfsRows_len, cfs_at, Int.toNat_natCast, hcd, ← ha]); (first | exact rfl | refine ⟨?_, rfl⟩; try omega | refine Op1.callp rfl rfl (ra) rfl ?_; exact ⟨rfl, rfl⟩)) | apply VCm.alloc T; (case h1 => rfl); (case hg => rfl); (case hop => rfl); (case hd => rfl); (case hk => rfl); (case hz => rfl) | apply VCm.store T; (case h1 => rfl); (case h2 => rfl); (case hg => rfl); (case hd => rfl); (case hc => (intro b hb; (try simp (disch := omega) only [go_sem, Nat.reduceBEq, Nat.reduceAdd, Nat.reduceLeDiff]); exact rfl)); (case hz => (rfl)) | refine gn ?_ | (first | apply VCg.step T rfl rfl | apply exF); focus ((try simp (disch := omega) only [go_sem, Nat.reduceBEq, Nat.reduceMul, Nat.reduceLeDiff, ix_ints, Int.toNat_natCast, ← ha]); (first | exact rfl | refine ⟨?_, rfl⟩; try omega)) | refine vs T rfl fun K hK => ?_; (try simp (disch := omega) only [go_sem, Nat.reduceBEq, Nat.reduceAdd, Nat.reduceMul, Nat.reduceLeDiff, iRs_len, ix_ints, Int.toNat_natCast, ← ha, w64]); (first | refine hK _ _ ?_; clear hK K | refine ⟨_, _, _, _, (by repeat (first | exact Sp.here | apply Sp.cons | apply Sp.over)), ?_, (by exact ⟨rfl, rfl⟩), ⟨by decide, ?_⟩, fun g' hg' => hK _ _ ?_⟩ <;> clear hK K | refine ⟨_, _, _, _, (by repeat (first | exact Sp.here | exact Sp.hereS | apply Sp.cons | apply Sp.over)), ?_, (by exact ⟨rfl, rfl⟩), ?_, fun g' hg' => hK _ _ ?_⟩ <;> clear hK K | refine ⟨?_, hK _ _ ?_⟩ <;> clear hK K; focus (try omega) | refine Op1.lend rfl rfl (cf) (fz_cons (fz_spD hcc hgp hgb (fun x hx => List.mem_cons_of_mem _ (List.mem_cons_of_mem _ (List.mem_cons_of_mem _ (List.mem_cons_of_mem _ hx))))) (FzL.refl _ _)) (.inr rfl) ?_; refine hK _ _ ?_; clear hK K) | refine st rfl ?_ | refine sc rfl ?_ | refine nl ?_ | refine ov ?_ | with_reducible refine gsplit_intro (fun hc => ?_) (fun hc => ?_) <;> (try simp only [decide_eq_true_eq, decide_eq_false_iff_not, ge_iff_le, Int.not_le, Int.not_lt] at hc) <;> (try (exfalso; omega))
  ·exact cfsRows_len _
  ·omega
  ·simp
  ·omega
  ·simp
  ·omega
  ·rw [edF_len, edS_len]
  ·omega
  rename_i gc' hgc' gp' hgp' gb' hgb'
  rcases gc' with _ | ⟨bc', cc'⟩
  ·cases hgc'
  refine ⟨⟨(⟨S'.cf ++ [d], S'.pa ++ [(i : Int)], S'.ag ++ [a], S'.ed ++ [(i, a, S'.cf.length)]⟩, k + 1, (bc', cc'), gp', gb', g'), ?_⟩, Weak_subH ?_ ?_, by dsimp only; omega⟩
  ·dsimp only
   simp only [List.length_append, List.length_cons, List.length_nil, Nat.zero_add]
   refine ⟨by omega, by omega, ⟨by omega, ?_⟩, ⟨by omega, by omega, by omega⟩, ?_, hE, hgc', hgp', hgb'⟩
   ·rw [← hcd, List.getD_eq_getElem?_getD, List.getElem?_append_left hlt, List.getD_eq_getElem?_getD]
   ·intro x hx
    rcases List.mem_append.1 hx with hx | hx
    ·exact hrt x hx
    ·rw [List.mem_singleton] at hx; rw [hx]; exact hd
  ·dsimp only
   simp only [spH, edS_snoc, edF_snoc, cfsRows_snoc, List.map_append, List.map_cons, List.map_nil, List.length_append, List.length_cons, List.length_nil, Nat.zero_add]
   rfl
  ·simp [sub, upd]
end Go.Proofs.YtomcmfbpmkklmaaGreat
