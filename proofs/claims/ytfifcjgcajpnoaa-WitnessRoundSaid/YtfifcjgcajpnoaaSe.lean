/- Contracts: what is seen on a circle. No condition. -/
import Derived.Test.YtfifcjgcajpnoaaSa
import Derived.Test.YtfifcjgcajpnoaaTa
namespace Go.Proofs.Ytfifcjgcajpnoaa
set_option linter.unusedSimpArgs false
set_option linter.unusedVariables false
set_option maxRecDepth 20000
open Go Go.Proofs Go.Vc
attribute [local irreducible] retQ VCg VCw

/-- One more for each of the first that can. -/
def lookK (en : Nat → Bool) (on : List Int) (k : Nat) : List Int := on.mapIdx fun a n => match decide (a < k), en a with | true, true => n + 1 | _, _ => n
theorem lookK_len (en : Nat → Bool) (on : List Int) (k : Nat) : (lookK en on k).length = on.length := List.length_mapIdx
theorem lookK_zero (en : Nat → Bool) (on : List Int) : lookK en on 0 = on := by
  apply List.ext_getElem (lookK_len _ _ _)
  intro i h1 h2
  simp [lookK]
theorem lookK_at (en : Nat → Bool) {on : List Int} {k : Nat} {n : Int} (h : on[k]? = some n) : (lookK en on k)[k]? = some n := by
  simp [lookK, h]
theorem lookK_no {en : Nat → Bool} {on : List Int} {k : Nat} (h : en k = false) : lookK en on (k + 1) = lookK en on k := by
  apply List.ext_getElem (by rw [lookK_len, lookK_len])
  intro i h1 h2
  simp only [lookK, List.getElem_mapIdx]
  by_cases e : i = k
  · subst e; simp [h]
  · rw [show decide (i < k + 1) = decide (i < k) by rw [decide_eq_decide]; omega]
theorem lookK_yes {en : Nat → Bool} {on : List Int} {k : Nat} {n : Int} (hn : on[k]? = some n) (h : en k = true) : lookK en on (k + 1) = (lookK en on k).set k (n + 1) := by
  obtain ⟨hk, rfl⟩ := List.getElem?_eq_some_iff.1 hn
  apply List.ext_getElem (by rw [List.length_set, lookK_len, lookK_len])
  intro i h1 h2
  rw [List.getElem_set]
  simp only [lookK, List.getElem_mapIdx]
  by_cases e : k = i
  · subst e; simp [h]
  · rw [if_neg e, show decide (i < k + 1) = decide (i < k) by rw [decide_eq_decide]; omega]

/-- What is seen, in blocks of one's own. -/
abbrev seW (bs : Nat) (go ga : G) (on ac : List Int) (H : Heap) : Heap := (bs, .cells 64 2 [.gs go on.length, .gs ga ac.length]) :: shp go 3 1 (on.map iD) (shp ga 3 1 (ac.map iD) H)
abbrev enV (br : Nat) : Value := .func (.func 24) #[.pointer (some ⟨br, 0, none⟩)] #[]
set_option maxHeartbeats 8000000 in
theorem look_ok {u : Un} {c : Cf} {m r : Int} (h : Rt u c m r) (bs br : Nat) (go ga : G) (on ac : List Int) (hgo : gOk go on.length) (hon : on.length ≤ 1000) (hn : ∀ n, n ∈ on → 0 ≤ n ∧ n ≤ 1000000) :
    Fun Try.prog 23 [pD bs, .is (enV br)] (seW bs go ga on ac (rW br u m r c)) false (fun d H' => d = .tup [] ∧ H' = seW bs go ga (lookK (fun a => enM u c m r (a : Nat)) on on.length) ac (rW br u m r c)) := by
  refine Fun.of T [] Try.func23 rfl Try.ntmps23 Try.results23 rfl (by kernel_rfl) ?_
  rcases go with _ | ⟨bo, co⟩
  · have h0 : on.length = 0 := hgo
    have h1 : on = [] := List.length_eq_zero_iff.1 h0
    subst h1
    have hd : decide ((0 : Int) < 0) = false := rfl
    show VC _ _ _ ⟨_, (bs, .cells 64 2 [.gs none 0, .gs ga ac.length]) :: shp ga 3 1 (ac.map iD) (rW br u m r c)⟩ _
    repeat' first | refine vs T rfl fun K hK => ?_; (try simp (disch := omega) only [go_sem, Nat.reduceBEq]); (refine hK _ _ ?_; clear hK K) | refine st rfl ?_ | refine nl ?_
    refine VC.loop Unit (fun _ => ⟨lookD [(9, iD 0), (10, iD 0)], (bs, .cells 64 2 [.gs none 0, .gs ga ac.length]) :: shp ga 3 1 (ac.map iD) (rW br u m r c)⟩) (fun _ => 0) () ?_ ?_
    · refine Weak.sub ?_
      simp [sub, upd]
    intro _
    repeat' first | refine vs T rfl fun K hK => ?_; (try simp (disch := omega) only [go_sem, Nat.reduceBEq, hd]); (refine hK _ _ ?_; clear hK K) | refine st rfl ?_ | refine sc rfl ?_ | refine nl ?_
    exact ret0 T rfl (List.Sublist.refl _) ⟨rfl, rfl⟩
  refine VC.nodup fun hnd => ?_
  have n1 : ¬ bs = bo := fun h => by subst h; simp [Heap.blocks, shp_some] at hnd
  show VC _ _ _ ⟨_, (bs, .cells 64 2 [.gs (some (bo, co)) on.length, .gs ga ac.length]) :: (bo, .cells 3 (co * 1) (on.map iD)) :: shp ga 3 1 (ac.map iD) (rW br u m r c)⟩ _
  repeat' first | refine vs T rfl fun K hK => ?_; (try simp (disch := omega) only [go_sem, Nat.reduceBEq]); (refine hK _ _ ?_; clear hK K) | refine st rfl ?_ | refine nl ?_
  refine VC.loop {k : Nat // k ≤ on.length} (fun p => ⟨lookD [(0, pD bs), (1, .is (enV br)), (8, .gs (some (bo, co)) on.length), (9, iD (on.length : Nat)), (10, iD (p.1 : Nat))], (bs, .cells 64 2 [.gs (some (bo, co)) on.length, .gs ga ac.length]) :: (bo, .cells 3 (co * 1) ((lookK (fun a => enM u c m r (a : Nat)) on p.1).map iD)) :: shp ga 3 1 (ac.map iD) (rW br u m r c)⟩) (fun p => on.length - p.1) ⟨0, by omega⟩ ?_ ?_
  · rw [lookK_zero]
    refine Weak.sub ?_
    simp [sub, upd]
  rintro ⟨k, hk⟩
  dsimp only
  have hlen := lookK_len (fun a => enM u c m r (a : Nat)) on k
  rcases Nat.lt_or_ge k on.length with hlt | hge
  case inr =>
    obtain rfl : k = on.length := by omega
    have hd : decide ((on.length : Int) < (on.length : Int)) = false := by simp
    repeat' first | refine vs T rfl fun K hK => ?_; (try simp (disch := omega) only [go_sem, Nat.reduceBEq, hd]); (refine hK _ _ ?_; clear hK K) | refine st rfl ?_ | refine sc rfl ?_ | refine nl ?_
    exact ret0 T rfl (List.Sublist.refl _) ⟨rfl, by simp only [seW, lookK_len, shp_some]⟩
  have hd : decide ((k : Int) < (on.length : Int)) = true := by simp; omega
  have hw : IntKind.i64.wrap ((k : Int) + 1) = ((k + 1 : Nat) : Int) := by rw [w64 (by omega)]; omega
  obtain ⟨n, hkn⟩ : ∃ n, on[k]? = some n := ⟨_, List.getElem?_eq_getElem hlt⟩
  have hn0 := hn n (List.mem_of_getElem? hkn)
  have hw2 : IntKind.i64.wrap (n + 1) = n + 1 := w64 (by omega)
  have hL := lookK_at (fun a => enM u c m r (a : Nat)) hkn
  have hL1 : (lookK (fun a => enM u c m r (a : Nat)) on k)[k * 1]? = some n := by rw [Nat.mul_one]; exact hL
  repeat' first | refine vs T rfl fun K hK => ?_; (try simp (disch := omega) only [go_sem, Nat.reduceBEq, hd]); (first | refine hK _ _ ?_; clear hK K | skip) | refine st rfl ?_ | refine sc rfl ?_ | refine nl ?_
  refine Op1.callB (Hp := rW br u m r c) (Hr := (bs, .cells 64 2 [.gs (some (bo, co)) on.length, .gs ga ac.length]) :: (bo, .cells 3 (co * 1) ((lookK (fun a => enM u c m r (a : Nat)) on k).map iD)) :: shp ga 3 1 (ac.map iD) []) rfl rfl rfl (runEn_ok br h (k : Nat)) (perm_of fun a => by simp only [cnt_shp, cnt_cons, cnt_app, cnt_nil]; omega) (fun d' H' hd' => ?_)
  obtain ⟨rfl, rfl⟩ := hd'
  refine hK _ _ ?_
  clear hK K
  try simp only [updO]
  refine vo ?_
  refine VCo.weak (Weak.perm (H' := (bs, .cells 64 2 [.gs (some (bo, co)) on.length, .gs ga ac.length]) :: (bo, .cells 3 (co * 1) ((lookK (fun a => enM u c m r (a : Nat)) on k).map iD)) :: shp ga 3 1 (ac.map iD) (rW br u m r c)) (perm_of fun a => by simp only [cnt_shp, cnt_cons, cnt_app, cnt_nil]; omega)) ?_
  cases hE : enM u c m r (k : Nat) with
  | false =>
    repeat' first | refine vs T rfl fun K hK => ?_; (try simp (disch := omega) only [go_sem, Nat.reduceBEq, hw]); (refine hK _ _ ?_; clear hK K) | refine st rfl ?_ | refine sc rfl ?_ | refine nl ?_ | refine ov ?_
    refine ⟨⟨k + 1, by omega⟩, ?_, by dsimp only; omega⟩
    dsimp only
    rw [lookK_no (en := fun a => enM u c m r (a : Nat)) hE]
    refine Weak.sub ?_
    simp [sub, upd]
  | true =>
    repeat' first | refine vs T rfl fun K hK => ?_; (try simp (disch := omega) only [go_sem, Nat.reduceBEq, hw, hw2, hL1, hlen]); (first | refine hK _ _ ?_; clear hK K | refine ⟨?_, hK _ _ ?_⟩ <;> clear hK K; focus (try omega)) | refine st rfl ?_ | refine sc rfl ?_ | refine nl ?_ | refine ov ?_
    refine ⟨⟨k + 1, by omega⟩, ?_, by dsimp only; omega⟩
    dsimp only
    rw [lookK_yes (en := fun a => enM u c m r (a : Nat)) hkn hE]
    refine Weak.trans (Weak.perm (H' := (bs, .cells 64 2 [.gs (some (bo, co)) on.length, .gs ga ac.length]) :: (bo, .cells 3 (co * 1) (((lookK (fun a => enM u c m r (a : Nat)) on k).set k (n + 1)).map iD)) :: shp ga 3 1 (ac.map iD) (rW br u m r c)) (perm_of fun a => by simp only [List.map_set, Nat.mul_one, cnt_shp, cnt_cons, cnt_app, cnt_nil])) (Weak.sub ?_)
    simp [sub, upd]
end Go.Proofs.Ytfifcjgcajpnoaa
/- Contracts: to whom what was seen is unfair. No condition. -/
namespace Go.Proofs.Ytfifcjgcajpnoaa
set_option linter.unusedSimpArgs false
set_option linter.unusedVariables false
set_option maxRecDepth 20000
open Go Go.Proofs Go.Vc
attribute [local irreducible] retQ VCg VCw

/-- Whether what was seen is unfair to an agent; the first such one. -/
def badA (mode stops : Int) (on ac : List Int) (a : Nat) : Bool := (ac.getD a 0 == 0) && (((mode == 1) && (on.getD a 0 == stops)) || ((mode == 2) && decide (on.getD a 0 > 0)))
def unfF (mode stops : Int) (on ac : List Int) : Int := match (List.range on.length).find? (badA mode stops on ac) with | some a => (a : Nat) | none => -1
theorem unfF_at {mode stops : Int} {on ac : List Int} {k : Nat} (hk : k < on.length) (h : badA mode stops on ac k = true) (hs : ∀ i, i < k → badA mode stops on ac i = false) : unfF mode stops on ac = (k : Nat) := by
  have : (List.range on.length).find? (badA mode stops on ac) = some k := by
    rw [List.find?_range_eq_some]
    exact ⟨h, List.mem_range.2 hk, fun j hj => by simp [hs j hj]⟩
  rw [unfF, this]
theorem unfF_no {mode stops : Int} {on ac : List Int} (hs : ∀ i, i < on.length → badA mode stops on ac i = false) : unfF mode stops on ac = -1 := by
  have : (List.range on.length).find? (badA mode stops on ac) = none := by
    rw [List.find?_eq_none]
    intro x hx
    simp [hs x (List.mem_range.1 hx)]
  rw [unfF, this]
set_option maxHeartbeats 8000000 in
theorem unfair_ok (bs : Nat) (go ga : G) (on ac : List Int) (hgo : gOk go on.length) (hga : gOk ga ac.length) (hl : ac.length = on.length) (hon : on.length ≤ 1000) (mode stops : Int) :
    Fun Try.prog 16 [pD bs, iD mode, iD stops] (seW bs go ga on ac []) false (fun d H' => d = iD (unfF mode stops on ac) ∧ H' = seW bs go ga on ac []) := by
  refine Fun.of T [.tmp 6] Try.func16 rfl Try.ntmps16 Try.results16 rfl (by kernel_rfl) ?_
  rcases Nat.eq_zero_or_pos on.length with h0 | hpos
  · have hd : decide ((0 : Int) < 0) = false := rfl
    rw [unfF_no fun i hi => by omega]
    rw [show seW bs go ga on ac [] = (bs, .cells 64 2 [.gs go on.length, .gs ga ac.length]) :: shp go 3 1 (on.map iD) (shp ga 3 1 (ac.map iD) []) from rfl, h0]
    repeat' first | refine vs T rfl fun K hK => ?_; (try simp (disch := omega) only [go_sem, Nat.reduceBEq, Nat.reduceAdd]); (refine hK _ _ ?_; clear hK K) | refine st rfl ?_ | refine nl ?_
    refine VC.loop Unit (fun _ => ⟨lookD [(15, iD 0), (16, iD 0)], (bs, .cells 64 2 [.gs go 0, .gs ga ac.length]) :: shp go 3 1 (on.map iD) (shp ga 3 1 (ac.map iD) [])⟩) (fun _ => 0) () ?_ ?_
    · refine Weak.sub ?_
      simp [sub, upd]
    intro _
    repeat' first | refine vs T rfl fun K hK => ?_; (try simp (disch := omega) only [go_sem, Nat.reduceBEq, hd]); (refine hK _ _ ?_; clear hK K) | refine st rfl ?_ | refine sc rfl ?_ | refine nl ?_
    exact ret1 T (List.Sublist.refl _) ⟨rfl, rfl⟩
  rcases go with _ | ⟨bo, co⟩
  · have : on.length = 0 := hgo
    omega
  rcases ga with _ | ⟨ba, ca⟩
  · have : ac.length = 0 := hga
    omega
  refine VC.nodup fun hnd => ?_
  have n1 : ¬ bs = bo := fun h => by subst h; simp [Heap.blocks, shp_some] at hnd
  have n2 : ¬ bs = ba := fun h => by subst h; simp [Heap.blocks, shp_some] at hnd
  have n3 : ¬ bo = ba := fun h => by subst h; simp [Heap.blocks, shp_some] at hnd
  show VC _ _ _ ⟨_, (bs, .cells 64 2 [.gs (some (bo, co)) on.length, .gs (some (ba, ca)) ac.length]) :: (bo, .cells 3 (co * 1) (on.map iD)) :: (ba, .cells 3 (ca * 1) (ac.map iD)) :: []⟩ _
  repeat' first | refine vs T rfl fun K hK => ?_; (try simp (disch := omega) only [go_sem, Nat.reduceBEq, Nat.reduceAdd]); (refine hK _ _ ?_; clear hK K) | refine st rfl ?_ | refine nl ?_
  refine VC.loop {k : Nat // k ≤ on.length ∧ ∀ i, i < k → badA mode stops on ac i = false} (fun p => ⟨lookD [(0, pD bs), (1, iD mode), (2, iD stops), (14, .gs (some (bo, co)) on.length), (15, iD (on.length : Nat)), (16, iD (p.1 : Nat))], (bs, .cells 64 2 [.gs (some (bo, co)) on.length, .gs (some (ba, ca)) ac.length]) :: (bo, .cells 3 (co * 1) (on.map iD)) :: (ba, .cells 3 (ca * 1) (ac.map iD)) :: []⟩) (fun p => on.length - p.1) ⟨0, by omega, fun i hi => by omega⟩ ?_ ?_
  · refine Weak.sub ?_
    simp [sub, upd]
  rintro ⟨k, hk, hs⟩
  dsimp only
  rcases Nat.lt_or_ge k on.length with hlt | hge
  case inr =>
    have hd : decide ((k : Int) < (on.length : Int)) = false := by simp; omega
    rw [unfF_no fun i hi => hs i (by omega)]
    repeat' first | refine vs T rfl fun K hK => ?_; (try simp (disch := omega) only [go_sem, Nat.reduceBEq, hd]); (refine hK _ _ ?_; clear hK K) | refine st rfl ?_ | refine sc rfl ?_ | refine nl ?_
    exact ret1 T (List.Sublist.refl _) ⟨rfl, rfl⟩
  have hd : decide ((k : Int) < (on.length : Int)) = true := by simp; omega
  have hw : IntKind.i64.wrap ((k : Int) + 1) = ((k + 1 : Nat) : Int) := by rw [w64 (by omega)]; omega
  obtain ⟨n, hn⟩ : ∃ n, on[k]? = some n := ⟨_, List.getElem?_eq_getElem hlt⟩
  obtain ⟨a, ha⟩ : ∃ n, ac[k]? = some n := ⟨_, List.getElem?_eq_getElem (by omega)⟩
  have hn1 : on[k * 1]? = some n := by rw [Nat.mul_one]; exact hn
  have ha1 : ac[k * 1]? = some a := by rw [Nat.mul_one]; exact ha
  have hB : badA mode stops on ac k = ((a == 0) && (((mode == 1) && (n == stops)) || ((mode == 2) && decide (n > 0)))) := by
    simp [badA, List.getD_eq_getElem?_getD, hn, ha]
  have hstop : badA mode stops on ac k = true → unfF mode stops on ac = (k : Nat) := fun h => unfF_at hlt h hs
  have hgo1 : badA mode stops on ac k = false → ∀ i, i < k + 1 → badA mode stops on ac i = false := fun h i hi => by
    rcases Nat.lt_or_ge i k with h' | h'
    · exact hs i h'
    · obtain rfl : i = k := by omega
      exact h
  rw [hB] at hstop hgo1
  have hm : ((mode == 1) = true ∧ (mode == 2) = false) ∨ ((mode == 1) = false ∧ (mode == 2) = true) ∨ ((mode == 1) = false ∧ (mode == 2) = false) := by
    by_cases q1 : mode = 1
    · subst q1; exact .inl ⟨rfl, rfl⟩
    · by_cases q2 : mode = 2
      · subst q2; exact .inr (.inl ⟨rfl, rfl⟩)
      · exact .inr (.inr ⟨by simpa using q1, by simpa using q2⟩)
  rcases hm with ⟨h1, h2⟩ | ⟨h1, h2⟩ | ⟨h1, h2⟩
  all_goals rw [h1, h2] at hstop hgo1
  · cases h5 : a == 0
    all_goals cases h3 : n == stops
    all_goals rw [h3, h5] at hstop hgo1
    all_goals try rw [hstop rfl]
    all_goals repeat' first | refine vs T rfl fun K hK => ?_; (try simp (disch := omega) only [go_sem, Nat.reduceBEq, hd, hw, hn1, ha1, hl, h1, h2, h3, h5]); (first | refine hK _ _ ?_; clear hK K | refine ⟨?_, hK _ _ ?_⟩ <;> clear hK K; focus (try omega)) | refine st rfl ?_ | refine sc rfl ?_ | refine nl ?_ | refine gs rfl rfl ?_ | refine gu rfl rfl ?_
    rotate_left 3
    · exact ret1 T (List.Sublist.refl _) ⟨rfl, by simp only [seW, hl, shp_some]⟩
    all_goals (refine ⟨⟨k + 1, by omega, hgo1 rfl⟩, Weak_subEq (by rw [hl]) ?_, by dsimp only; omega⟩; simp [sub, upd])
  · cases h5 : a == 0
    all_goals cases h4 : decide (n > 0)
    all_goals rw [h4, h5] at hstop hgo1
    all_goals try rw [hstop rfl]
    all_goals repeat' first | refine vs T rfl fun K hK => ?_; (try simp (disch := omega) only [go_sem, Nat.reduceBEq, hd, hw, hn1, ha1, hl, h1, h2, h4, h5]); (first | refine hK _ _ ?_; clear hK K | refine ⟨?_, hK _ _ ?_⟩ <;> clear hK K; focus (try omega)) | refine st rfl ?_ | refine sc rfl ?_ | refine nl ?_ | refine gs rfl rfl ?_ | refine gu rfl rfl ?_
    rotate_left 3
    · exact ret1 T (List.Sublist.refl _) ⟨rfl, by simp only [seW, hl, shp_some]⟩
    all_goals (refine ⟨⟨k + 1, by omega, hgo1 rfl⟩, Weak_subEq (by rw [hl]) ?_, by dsimp only; omega⟩; simp [sub, upd])
  · cases h5 : a == 0
    all_goals rw [h5] at hstop hgo1
    all_goals repeat' first | refine vs T rfl fun K hK => ?_; (try simp (disch := omega) only [go_sem, Nat.reduceBEq, hd, hw, hn1, ha1, hl, h1, h2, h5]); (first | refine hK _ _ ?_; clear hK K | refine ⟨?_, hK _ _ ?_⟩ <;> clear hK K; focus (try omega)) | refine st rfl ?_ | refine sc rfl ?_ | refine nl ?_ | refine gs rfl rfl ?_ | refine gu rfl rfl ?_
    all_goals (refine ⟨⟨k + 1, by omega, hgo1 rfl⟩, Weak_subEq (by rw [hl]) ?_, by dsimp only; omega⟩; simp [sub, upd])
end Go.Proofs.Ytfifcjgcajpnoaa
