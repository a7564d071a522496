/- Contracts: code's value, as the reference says. No condition. -/
import Derived.Test.YtomcmfbpmkklmaaGreatYc
import Derived.Test.YtomcmfbpmkklmaaGreatXk
import Derived.Test.YtomcmfbpmkklmaaGreatK2
namespace Go.Proofs.YtomcmfbpmkklmaaGreat
set_option maxHeartbeats 16000000
set_option linter.unusedSimpArgs false
set_option linter.unusedVariables false
set_option maxRecDepth 20000
open Go Go.Proofs Go.Vc
attribute [local irreducible] retQ VCg VCw VCx
theorem Weak.cutC {env : Nat → D} {b n : Nat} {e : TypeId} {k : Nat} {l : List Int} {X : Heap} : Weak ⟨env, (b, .cells e n (l.map iD)) :: X⟩ ⟨env, (b, .cells e n ((l.take k).map iD)) :: X⟩ := fun x a w h => by
 have hlv : live ((b, HC.cells e n ((l.take k).map iD)) :: X) x.L0 = live ((b, HC.cells e n (l.map iD)) :: X) x.L0 := rfl
 refine { env := fun t => by rw [hlv]; exact h.env t, inv := ?_, evo := ?_, defers := h.defers, size := h.size }
 ·refine { rel := fun b' c hm => ?_, nodup := h.inv.nodup, apart := h.inv.apart, old := h.inv.old }
  rw [hlv]
  rcases List.mem_cons.1 hm with hm | hm
  ·cases hm
   rw [List.map_take]
   exact HRel.cut (h.inv.rel b _ (List.mem_cons_self ..))
  ·exact h.inv.rel b' c (List.mem_cons_of_mem _ hm)
 ·exact ⟨h.evo.os, h.evo.tape, h.evo.output, h.evo.size, h.evo.block, h.evo.fresh⟩
def valD2 (l : List Opc) (md : Int) (own : List Int) (all : List (List Int)) (mem : List Int) : D := .tup [iD (valF l md own all mem), bD (valB l md own all mem)]
theorem val_no {l : List Opc} {md : Int} {own mem : List Int} {all : List (List Int)} (h : valB l md own all mem = false) : valD2 l md own all mem = .tup [iD 0, bD false] := by simp [valD2, valF, h]
structure OkV (l : List Opc) (own : List Int) (all : List (List Int)) (mem : List Int) : Prop where
 kl : l.length ≤ 1000
 ko : own.length ≤ 1000
 km : mem.length ≤ 1000
 ka : all.length ≤ 1000
 kr : ∀ r, r ∈ all → r.length ≤ 1000
theorem lensI_take {all : List (List Int)} {k : Nat} {r : List Int} (h : all[k]? = some r) : (lensI (all.take (k + 1))).map iD = (lensI (all.take k)).map iD ++ [iD (r.length : Nat)] := by
 rw [List.take_add_one, h]
 simp [lensI]
theorem lensI_len (all : List (List Int)) : (lensI all).length = all.length := List.length_map ..
theorem rvalue_ok (l : List Opc) (md : Int) (own : List Int) (all : List (List Int)) (mem : List Int) (hk : OkV l own all mem) : Pure Tryz.prog 164 [opsD l, iD md, ints own, .sl false 1 (rowsI all), ints mem] (valD2 l md own all mem) := by
 have kl := hk.kl
 have ko := hk.ko
 have km := hk.km
 have ka := hk.ka
 have c1 := all06_ok own (by omega) md
 have c2 := all06_ok mem (by omega) md
 refine Fun.of T [.tmp 10, .tmp 11] Tryz.func164 rfl Tryz.ntmps164 Tryz.results164 rfl (by kernel_rfl) ?_
 by_cases m2 : md < 2
 ·have e1 : decide (md < 2) = true := by simpa using m2
  rw [val_no (by simp [valB]; omega)]
  repeat' first | refine vs T rfl fun K hK => ?_; (try simp (disch := omega) only [go_sem, Nat.reduceBEq, Nat.reduceAdd, e1]); (refine hK _ _ ?_; clear hK K) | refine st rfl ?_ | refine sc rfl ?_ | refine nl ?_ | refine gs rfl rfl ?_ | exact ret2 T (List.nil_sublist _) ⟨rfl, rfl⟩
 have e1 : decide (md < 2) = false := by simpa using m2
 by_cases m16 : md > 16
 ·have e2 : decide (md > 16) = true := by simpa using m16
  rw [val_no (by simp [valB]; omega)]
  repeat' first | refine vs T rfl fun K hK => ?_; (try simp (disch := omega) only [go_sem, Nat.reduceBEq, Nat.reduceAdd, e1, e2]); (refine hK _ _ ?_; clear hK K) | refine st rfl ?_ | refine sc rfl ?_ | refine nl ?_ | refine gs rfl rfl ?_ | exact ret2 T (List.nil_sublist _) ⟨rfl, rfl⟩
 have e2 : decide (md > 16) = false := by simpa using m16
 cases ho : allB own md with
 | false =>
  rw [val_no (by simp [valB, ho])]
  repeat' first | refine vs T rfl fun K hK => ?_; (try simp (disch := omega) only [go_sem, Nat.reduceBEq, Nat.reduceAdd, e1, e2, ho, Bool.not_false]); (first | refine hK _ _ ?_; clear hK K | refine Op1.callp rfl rfl (c1) rfl ?_; refine hK _ _ ?_; clear hK K) | refine st rfl ?_ | refine sc rfl ?_ | refine nl ?_ | refine gs rfl rfl ?_ | exact ret2 T (List.nil_sublist _) ⟨rfl, rfl⟩
 | true =>
 cases hmm : allB mem md with
 | false =>
  rw [val_no (by simp [valB, hmm])]
  repeat' first | refine vs T rfl fun K hK => ?_; (try simp (disch := omega) only [go_sem, Nat.reduceBEq, Nat.reduceAdd, e1, e2, ho, hmm, Bool.not_false, Bool.not_true]); (first | refine hK _ _ ?_; clear hK K | refine Op1.callp rfl rfl (c1) rfl ?_; refine hK _ _ ?_; clear hK K | refine Op1.callp rfl rfl (c2) rfl ?_; refine hK _ _ ?_; clear hK K) | refine st rfl ?_ | refine sc rfl ?_ | refine nl ?_ | refine gs rfl rfl ?_ | exact ret2 T (List.nil_sublist _) ⟨rfl, rfl⟩
 | true =>
 repeat' first | refine vs T rfl fun K hK => ?_; (try simp (disch := omega) only [go_sem, Nat.reduceBEq, Nat.reduceAdd, e1, e2, ho, hmm, Bool.not_true]); (first | refine hK _ _ ?_; clear hK K | refine Op1.callp rfl rfl (c1) rfl ?_; refine hK _ _ ?_; clear hK K | refine Op1.callp rfl rfl (c2) rfl ?_; refine hK _ _ ?_; clear hK K) | refine st rfl ?_ | refine sc rfl ?_ | refine nl ?_ | refine gs rfl rfl ?_
 refine VC.loop {p : Nat × Option (Nat × Nat) // p.1 ≤ all.length ∧ ∀ (i : Nat) (y : List Int), i < p.1 → all[i]? = some y → allB y md = true} (fun p => ⟨lookD [(0, opsD l), (1, iD md), (2, ints own), (3, .sl false 1 (rowsI all)), (4, ints mem), (12, .gs p.1.2 p.1.1), (13, iD (p.1.1 : Nat))], shp p.1.2 3 1 ((lensI (all.take p.1.1)).map iD) []⟩) (fun p => all.length - p.1.1) ⟨(0, none), by simp⟩ ?_ ?_
 ·refine Weak.sub ?_
  simp [sub, upd]
 ·rintro ⟨⟨k, g⟩, hka, hs⟩
  dsimp only at hka hs ⊢
  have hfl : ((lensI (all.take k)).map iD).length = k * 1 := by simp [lensI]; omega
  rcases Nat.lt_or_ge k all.length with hlt | hge
  ·have hd : decide ((k : Int) < (all.length : Int)) = true := by simp; omega
   have hw : IntKind.i64.wrap ((k : Int) + 1) = ((k + 1 : Nat) : Int) := by rw [w64 (by omega)]; omega
   obtain ⟨r, hr⟩ : ∃ r, all[k]? = some r := ⟨_, List.getElem?_eq_getElem hlt⟩
   have hrow : (rowsI all)[k]? = some [ints r] := by rw [rowsI_at, hr]; rfl
   have hrl := hk.kr r (List.mem_of_getElem? hr)
   have c3 := all06_ok r (by omega) md
   cases har : allB r md with
   | false =>
    have hA : (all.all fun r => allB r md) = false := all_not (p := fun r => allB r md) hr har
    rw [val_no (by simp only [valB, hA, Bool.and_false, Bool.false_and])]
    repeat' first | refine vs T rfl fun K hK => ?_; (try simp (disch := omega) only [go_sem, Nat.reduceBEq, hd, hrow, har, rowsI_len, Bool.not_false]); (first | refine hK _ _ ?_; clear hK K | refine ⟨?_, hK _ _ ?_⟩ <;> clear hK K; focus (try omega) | refine Op1.callp rfl rfl (c3) rfl ?_; refine hK _ _ ?_; clear hK K) | refine st rfl ?_ | refine sc rfl ?_ | refine nl ?_ | exact ret2 T (List.nil_sublist _) ⟨rfl, rfl⟩
   | true =>
    repeat' first | refine vs T rfl fun K hK => ?_; (try simp (disch := omega) only [go_sem, Nat.reduceBEq, Nat.reduceMul, Nat.reduceLeDiff, hd, hw, hrow, har, rowsI_len, iRs_len, Bool.not_true]); (first | refine hK _ _ ?_; clear hK K | refine ⟨_, _, _, _, (by repeat (exact Sp.here)), ?_, (by exact ⟨rfl, rfl⟩), ⟨by decide, ?_⟩, fun g' hg' => hK _ _ ?_⟩ <;> clear hK K | refine ⟨?_, hK _ _ ?_⟩ <;> clear hK K; focus (try omega) | refine Op1.callp rfl rfl (c3) rfl ?_; refine hK _ _ ?_; clear hK K) | refine st rfl ?_ | refine sc rfl ?_ | refine nl ?_
    ·exact hfl
    ·omega
    ·refine ⟨⟨(k + 1, g'), by simp only []; omega, step_of hs hr har⟩, Weak_subEq ?_ ?_, by simp only []; omega⟩
     ·simp only []
      rw [lensI_take hr]
     ·simp [sub, upd]
  ·have hd : decide ((k : Int) < (all.length : Int)) = false := by simp; omega
   have hA : (all.all fun r => allB r md) = true := all_of fun i y hi hy => hs i y (by omega) hy
   obtain rfl : k = all.length := by omega
   have hta : all.take all.length = all := List.take_length
   have c4 := right06_ok l kl (lensI all) (by rw [lensI_len]; omega) own.length mem.length
   refine VC_gok (t := 12) (g := g) rfl fun hg => ?_
   have hV : valB l md own all mem = codeB l (lensI all) own.length mem.length := by simp [valB, ho, hmm, hA, Int.not_lt.1 m2, Int.not_lt.1 m16]
   have hfz : ∀ H : Heap, H = shp g 3 1 ((lensI all).map iD) [] → FzL H [opsD l, ints (lensI all), iD own.length, iD mem.length] [opsD l, .gs g all.length, iD own.length, iD mem.length] := fun H hH => by
    refine fz_second ?_
    have := Fz_ints (g := g) (e := 3) (s := lensI all) (H := H) (by rw [lensI_len]; exact hg) (fun b cap hb => by rw [hH, hb]; exact List.mem_cons_self ..)
    rw [lensI_len] at this
    exact this
   rw [hta]
   repeat' first | refine vs T rfl fun K hK => ?_; (try simp (disch := omega) only [go_sem, Nat.reduceBEq, hd, rowsI_len, iRs_len]); (first | refine hK _ _ ?_; clear hK K | skip) | refine st rfl ?_ | refine sc rfl ?_ | refine nl ?_
   refine Op1.lend rfl rfl c4 (hfz _ rfl) (.inr rfl) ?_
   refine hK _ _ ?_
   clear hK K
   cases hC : codeB l (lensI all) own.length mem.length with
   | false =>
    rw [val_no (by rw [hV, hC])]
    repeat' first | refine vs T rfl fun K hK => ?_; (try simp (disch := omega) only [go_sem, Nat.reduceBEq, Bool.not_false]); (refine hK _ _ ?_; clear hK K) | refine st rfl ?_ | refine sc rfl ?_ | refine nl ?_ | exact ret2 T (List.nil_sublist _) ⟨rfl, rfl⟩
   | true =>
    rw [hC] at hV
    have hD : valD2 l md own all mem = .tup [iD ((runV md own all mem l []).getD 0 0), bD true] := by simp [valD2, valF, hV]
    have hOk : l.all (okOp (lensI all) own.length mem.length) = true ∧ oneL (liesF l 0 0) = true := by simpa [codeB] using hC
    rw [hD]
    repeat' first | refine vs T rfl fun K hK => ?_; (try simp (disch := omega) only [go_sem, Nat.reduceBEq, Bool.not_true]); (refine hK _ _ ?_; clear hK K) | refine st rfl ?_ | refine sc rfl ?_ | refine nl ?_
    refine VC.loop {p : Nat × List Int × Option (Nat × Nat) // RunI md own all mem l p.1 p.2.1} (fun p => ⟨lookD [(0, opsD l), (1, iD md), (2, ints own), (3, .sl false 1 (rowsI all)), (4, ints mem), (14, .gs p.1.2.2 p.1.2.1.length), (15, iD (p.1.1 : Nat))], shp p.1.2.2 3 1 (p.1.2.1.map iD) []⟩) (fun p => l.length - p.1.1) ⟨(0, [], none), RunI.zero hOk.2⟩ ?_ ?_
    ·refine Weak.subH (List.nil_sublist _) ?_
     simp [sub, upd]
    ·rintro ⟨⟨k, s, g⟩, hR⟩
     dsimp only at hR ⊢
     have hle := hR.le
     have hln := hR.len
     have hsl : (s.map iD).length = s.length * 1 := by simp
     rcases Nat.lt_or_ge k l.length with hlt | hge
     ·have hd : decide ((k : Int) < (l.length : Int)) = true := by simp; omega
      have hw : IntKind.i64.wrap ((k : Int) + 1) = ((k + 1 : Nat) : Int) := by rw [w64 (by omega)]; omega
      obtain ⟨x, hx⟩ : ∃ x, l[k]? = some x := ⟨_, List.getElem?_eq_getElem hlt⟩
      have hrow : (opRs l)[k]? = some [iD x.1, iD x.2.1, iD x.2.2] := by rw [opRs_at, hx]; rfl
      have hxo : okOp (lensI all) own.length mem.length x = true := by
       have := hOk.1
       rw [List.all_eq_true] at this
       exact this x (List.mem_of_getElem? hx)
      have hm2 : 2 ≤ md := by omega
      obtain ⟨⟨n', hn'⟩, hN⟩ := hR.next hm2 hx hxo ho hmm hA
      by_cases h1 : x.1 = 1
      ·have e1 : (x.1 == 1) = true := by simpa using h1
       have hst : stepV md own all mem s x = s ++ [x.2.1.tmod md] := by simp [stepV, h1]
       rw [hst] at hN
       have hmd : md ≠ 0 := by omega
       repeat' first | refine vs T rfl fun K hK => ?_; (try simp (disch := omega) only [go_sem, Nat.reduceBEq, Nat.reduceAdd, Nat.reduceMul, Nat.reduceLeDiff, hd, hw, hrow, e1, hmd, ne_eq, not_false_eq_true, opRs_len]); (first | refine hK _ _ ?_; clear hK K | refine ⟨_, _, _, _, (by repeat (first | exact Sp.here | apply Sp.cons)), ?_, (by exact ⟨rfl, rfl⟩), ⟨by decide, ?_⟩, fun g' hg' => hK _ _ ?_⟩ <;> clear hK K | intro bq hbq; (try simp only [HB] at hbq); refine hK _ _ ?_; clear hK K | refine ⟨?_, hK _ _ ?_⟩ <;> clear hK K; focus (try omega)) | refine st rfl ?_ | refine sc rfl ?_ | refine nl ?_
       ·exact hsl
       ·omega
       ·refine ⟨⟨(k + 1, _, g'), hN⟩, Weak_subH ?_ ?_, by simp only []; omega⟩
        ·simp
        ·simp [sub, upd]
      have e1 : (x.1 == 1) = false := by simpa using h1
      by_cases h2 : x.1 = 2
      ·have e2 : (x.1 == 2) = true := by simpa using h2
       have hst : stepV md own all mem s x = s ++ [own.getD x.2.1.toNat 0] := by simp [stepV, h2]
       have hb : 0 ≤ x.2.1 ∧ x.2.1 < own.length := inB_spec.1 (by simpa [okOp, h2] using hxo)
       obtain ⟨v, hv⟩ : ∃ v, own[x.2.1.toNat]? = some v := ⟨_, List.getElem?_eq_getElem (by omega)⟩
       have rv : (iRs own)[x.2.1.toNat]? = some [iD v] := by rw [iRs_at, hv]; rfl
       rw [hst, List.getD_eq_getElem?_getD, hv, Option.getD_some] at hN
       repeat' first | refine vs T rfl fun K hK => ?_; (try simp (disch := omega) only [go_sem, Nat.reduceBEq, Nat.reduceAdd, Nat.reduceMul, Nat.reduceLeDiff, hd, hw, hrow, e1, e2, rv, opRs_len, iRs_len]); (first | refine hK _ _ ?_; clear hK K | refine ⟨_, _, _, _, (by repeat (first | exact Sp.here | apply Sp.cons)), ?_, (by exact ⟨rfl, rfl⟩), ⟨by decide, ?_⟩, fun g' hg' => hK _ _ ?_⟩ <;> clear hK K | intro bq hbq; (try simp only [HB] at hbq); refine hK _ _ ?_; clear hK K | refine ⟨?_, hK _ _ ?_⟩ <;> clear hK K; focus (try omega)) | refine st rfl ?_ | refine sc rfl ?_ | refine nl ?_
       ·exact hsl
       ·omega
       ·refine ⟨⟨(k + 1, _, g'), hN⟩, Weak_subH ?_ ?_, by simp only []; omega⟩
        ·simp
        ·simp [sub, upd]
      have e2 : (x.1 == 2) = false := by simpa using h2
      by_cases h3 : x.1 = 3
      ·have e3 : (x.1 == 3) = true := by simpa using h3
       have hst : stepV md own all mem s x = s ++ [mem.getD x.2.1.toNat 0] := by simp [stepV, h3]
       have hb : 0 ≤ x.2.1 ∧ x.2.1 < mem.length := inB_spec.1 (by simpa [okOp, h3] using hxo)
       obtain ⟨v, hv⟩ : ∃ v, mem[x.2.1.toNat]? = some v := ⟨_, List.getElem?_eq_getElem (by omega)⟩
       have rv : (iRs mem)[x.2.1.toNat]? = some [iD v] := by rw [iRs_at, hv]; rfl
       rw [hst, List.getD_eq_getElem?_getD, hv, Option.getD_some] at hN
       repeat' first | refine vs T rfl fun K hK => ?_; (try simp (disch := omega) only [go_sem, Nat.reduceBEq, Nat.reduceAdd, Nat.reduceMul, Nat.reduceLeDiff, hd, hw, hrow, e1, e2, e3, rv, opRs_len, iRs_len]); (first | refine hK _ _ ?_; clear hK K | refine ⟨_, _, _, _, (by repeat (first | exact Sp.here | apply Sp.cons)), ?_, (by exact ⟨rfl, rfl⟩), ⟨by decide, ?_⟩, fun g' hg' => hK _ _ ?_⟩ <;> clear hK K | intro bq hbq; (try simp only [HB] at hbq); refine hK _ _ ?_; clear hK K | refine ⟨?_, hK _ _ ?_⟩ <;> clear hK K; focus (try omega)) | refine st rfl ?_ | refine sc rfl ?_ | refine nl ?_
       ·exact hsl
       ·omega
       ·refine ⟨⟨(k + 1, _, g'), hN⟩, Weak_subH ?_ ?_, by simp only []; omega⟩
        ·simp
        ·simp [sub, upd]
      have e3 : (x.1 == 3) = false := by simpa using h3
      by_cases h4 : x.1 = 4
      ·have e4 : (x.1 == 4) = true := by simpa using h4
       have hst : stepV md own all mem s x = s ++ [(all.getD x.2.2.toNat []).getD x.2.1.toNat 0] := by simp [stepV, h4]
       have hok4 : inB x.2.2 (lensI all).length = true ∧ inB x.2.1 (((lensI all)[x.2.2.toNat]?).getD 0) = true := by simpa [okOp, h4] using hxo
       have hb := inB_spec.1 hok4.1
       rw [lensI_len] at hb
       obtain ⟨r, hr⟩ : ∃ r, all[x.2.2.toNat]? = some r := ⟨_, List.getElem?_eq_getElem (by omega)⟩
       have hlr : (lensI all)[x.2.2.toNat]? = some (r.length : Int) := by simp [lensI, hr]
       have hb2 := inB_spec.1 hok4.2
       rw [hlr, Option.getD_some] at hb2
       obtain ⟨v, hv⟩ : ∃ v, r[x.2.1.toNat]? = some v := ⟨_, List.getElem?_eq_getElem (by omega)⟩
       have rr : (rowsI all)[x.2.2.toNat]? = some [ints r] := by rw [rowsI_at, hr]; rfl
       have rv : (iRs r)[x.2.1.toNat]? = some [iD v] := by rw [iRs_at, hv]; rfl
       rw [hst, List.getD_eq_getElem?_getD (l := all), hr, Option.getD_some, List.getD_eq_getElem?_getD, hv, Option.getD_some] at hN
       repeat' first | refine dr (id := 29) T 11 (by kernel_rfl) ?_ | refine gn ?_ | (first | apply VCg.step T rfl rfl | apply exF); focus ((try simp (disch := omega) only [go_sem, Nat.reduceBEq, Nat.reduceMul, Nat.reduceLeDiff, rr, rv, iRs_len, rowsI_len]); (first | exact rfl | refine ⟨?_, rfl⟩; try omega)) | refine vs T rfl fun K hK => ?_; (try simp (disch := omega) only [go_sem, Nat.reduceBEq, Nat.reduceAdd, Nat.reduceLeDiff, hd, hw, hrow, e1, e2, e3, e4, opRs_len]); (first | refine hK _ _ ?_; clear hK K | refine ⟨_, _, _, _, (by repeat (first | exact Sp.here | apply Sp.cons)), ?_, (by exact ⟨rfl, rfl⟩), ⟨by decide, ?_⟩, fun g' hg' => hK _ _ ?_⟩ <;> clear hK K | intro bq hbq; (try simp only [HB] at hbq); refine hK _ _ ?_; clear hK K | refine ⟨?_, hK _ _ ?_⟩ <;> clear hK K; focus (try omega)) | refine st rfl ?_ | refine sc rfl ?_ | refine nl ?_
       ·exact hsl
       ·omega
       ·refine ⟨⟨(k + 1, _, g'), hN⟩, Weak_subH ?_ ?_, by simp only []; omega⟩
        ·simp
        ·simp [sub, upd]
      have e4 : (x.1 == 4) = false := by simpa using h4
      refine VC_gok (t := 14) (g := g) rfl fun hg => ?_
      have hge : 1 ≤ s.length := by
       unfold lieStep at hn'
       rw [if_neg (by omega)] at hn'
       split at hn'
       ·omega
       ·split at hn'
        ·omega
        ·cases hn'
      rcases g with _ | ⟨b, cap⟩
      ·have : s.length = 0 := hg
       omega
      have hgc : s.length ≤ cap := hg
      simp only [shp]
      obtain ⟨a1, ha1⟩ : ∃ a, s[s.length - 1]? = some a := ⟨_, List.getElem?_eq_getElem (by omega)⟩
      have w1 : IntKind.i64.wrap ((s.length : Int) - 1) = ((s.length - 1 : Nat) : Int) := by rw [w64 (by omega)]; omega
      have i1 := allB_get hR.inm ha1
      by_cases h5 : x.1 = 5
      ·have e5 : (x.1 == 5) = true := by simpa using h5
       have hst : stepV md own all mem s x = s.set (s.length - 1) (tI (a1 == 0)) := by simp only [stepV, h5, List.getD_eq_getElem?_getD, ha1]; rfl
       rw [hst] at hN
       repeat' first | refine vs T rfl fun K hK => ?_; (try simp (disch := omega) only [go_sem, Nat.reduceBEq, Nat.reduceAdd, Nat.reduceLeDiff, hd, hw, hrow, e1, e2, e3, e4, e5, w1, ha1, Nat.mul_one, opRs_len]); (first | refine hK _ _ ?_; clear hK K | intro bq hbq; (try simp only [HB] at hbq); refine hK _ _ ?_; clear hK K | refine ⟨?_, hK _ _ ?_⟩ <;> clear hK K; focus (try omega) | refine Op1.callp rfl rfl (truth06_ok _) rfl ?_; refine hK _ _ ?_; clear hK K) | refine st rfl ?_ | refine sc rfl ?_ | refine nl ?_
       refine ⟨⟨(k + 1, _, some (b, cap)), hN⟩, Weak_subH ?_ ?_, by simp only []; omega⟩
       ·simp [shp, List.map_set]
       ·simp [sub, upd]
      have e5 : (x.1 == 5) = false := by simpa using h5
      have h6 : (6 ≤ x.1 ∧ x.1 ≤ 14) ∧ 2 ≤ s.length := by
       unfold lieStep at hn'
       rw [if_neg (by omega), if_neg (by omega)] at hn'
       split at hn'
       ·omega
       ·cases hn'
      obtain ⟨a2, ha2⟩ : ∃ a, s[s.length - 2]? = some a := ⟨_, List.getElem?_eq_getElem (by omega)⟩
      have w2 : IntKind.i64.wrap ((s.length : Int) - 2) = ((s.length - 2 : Nat) : Int) := by rw [w64 (by omega)]; omega
      have i2 := allB_get hR.inm ha2
      have hst : stepV md own all mem s x = (s.set (s.length - 2) (twoF x.1 a2 a1 md)).take (s.length - 1) := by simp only [stepV, h1, h2, h3, h4, h5, if_false, List.getD_eq_getElem?_getD, ha1, ha2, Option.getD_some]
      rw [hst] at hN
      have cl := two06_ok x.1 a2 a1 md (by omega) (by omega) (by omega)
      repeat' first | refine dr (id := 19) T 13 (by kernel_rfl) ?_ | refine gn ?_ | (first | apply VCg.step T rfl rfl | apply exF); focus ((try simp (disch := omega) only [go_sem, Nat.reduceBEq, w1, w2, ha1, ha2, Nat.mul_one]); (first | exact rfl | refine ⟨?_, rfl⟩; try omega)) | refine vs T rfl fun K hK => ?_; (try simp (disch := omega) only [go_sem, Nat.reduceBEq, Nat.reduceAdd, Nat.reduceLeDiff, hd, hw, hrow, e1, e2, e3, e4, e5, w1, w2, Nat.mul_one, opRs_len]); (first | refine hK _ _ ?_; clear hK K | intro bq hbq; (try simp only [HB] at hbq); refine hK _ _ ?_; clear hK K | refine ⟨?_, hK _ _ ?_⟩ <;> clear hK K; focus (try omega) | refine Op1.callp rfl rfl (cl) rfl ?_; refine hK _ _ ?_; clear hK K) | refine st rfl ?_ | refine sc rfl ?_ | refine nl ?_
      have hlen : ((s.set (s.length - 2) (twoF x.1 a2 a1 md)).take (s.length - 1)).length = s.length - 1 := by rw [List.length_take, List.length_set]; omega
      refine ⟨⟨(k + 1, _, some (b, cap)), hN⟩, ?_, by simp only []; omega⟩
      refine Weak.trans (Weak_subH (H' := [(b, .cells _ _ ((s.set (s.length - 2) (twoF x.1 a2 a1 md)).map iD))]) ?_ ?_) Weak.cutC
      ·simp [shp, List.map_set]
      ·rw [hlen]
       simp [sub, upd]
     ·have hd : decide ((k : Int) < (l.length : Int)) = false := by simp; omega
      obtain ⟨hr1, hr2⟩ := hR.last (by omega)
      refine VC_gok (t := 14) (g := g) rfl fun hg => ?_
      rcases g with _ | ⟨b, cap⟩
      ·have : s.length = 0 := hg
       omega
      obtain ⟨v, hv⟩ : ∃ v, s[0]? = some v := ⟨_, List.getElem?_eq_getElem (by omega)⟩
      rw [← hr1, List.getD_eq_getElem?_getD, hv, Option.getD_some]
      simp only [shp]
      repeat' first | refine vs T rfl fun K hK => ?_; (try simp (disch := omega) only [go_sem, Nat.reduceBEq, Int.reduceToNat, hd, hv, hr2, opRs_len]); (first | refine hK _ _ ?_; clear hK K | refine ⟨?_, hK _ _ ?_⟩ <;> clear hK K; focus (try omega)) | refine st rfl ?_ | refine sc rfl ?_ | refine nl ?_ | exact ret2 T (List.nil_sublist _) ⟨rfl, rfl⟩
end Go.Proofs.YtomcmfbpmkklmaaGreat
