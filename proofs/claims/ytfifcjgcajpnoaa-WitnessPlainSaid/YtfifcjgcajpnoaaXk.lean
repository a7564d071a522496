/- Contracts: whether code can be. No condition. -/
import Derived.Test.YtfifcjgcajpnoaaXg
import Derived.Test.YtfifcjgcajpnoaaXe
namespace Go.Proofs.Ytfifcjgcajpnoaa
set_option linter.unusedSimpArgs false
set_option linter.unusedVariables false
set_option maxRecDepth 20000
open Go Go.Proofs Go.Vc

def okOp (rs : List Int) (own locs : Int) (x : Opc) : Bool :=
  if x.1 = 1 then inB x.2.1 10000 else if x.1 = 2 then inB x.2.1 own else if x.1 = 3 then inB x.2.1 locs
  else if x.1 = 4 then inB x.2.2 rs.length && inB x.2.1 ((rs[x.2.2.toNat]?).getD 0) else true
def oneL (o : Option (Int × Int)) : Bool := match o with | some p => p.1 == 1 | none => false
def codeB (l : List Opc) (rs : List Int) (own locs : Int) : Bool := (l.all (okOp rs own locs)) && oneL (liesF l 0 0)

end Go.Proofs.Ytfifcjgcajpnoaa
/- Contracts: whether a unit is light. No condition. -/
namespace Go.Proofs.Ytfifcjgcajpnoaa
set_option linter.unusedSimpArgs false
set_option linter.unusedVariables false
set_option maxRecDepth 20000
open Go Go.Proofs Go.Vc
attribute [local irreducible] retQ VCg VCw

def lightI (x : Ins) : Bool := decide (x.e.length ≤ 300) && decide (x.f.length ≤ 300)
def lightR (r : List Ins) : Bool := decide (r.length ≤ 200) && r.all lightI
def lightU (u : Un) : Bool := (decide (u.init.length ≤ 20) && decide (u.regs.length ≤ 20) && decide (u.code.length ≤ 8)) && u.code.all lightR

set_option maxHeartbeats 8000000 in
theorem ulight_ok (u : Un) : Pure Try.prog 12 [.agg (unC u)] (bD (lightU u)) := by
  refine Fun.of T [.tmp 2] Try.func12 rfl Try.ntmps12 Try.results12 rfl (by kernel_rfl) ?_
  by_cases g1 : u.init.length ≤ 20
  case neg =>
    have e1 : decide ((u.init.length : Int) > 20) = true := by simp; omega
    have hL : lightU u = false := by simp [lightU, g1]
    rw [hL]
    repeat' first | refine vb rfl rfl rfl rfl ?_ | refine vs T rfl fun K hK => ?_; (try simp (disch := omega) only [go_sem, Nat.reduceBEq, e1, iRs_len]); (refine hK _ _ ?_; clear hK K) | refine st rfl ?_ | refine sc rfl ?_ | refine nl ?_ | refine gs rfl rfl ?_ | exact ret1 T (List.nil_sublist _) ⟨rfl, rfl⟩
  have e1 : decide ((u.init.length : Int) > 20) = false := by simp; omega
  by_cases g2 : u.regs.length ≤ 20
  case neg =>
    have e2 : decide ((u.regs.length : Int) > 20) = true := by simp; omega
    have hL : lightU u = false := by simp [lightU, g2]
    rw [hL]
    repeat' first | refine vb rfl rfl rfl rfl ?_ | refine vs T rfl fun K hK => ?_; (try simp (disch := omega) only [go_sem, Nat.reduceBEq, e1, e2, iRs_len]); (refine hK _ _ ?_; clear hK K) | refine st rfl ?_ | refine sc rfl ?_ | refine nl ?_ | refine gs rfl rfl ?_ | exact ret1 T (List.nil_sublist _) ⟨rfl, rfl⟩
  have e2 : decide ((u.regs.length : Int) > 20) = false := by simp; omega
  by_cases g3 : u.code.length ≤ 8
  case neg =>
    have e3 : decide ((u.code.length : Int) > 8) = true := by simp; omega
    have hL : lightU u = false := by simp [lightU, g3]
    rw [hL]
    repeat' first | refine vb rfl rfl rfl rfl ?_ | refine vs T rfl fun K hK => ?_; (try simp (disch := omega) only [go_sem, Nat.reduceBEq, e1, e2, e3, iRs_len, codeRs_len]); (refine hK _ _ ?_; clear hK K) | refine st rfl ?_ | refine sc rfl ?_ | refine nl ?_ | refine gs rfl rfl ?_ | exact ret1 T (List.nil_sublist _) ⟨rfl, rfl⟩
  have e3 : decide ((u.code.length : Int) > 8) = false := by simp; omega
  have hU : lightU u = u.code.all lightR := by simp [lightU, g1, g2, g3]
  rw [hU]
  repeat' first | refine vb rfl rfl rfl rfl ?_ | refine vs T rfl fun K hK => ?_; (try simp (disch := omega) only [go_sem, Nat.reduceBEq, e1, e2, e3, iRs_len, codeRs_len]); (refine hK _ _ ?_; clear hK K) | refine st rfl ?_ | refine sc rfl ?_ | refine nl ?_ | refine gs rfl rfl ?_
  refine VC.loop {k : Nat // k ≤ u.code.length ∧ ∀ (i : Nat) (y : List Ins), i < k → u.code[i]? = some y → lightR y = true} (fun p => ⟨lookD [(1, .pt (unC u)), (3, iD (p.1 : Nat))], []⟩) (fun p => u.code.length - p.1) ⟨0, by omega, fun i y hi => by omega⟩ ?_ ?_
  · refine Weak.sub ?_
    simp [sub, upd]
  · rintro ⟨k, hk, hs⟩
    dsimp only
    rcases Nat.lt_or_ge k u.code.length with hlt | hge
    · have hd : decide ((k : Int) < (u.code.length : Int)) = true := by simp; omega
      have hw : IntKind.i64.wrap ((k : Int) + 1) = ((k + 1 : Nat) : Int) := by rw [w64 (by omega)]; omega
      obtain ⟨r, hr⟩ : ∃ r, u.code[k]? = some r := ⟨_, List.getElem?_eq_getElem hlt⟩
      have rr : (codeRs u.code)[k]? = some [.sl false 7 (insRs r)] := by rw [codeRs_at, hr]; rfl
      by_cases h0 : r.length ≤ 200
      case neg =>
        have e0 : decide ((r.length : Int) > 200) = true := by simp; omega
        rw [all_not hr (by simp [lightR, h0])]
        repeat' first | refine vs T rfl fun K hK => ?_; (try simp (disch := omega) only [go_sem, Nat.reduceBEq, hd, rr, e0, codeRs_len, insRs_len]); (first | refine hK _ _ ?_; clear hK K | refine ⟨?_, hK _ _ ?_⟩ <;> clear hK K; focus (try omega)) | refine st rfl ?_ | refine sc rfl ?_ | refine nl ?_ | exact ret1 T (List.nil_sublist _) ⟨rfl, rfl⟩
      have e0 : decide ((r.length : Int) > 200) = false := by simp; omega
      repeat' first | refine vs T rfl fun K hK => ?_; (try simp (disch := omega) only [go_sem, Nat.reduceBEq, hd, rr, e0, codeRs_len, insRs_len]); (first | refine hK _ _ ?_; clear hK K | refine ⟨?_, hK _ _ ?_⟩ <;> clear hK K; focus (try omega)) | refine st rfl ?_ | refine sc rfl ?_ | refine nl ?_
      refine VC.loop {j : Nat // j ≤ r.length ∧ ∀ (i : Nat) (y : Ins), i < j → r[i]? = some y → lightI y = true} (fun p => ⟨lookD [(1, .pt (unC u)), (3, iD (k : Nat)), (4, iD (p.1 : Nat))], []⟩) (fun p => r.length - p.1) ⟨0, by omega, fun i y hi => by omega⟩ ?_ ?_
      · refine Weak.sub ?_
        simp [sub, upd]
      · rintro ⟨j, hj, hsj⟩
        dsimp only
        rcases Nat.lt_or_ge j r.length with hjl | hjg
        · have hdj : decide ((j : Int) < (r.length : Int)) = true := by simp; omega
          have hwj : IntKind.i64.wrap ((j : Int) + 1) = ((j + 1 : Nat) : Int) := by rw [w64 (by omega)]; omega
          obtain ⟨x, hx⟩ : ∃ x, r[j]? = some x := ⟨_, List.getElem?_eq_getElem hjl⟩
          have rx : (insRs r)[j]? = some [iD x.op, iD x.reg, iD x.loc, opsD x.e, opsD x.f, bD x.ne, iD x.to] := by rw [insRs_at, hx]; rfl
          by_cases p1 : x.e.length ≤ 300
          · have q1 : decide ((x.e.length : Int) > 300) = false := by simp; omega
            by_cases p2 : x.f.length ≤ 300
            · have q2 : decide ((x.f.length : Int) > 300) = false := by simp; omega
              repeat' first | refine vs T rfl fun K hK => ?_; (try simp (disch := omega) only [go_sem, Nat.reduceBEq, hdj, hwj, rr, rx, q1, q2, codeRs_len, insRs_len, opRs_len]); (first | refine hK _ _ ?_; clear hK K | refine ⟨?_, hK _ _ ?_⟩ <;> clear hK K; focus (try omega)) | refine st rfl ?_ | refine sc rfl ?_ | refine nl ?_ | refine gs rfl rfl ?_
              refine ⟨⟨j + 1, by omega, step_of hsj hx (by simp [lightI, p1, p2])⟩, Weak.sub ?_, by simp only []; omega⟩
              simp [sub, upd]
            · have q2 : decide ((x.f.length : Int) > 300) = true := by simp; omega
              have hb : lightR r = false := by
                unfold lightR
                rw [all_not hx (by simp [lightI, p2]), Bool.and_false]
              rw [all_not hr hb]
              repeat' first | refine vs T rfl fun K hK => ?_; (try simp (disch := omega) only [go_sem, Nat.reduceBEq, hdj, rr, rx, q1, q2, codeRs_len, insRs_len, opRs_len]); (first | refine hK _ _ ?_; clear hK K | refine ⟨?_, hK _ _ ?_⟩ <;> clear hK K; focus (try omega)) | refine st rfl ?_ | refine sc rfl ?_ | refine nl ?_ | refine gs rfl rfl ?_ | exact ret1 T (List.nil_sublist _) ⟨rfl, rfl⟩
          · have q1 : decide ((x.e.length : Int) > 300) = true := by simp; omega
            have hb : lightR r = false := by
              unfold lightR
              rw [all_not hx (by simp [lightI, p1]), Bool.and_false]
            rw [all_not hr hb]
            repeat' first | refine vs T rfl fun K hK => ?_; (try simp (disch := omega) only [go_sem, Nat.reduceBEq, hdj, rr, rx, q1, codeRs_len, insRs_len, opRs_len]); (first | refine hK _ _ ?_; clear hK K | refine ⟨?_, hK _ _ ?_⟩ <;> clear hK K; focus (try omega)) | refine st rfl ?_ | refine sc rfl ?_ | refine nl ?_ | refine gs rfl rfl ?_ | exact ret1 T (List.nil_sublist _) ⟨rfl, rfl⟩
        · have hdj : decide ((j : Int) < (r.length : Int)) = false := by simp; omega
          have hb : lightR r = true := by
            unfold lightR
            rw [all_of fun i y hi hy => hsj i y (by omega) hy]
            simpa using h0
          repeat' first | refine vs T rfl fun K hK => ?_; (try simp (disch := omega) only [go_sem, Nat.reduceBEq, hdj, hw, rr, codeRs_len, insRs_len]); (first | refine hK _ _ ?_; clear hK K | refine ⟨?_, hK _ _ ?_⟩ <;> clear hK K; focus (try omega)) | refine st rfl ?_ | refine sc rfl ?_ | refine nl ?_
          refine ⟨⟨k + 1, by omega, step_of hs hr hb⟩, Weak.sub ?_, by simp only []; omega⟩
          simp [sub, upd]
    · have hd : decide ((k : Int) < (u.code.length : Int)) = false := by simp; omega
      rw [all_of fun i y hi hy => hs i y (by omega) hy]
      repeat' first | refine vs T rfl fun K hK => ?_; (try simp (disch := omega) only [go_sem, Nat.reduceBEq, hd, codeRs_len]); (refine hK _ _ ?_; clear hK K) | refine st rfl ?_ | refine sc rfl ?_ | refine nl ?_ | exact ret1 T (List.nil_sublist _) ⟨rfl, rfl⟩
end Go.Proofs.Ytfifcjgcajpnoaa
/- Contracts: rows of one's own. No condition. -/
namespace Go.Proofs.Ytfifcjgcajpnoaa
set_option linter.unusedSimpArgs false
set_option linter.unusedVariables false
set_option maxRecDepth 20000
open Go Go.Proofs Go.Vc
attribute [local irreducible] retQ VCg VCw

theorem ownI_ok (l : List Int) (hl : l.length ≤ 1000000) : Fun Try.prog 39 [ints l] [] false (fun d H' => ∃ g, d = .gs g l.length ∧ gOk g l.length ∧ H' = shp g 3 1 (iRs l).flatten []) := by
  refine Fun.of T [.tmp 2] Try.func39 rfl Try.ntmps39 Try.results39 rfl (by kernel_rfl) ?_
  repeat' first | refine vs T rfl fun K hK => ?_; (try simp (disch := omega) only [go_sem, Nat.reduceBEq, iRs_len]); (first | refine hK _ _ ?_; clear hK K | refine ⟨_, _, _, _, (by repeat (exact Sp.nil)), ?_, (by exact ⟨rfl, rfl⟩), ⟨by decide, ?_⟩, fun g' hg' => hK _ _ ?_⟩ <;> clear hK K) | refine st rfl ?_ | refine nl ?_
  · rfl
  · omega
  · exact ret1 T (List.Sublist.refl _) ⟨g', rfl, by simpa using hg', rfl⟩

theorem ownE_ok (l : List En) (hl : l.length ≤ 1000000) : Fun Try.prog 43 [buf l] [] false (fun d H' => ∃ g, d = .gs g l.length ∧ gOk g l.length ∧ H' = shp g 70 2 (eRs l).flatten []) := by
  refine Fun.of T [.tmp 2] Try.func43 rfl Try.ntmps43 Try.results43 rfl (by kernel_rfl) ?_
  repeat' first | refine vs T rfl fun K hK => ?_; (try simp (disch := omega) only [go_sem, Nat.reduceBEq, eRs_len]); (first | refine hK _ _ ?_; clear hK K | refine ⟨_, _, _, _, (by repeat (exact Sp.nil)), ?_, (by exact ⟨rfl, rfl⟩), ?_, fun g' hg' => hK _ _ ?_⟩ <;> clear hK K) | refine st rfl ?_ | refine nl ?_
  · rfl
  · omega
  · exact ret1 T (List.Sublist.refl _) ⟨g', rfl, by simpa using hg', rfl⟩
theorem ownEf_ok (l : List En) (hl : l.length ≤ 1000000) : Pure Try.prog 43 [buf l] (buf l) :=
  Fun.fz ((ownE_ok l hl).mono fun d H' ⟨g, h1, h2, h3⟩ => by subst h1; subst h3; exact Fz_shp h2 (eRs_len l) (eRs_row l))
theorem ownIf_ok (l : List Int) (hl : l.length ≤ 1000000) : Pure Try.prog 39 [ints l] (ints l) :=
  Fun.fz ((ownI_ok l hl).mono fun d H' ⟨g, h1, h2, h3⟩ => by subst h1; subst h3; exact Fz_shp h2 (iRs_len l) (iRs_row l))
end Go.Proofs.Ytfifcjgcajpnoaa
/- Own cells of which less is said; code's value. No condition. -/
namespace Go.Proofs.Ytfifcjgcajpnoaa
set_option linter.unusedSimpArgs false
set_option linter.unusedVariables false
set_option maxRecDepth 20000
open Go Go.Proofs Go.Vc

theorem HRel.cut {w : World} {L : Nat → Prop} {b n k : Nat} {ty : TypeId} {l : List D} (h : HRel w L b (.cells ty n l)) : HRel w L b (.cells ty n (l.take k)) := by
  obtain ⟨h1, arr, h2, h3, h4⟩ := h
  refine ⟨all_take h1 k, arr, h2, h3, ?_⟩
  have := RelL.take k _ _ h4
  rw [List.take_take] at this
  rwa [List.length_take]
/-- The first cells of an own slice are all that is said of it from now on. -/
theorem Weak.cut {env : Nat → D} {g : Option (Nat × Nat)} {e : TypeId} {esz k : Nat} {l : List D} {X : Heap} : Weak ⟨env, shp g e esz l X⟩ ⟨env, shp g e esz (l.take k) X⟩ := fun x a w h => by
  cases g with
  | none => exact h
  | some p =>
    obtain ⟨b, cap⟩ := p
    have hbl : (shp (some (b, cap)) e esz (l.take k) X).blocks = (shp (some (b, cap)) e esz l X).blocks := rfl
    have hlv : live (shp (some (b, cap)) e esz (l.take k) X) x.L0 = live (shp (some (b, cap)) e esz l X) x.L0 := by
      funext b'
      simp only [live, hbl]
    refine { env := fun t => by rw [hlv]; exact h.env t, inv := ?_, evo := ?_, defers := h.defers, size := h.size }
    · refine { rel := fun b' c hm => ?_, nodup := by rw [hbl]; exact h.inv.nodup, apart := fun b' hb => h.inv.apart b' (by rw [← hbl]; exact hb), old := h.inv.old }
      rw [hlv]
      rcases List.mem_cons.1 hm with hm | hm
      · cases hm
        exact HRel.cut (h.inv.rel b _ (List.mem_cons_self ..))
      · exact h.inv.rel b' c (List.mem_cons_of_mem _ hm)
    · exact ⟨h.evo.os, h.evo.tape, h.evo.output, h.evo.size, h.evo.block, fun b' hb => h.evo.fresh b' (by rw [← hbl]; exact hb)⟩
end Go.Proofs.Ytfifcjgcajpnoaa
