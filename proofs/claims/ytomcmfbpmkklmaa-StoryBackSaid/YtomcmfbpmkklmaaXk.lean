/- Contracts: whether code can be. No condition. -/
import Derived.Test.YtomcmfbpmkklmaaXg
import Derived.Test.YtomcmfbpmkklmaaXe
namespace Go.Proofs.Ytomcmfbpmkklmaa
set_option linter.unusedSimpArgs false
set_option linter.unusedVariables false
set_option maxRecDepth 20000
open Go Go.Proofs Go.Vc
def okOp (rs : List Int) (own locs : Int) (x : Opc) : Bool :=
 if x.1 = 1 then inB x.2.1 10000 else if x.1 = 2 then inB x.2.1 own else if x.1 = 3 then inB x.2.1 locs
 else if x.1 = 4 then inB x.2.2 rs.length && inB x.2.1 ((rs[x.2.2.toNat]?).getD 0) else true
def oneL (o : Option (Int × Int)) : Bool := match o with | some p => p.1 == 1 | none => false
def codeB (l : List Opc) (rs : List Int) (own locs : Int) : Bool := (l.all (okOp rs own locs)) && oneL (liesF l 0 0)
def lightI (x : Ins) : Bool := decide (x.e.length ≤ 300) && decide (x.f.length ≤ 300)
def lightR (r : List Ins) : Bool := decide (r.length ≤ 200) && r.all lightI
def lightU (u : Un) : Bool := (decide (u.init.length ≤ 20) && decide (u.regs.length ≤ 20) && decide (u.code.length ≤ 8)) && u.code.all lightR
attribute [local irreducible] retQ VCg VCw VCx
theorem ownI_ok (l : List Int) (hl : l.length ≤ 1000000) : Fun Try.prog 41 [ints l] [] false (fun d H' => ∃ g, d = .gs g l.length ∧ gOk g l.length ∧ H' = shp g 3 1 (iRs l).flatten []) := by
 refine Fun.of T [.tmp 2] Try.func41 rfl Try.ntmps41 Try.results41 rfl (by kernel_rfl) ?_
 repeat' first | refine vs T rfl fun K hK => ?_; (try simp (disch := omega) only [go_sem, Nat.reduceBEq, iRs_len]); (first | refine hK _ _ ?_; clear hK K | refine ⟨_, _, _, _, (by repeat (exact Sp.nil)), ?_, (by exact ⟨rfl, rfl⟩), ⟨by decide, ?_⟩, fun g' hg' => hK _ _ ?_⟩ <;> clear hK K) | refine st rfl ?_ | refine nl ?_
 ·rfl
 ·omega
 ·exact ret1 T (List.Sublist.refl _) ⟨g', rfl, by simpa using hg', rfl⟩
theorem ownE_ok (l : List En) (hl : l.length ≤ 1000000) : Fun Try.prog 50 [buf l] [] false (fun d H' => ∃ g, d = .gs g l.length ∧ gOk g l.length ∧ H' = shp g 38 2 (eRs l).flatten []) := by
 refine Fun.of T [.tmp 2] Try.func50 rfl Try.ntmps50 Try.results50 rfl (by kernel_rfl) ?_
 repeat' first | refine vs T rfl fun K hK => ?_; (try simp (disch := omega) only [go_sem, Nat.reduceBEq, eRs_len]); (first | refine hK _ _ ?_; clear hK K | refine ⟨_, _, _, _, (by repeat (exact Sp.nil)), ?_, (by exact ⟨rfl, rfl⟩), ?_, fun g' hg' => hK _ _ ?_⟩ <;> clear hK K) | refine st rfl ?_ | refine nl ?_
 ·rfl
 ·omega
 ·exact ret1 T (List.Sublist.refl _) ⟨g', rfl, by simpa using hg', rfl⟩
theorem ownEf_ok (l : List En) (hl : l.length ≤ 1000000) : Pure Try.prog 50 [buf l] (buf l) :=
 Fun.fz ((ownE_ok l hl).mono fun d H' ⟨g, h1, h2, h3⟩ => by subst h1; subst h3; exact Fz_shp h2 (eRs_len l) (eRs_row l))
theorem ownIf_ok (l : List Int) (hl : l.length ≤ 1000000) : Pure Try.prog 41 [ints l] (ints l) :=
 Fun.fz ((ownI_ok l hl).mono fun d H' ⟨g, h1, h2, h3⟩ => by subst h1; subst h3; exact Fz_shp h2 (iRs_len l) (iRs_row l))
theorem HRel.cut {w : World} {L : Nat → Prop} {b n k : Nat} {ty : TypeId} {l : List D} (h : HRel w L b (.cells ty n l)) : HRel w L b (.cells ty n (l.take k)) := by
 obtain ⟨h1, arr, h2, h3, h4⟩ := h
 refine ⟨all_take h1 k, arr, h2, h3, ?_⟩
 have := RelL.take k _ _ h4
 rw [List.take_take] at this
 rwa [List.length_take]
theorem Weak.cut {env : Nat → D} {g : Option (Nat × Nat)} {e : TypeId} {esz k : Nat} {l : List D} {X : Heap} : Weak ⟨env, shp g e esz l X⟩ ⟨env, shp g e esz (l.take k) X⟩ := fun x a w h => by
 cases g with
 | none => exact h
 | some p =>
  obtain ⟨b, cap⟩ := p
  have hbl : (shp (some (b, cap)) e esz (l.take k) X).blocks = (shp (some (b, cap)) e esz l X).blocks := rfl
  have hlv : live (shp (some (b, cap)) e esz (l.take k) X) x.L0 = live (shp (some (b, cap)) e esz l X) x.L0 := by
   funext b'
   simp only [live, hbl]
  refine { env := fun t => by rw [hlv]; exact h.env t, inv := ?_, evo := ?_, defers := h.defers, size := h.size }
  ·refine { rel := fun b' c hm => ?_, nodup := by rw [hbl]; exact h.inv.nodup, apart := fun b' hb => h.inv.apart b' (by rw [← hbl]; exact hb), old := h.inv.old }
   rw [hlv]
   rcases List.mem_cons.1 hm with hm | hm
   ·cases hm
    exact HRel.cut (h.inv.rel b _ (List.mem_cons_self ..))
   ·exact h.inv.rel b' c (List.mem_cons_of_mem _ hm)
  ·exact ⟨h.evo.os, h.evo.tape, h.evo.output, h.evo.size, h.evo.block, fun b' hb => h.evo.fresh b' (by rw [← hbl]; exact hb)⟩
end Go.Proofs.Ytomcmfbpmkklmaa
