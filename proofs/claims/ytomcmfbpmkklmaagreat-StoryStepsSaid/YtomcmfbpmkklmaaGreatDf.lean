/- All that can be reached, as data. No condition. -/
import Derived.Test.YtomcmfbpmkklmaaGreatBc
import Derived.Test.YtomcmfbpmkklmaaGreatRt
import Derived.Test.YtomcmfbpmkklmaaGreatDb
import Derived.Test.YtomcmfbpmkklmaaGreatDd
import Derived.Test.YtomcmfbpmkklmaaGreatYc
namespace Go.Proofs.YtomcmfbpmkklmaaGreat
set_option linter.unusedSimpArgs false
set_option linter.unusedVariables false
open Go Go.Proofs Go.Vc
instance : DecidableEq Cf := fun a b => decidable_of_iff (a.pc = b.pc ∧ a.regs = b.regs ∧ a.mem = b.mem ∧ a.bufs = b.bufs) ⟨fun h => by cases a; cases b; simp_all, fun h => by subst h; simp⟩
instance : Inhabited Cf := ⟨⟨[], [], [], []⟩⟩
set_option maxRecDepth 20000
attribute [local irreducible] retQ VCg VCw VCx
structure ToOk (n : Nat) (P B : List Int) : Prop where
 len : n ≤ 1000000
 pl : P.length = n
 bl : B.length = n
 par : ∀ j, 0 < j → j < n → 0 ≤ P.getD j 0 ∧ P.getD j 0 < j
theorem VCx.step {P : Program} (T : Tab P) {W : Nat → Bool} {st : Nat} {H H1 : Heap} {K : (Nat → D) → Prop} {m i : Nat} {E : Nat → D} {o : Oper} {l : List Oper} {d : D} {t : Tmp} (hg : o.guard = none) (ht : o.dst = some t) (hi : Nat.beq i st = false)
  (h1 : opC T o (evD E) H (fun d' H' => d' = d ∧ H' = H)) (h1' : opC T o (evD E) H1 (fun d' H' => d' = d ∧ H' = H1)) (h2 : VCx T W st H H1 K m (i + 1) l (upd E t d)) : VCx T W st H H1 K (m + 1) i (o :: l) E := by
 unfold VCx
 exact ⟨d, ⟨hg, fun _ => ⟨opS_of T h1, .inr (opS_of T h1')⟩, fun e => by subst e; rw [Nat.beq_refl] at hi; cases hi⟩, by rw [ht]; exact h2⟩
theorem VCx.nil {P : Program} (T : Tab P) {W : Nat → Bool} {st : Nat} {H H1 : Heap} {K : (Nat → D) → Prop} {i : Nat} {E : Nat → D} {l : List Oper} (h : K E) : VCx T W st H H1 K 0 i l E := by unfold VCx; exact h
abbrev OwnI (L : List Int) : D → Heap → Prop := fun d H' => ∃ x : Option (Nat × Nat), gOk x L.length ∧ d = .gs x L.length ∧ H' = shp x 3 1 (L.map iD) []
theorem OwnI.freeze {f : Nat} {args : List D} {L : List Int} (h : Fun Tryz.prog f args [] false (OwnI L)) : Pure Tryz.prog f args (ints L) :=
 Fun.freeze (iRs_row _) (h.mono fun d H' ⟨x, hx, h1, h2⟩ => ⟨x, 3, by rw [h1, iRs_len], by rw [h2, iRs_flat]⟩)
end Go.Proofs.YtomcmfbpmkklmaaGreat
