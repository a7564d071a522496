/- Plain law: how much two configurations differ. No condition. -/
import Derived.Test.YtomcmfbpmkklmaaGreatXe
import Derived.Test.YtomcmfbpmkklmaaGreatDd
import Derived.Test.YtomcmfbpmkklmaaGreatDf
namespace Go.Proofs.YtomcmfbpmkklmaaGreat
set_option linter.unusedSimpArgs false
set_option linter.unusedVariables false
set_option maxRecDepth 20000
open Go Go.Proofs Go.Vc
section
variable {α : Type} [DecidableEq α]
end
attribute [local irreducible] y'0 VCg VCw VCx
theorem Zp2 {e eb:Nat} {ea full:Bool} {ez:List Value} {l:List En} {k:IntKind} {n:Int} {K:D→Prop}:
  cIndexAddr (.slice e 2 eb ea ez) (.sl full 2 (eRs l)) (.is (.int k n)) K=((0≤n∧n<l.length)∧K (.pt (eR (l.getD n.toNat (0,0))))):=ZcZ eR (0,0)
theorem Zno {e eb:Nat} {ea full:Bool} {ez:List Value} {l:List (List Int)} {k:IntKind} {n:Int} {K:D→Prop}:
  cIndexAddr (.slice e 1 eb ea ez) (.sl full 1 (x'j l)) (.is (.int k n)) K=((0≤n∧n<l.length)∧K (.pt [z'S (l.getD n.toNat [])])):=ZcZ (fun r=>[z'S r]) []
theorem Zn2 {e eb:Nat} {ea full:Bool} {ez:List Value} {l:List (List En)} {k:IntKind} {n:Int} {K:D→Prop}:
  cIndexAddr (.slice e 1 eb ea ez) (.sl full 1 (y'U l)) (.is (.int k n)) K=((0≤n∧n<l.length)∧K (.pt [buf (l.getD n.toNat [])])):=ZcZ (fun r=>[buf r]) []
theorem Zqy (x y:En):EqS Tryz.prog 127 [.int .i64 x.1,.int .i64 x.2] [.int .i64 y.1,.int .i64 y.2] (decide (x=y)):=by
 refine⟨by kernel_rfl,fun w=>?_⟩
 obtain⟨a,b⟩:=x
 obtain⟨a',b'⟩:=y
 have u3:=Tryz.underlying3
 have a3:=Tryz.isAgg3
 have z3:=Tryz.sizeOf3
 have hS:Tryz.prog.underlying 127=some (.struct (Tryz.prog.fieldsOf 127)):=by kernel_rfl
 have hp:Tryz.prog.stoodInHeld 127=false:=by kernel_rfl
 rw[show(10000:Nat)=9999+1 from rfl,run_equalIn_agg w 9999 127 _ _ hS hp]
 simp only[Program.fieldsOf,Tryz.underlying127]
 go_simp
 by_cases h1:a=a'<;>by_cases h2:b=b'<;>simp[h1,h2]
end Go.Proofs.YtomcmfbpmkklmaaGreat
