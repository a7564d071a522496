/- Contracts: the reference's pop. No condition. -/
import Derived.Test.YthlkpnjjkgmlkaaGreatXa
namespace Go.Proofs.YthlkpnjjkgmlkaaGreat
set_option maxHeartbeats 16000000
set_option linter.unusedSimpArgs false
set_option linter.unusedVariables false
set_option maxRecDepth 20000
open Go Go.Proofs Go.Vc
attribute [local irreducible] x'v VCg VCw VCx
def Zav (m loc:Int) (x:En):Bool:=decide (x.1=loc)||(decide (m=2)&&decide (loc<0))
def atK (m loc:Int) (b:List En) (k:Nat):Option Nat:=((b.drop k).findIdx? (Zav m loc)).map (· +k)
theorem Zsm (m loc:Int) (b:List En):atK m loc b b.length=none:=by simp[atK]
theorem Zqe (m loc:Int) {b:List En} {k:Nat} {x:En} (h:b[k]?=some x):atK m loc b k=(match Zav m loc x with|true=>some k|false=>atK m loc b (k+1)):=by
 have hk:=(z'b.1 h).1
 have hd:b.drop k=x::b.drop (k+1):=by rw[x'x hk];congr 1;exact z'O ((z'c hk).symm.trans h)
 unfold atK
 rw[hd,List.findIdx?_cons]
 cases Zav m loc x with
 |true=>simp
 |false=>
  cases (b.drop (k+1)).findIdx? (Zav m loc)with
  |none=>rfl
  |some j=>simp;omega
theorem ZjA (loc:Int): ∀b:List En,Zad loc b=b.findIdx? (fun x=>decide (x.1=loc))
 |[]=>rfl
 |x::r=>by
  unfold Zad
  rw[List.findIdx?_cons,ZjA loc r]
  cases h:decide (x.1=loc)<;>simp
theorem ZsR {m loc:Int} (b:List En):z'2 m loc b=(if (m=2∧x'Z (atK m loc b 0)>0)∨(m≠2∧m≠3)then none else atK m loc b 0):=by
 have h0:atK m loc b 0=b.findIdx? (Zav m loc):=by unfold atK;rw[x's];cases b.findIdx? (Zav m loc)<;>rfl
 by_cases h3:m=3
 ·subst h3
  have:Zav 3 loc=fun x=>decide (x.1=loc):=by funext x;simp[Zav]
  rw[h0,this, ←ZjA]
  simp[z'2]
 ·by_cases h2:m=2
  ·subst h2
   rcases b with _|⟨x,r⟩
   ·simp[z'2,h0]
   ·rw[h0,List.findIdx?_cons]
    cases hm:Zav 2 loc x with
    |true=>
     have:loc<0∨x.1=loc:=by
      simp only[Zav,y't,decide_eq_true_eq,z'f]at hm
      rcases hm with h|h
      ·exact .inr h
      ·exact .inl h.2
     simp[z'2,x'Z,this]
    |false=>
     have hn: ¬(loc<0∨x.1=loc):=fun h=>by
      have:Zav 2 loc x=true:=by
       rcases h with h|h
       ·simp[Zav,h]
       ·simp[Zav,h]
      rw[this]at hm;cases hm
     have hnx:z'2 2 loc (x::r)=none:=by
      unfold z'2
      rw[if_neg (by decide),if_neg]
      rintro⟨_,_,h⟩
      exact hn (h.imp id (fun h=>by simpa using h))
     rw[hnx]
     cases r.findIdx? (Zav 2 loc)with
     |none=>simp
     |some j=>simp[x'Z]
  ·simp[z'2,h2,h3]
def w'r (a:Option Nat) (b:List En) (i:Nat):List En:=match a with|none=>b.take i|some k=>v'f k (b.take i)
theorem Zea {a:Option Nat} {b:List En} {i:Nat} {x:En} (h:b[i]?=some x):w'r a b (i+1)=w'r a b i++(match decide (a=some i)with|true=>[]|false=>[x]):=by
 have hi:=(z'b.1 h).1
 have ht:b.take (i+1)=b.take i++[x]:=by rw[x'U,h];rfl
 have hl:(b.take i).length=i:=by rw[z'L];omega
 unfold w'r
 rw[ht]
 generalize b.take i=Y at*
 cases a with
 |none=>simp
 |some k=>
  simp only[v'f,z'H]
  rcases Nat.lt_trichotomy i k with h1|h1|h1
  ·have: ¬k=i:=by omega
   rw[decide_eq_false this,y'8 (show(Y++[x]).length≤k by simp[hl];omega),y'T (show(Y++[x]).length≤k+1 by simp[hl];omega),y'8 (show Y.length≤k by omega),y'T (show Y.length≤k+1 by omega)]
   simp
  ·subst h1
   rw[decide_eq_true rfl,List.take_left' hl,y'T (show(Y++[x]).length≤i+1 by simp[hl]),y'8 (show Y.length≤i by omega),y'T (show Y.length≤i+1 by omega)]
   simp
  ·have: ¬k=i:=by omega
   rw[decide_eq_false this,List.take_append_of_le_length (show k≤Y.length by omega),List.drop_append_of_le_length (show k+1≤Y.length by omega)]
   simp
theorem Zfz (a:Option Nat) (b:List En) (i:Nat):(w'r a b i).length≤b.length:=by
 cases a with
 |none=>simp only[w'r];rw[z'L];omega
 |some k=>simp only[w'r,v'f];rw[z'j,z'L,x'h,z'L];omega
theorem Zkv (a:Option Nat) (b:List En):w'r a b 0=[]:=by cases a<;>simp[w'r,v'f]
theorem Zd8 (b:List En):w'r none b b.length=b:=y'g
theorem Zd9 (k:Nat) (b:List En):w'r (some k) b b.length=v'f k b:=by simp[w'r]
mutual
theorem Fz.more {H H':Heap} (hs: ∀x,x∈H→x∈H'): ∀(d' d:D),Fz H d' d→Fz H' d' d
 | .sl full esz rows,d,h=>by
  rcases h with h|⟨h1,h|h|⟨b,o,n,cap,h2,h3,e,k,l,h4,h5⟩⟩
  ·exact .inl h
  ·exact .inr ⟨h1,.inl h⟩
  ·exact .inr ⟨h1,.inr (.inl h)⟩
  ·exact .inr ⟨h1,.inr (.inr ⟨b,o,n,cap,h2,h3,e,k,l,hs _ h4,FzR.more hs esz rows _ h5⟩)⟩
 | .pt row,d,h=>by
  rcases h with h|⟨b,o,e,k,l,h1,h2,h3⟩
  ·exact .inl h
  ·exact .inr ⟨b,o,e,k,l,h1,hs _ h2,FzC.more hs row _ h3⟩
 | .agg l',d,h=>by
  obtain⟨l,h1,h2⟩:=h
  exact⟨l,h1,FzL.more hs l' l h2⟩
 | .tup l',d,h=>by
  obtain⟨l,h1,h2⟩:=h
  exact⟨l,h1,FzL.more hs l' l h2⟩
 | .ifc t x',d,h=>by
  obtain⟨x,h1,h2⟩:=h
  exact⟨x,h1,Fz.more hs x' x h2⟩
 | .is _,d,h=>h
 | .gs _ _,d,h=>h
 | .os _ _ _ _,d,h=>h
 | .any,d,h=>h
theorem FzL.more {H H':Heap} (hs: ∀x,x∈H→x∈H'): ∀(l' l:List D),FzL H l' l→FzL H' l' l
 |[],l,h=>h
 |d'::ds',l,h=>by
  obtain⟨d,ds,h1,h2,h3⟩:=h
  exact⟨d,ds,h1,Fz.more hs d' d h2,FzL.more hs ds' ds h3⟩
theorem FzC.more {H H':Heap} (hs: ∀x,x∈H→x∈H'): ∀(l' l:List D),FzC H l' l→FzC H' l' l
 |[],l,h=>trivial
 |d'::ds',l,h=>by
  obtain⟨d,ds,h1,h2,h3⟩:=h
  exact⟨d,ds,h1,Fz.more hs d' d h2,FzC.more hs ds' ds h3⟩
theorem FzR.more {H H':Heap} (hs: ∀x,x∈H→x∈H') (esz:Nat): ∀(rows:List (List D)) (l:List D),FzR H esz rows l→FzR H' esz rows l
 |[],l,h=>trivial
 |r::rs,l,h=>⟨h.1,FzC.more hs r l h.2.1,FzR.more hs esz rs _ h.2.2⟩
end
theorem Znw (b:List En) (hb:b.length≤100000) (m loc:Int):Pure Tryz.prog 210 [buf b,iD m,iD loc] (ZvJ (x'R m loc b)):=by
 refine Fun.fz ?_
 have hw0:IntKind.i64.wrap ((b.length:Int)-1)=(b.length:Int)-1:=by rw[w64 (by omega)]
 refine Fun.of T [.tmp 6,.cell 7 201,.tmp 8] Tryz.func210 rfl Tryz.ntmps210 Tryz.results210 rfl (by kernel_rfl) ?_
 repeat' first|refine mq1 (z'X @z'R @hw0) ?_|refine mqn fun bq hbq=>?_|fail
 refine VC.loop {k:Nat//k≤b.length} (fun p=>⟨z'T [(0,buf b),(1,iD m),(2,iD loc),(7,.is (.pointer (some ⟨bq,0,none⟩))),(9,iD (x'Z (atK m loc b p.1))),(10,iD ((p.1:Nat)-1:Int))],[(bq,.cells 201 2 [iD 0,iD 0])]⟩) (fun p=>p.1) ⟨b.length,by omega⟩ ?_ ?_
 ·refine Weak.sub ?_
  simp[sub,upd,Zsm,x'Z]
 ·rintro⟨k,hk⟩
  dsimp only
  rcases k with _|k
  ·have hd:decide (((0:Nat):Int)-1≥0)=false:=by decide
   have hnx:=ZsR (m:=m) (loc:=loc) b
   by_cases h2:m=2
   ·have h2':(m == 2)=true:=by simpa using h2
    have h2n:(m != 2)=false:=by simp[h2]
    by_cases hp:x'Z (atK m loc b 0)>0
    ·have hp':decide (x'Z (atK m loc b 0)>0)=true:=by simpa using hp
     have hat:x'Z (z'2 m loc b)= -1:=by rw[hnx,if_pos (.inl ⟨h2,hp⟩)];rfl
     repeat' first|refine mq1 (x'i @hd @h2' @hp') ?_|refine gu rfl rfl ?_|fail
     refine VC.loop {q:Nat×Option (Nat×Nat)//q.1≤b.length} (fun q=>⟨z'T [(0,buf b),(7,.is (.pointer (some ⟨bq,0,none⟩))),(9,iD (x'Z (z'2 m loc b))),(11,.gs q.1.2 (w'r (z'2 m loc b) b q.1.1).length),(12,iD (q.1.1:Nat))],(bq,.cells 201 2 [iD 0,iD 0])::shp q.1.2 201 2 (eRs (w'r (z'2 m loc b) b q.1.1)).flatten []⟩) (fun q=>b.length-q.1.1) ⟨(0,none),by simp⟩ ?_ ?_
     ·refine Weak.sub ?_
      simp[sub,upd,hat,Zkv]
     ·rintro⟨⟨i,g⟩,hi⟩
      dsimp only at hi⊢
      have hol:=Zfz (z'2 m loc b) b i
      have hfl:(eRs (w'r (z'2 m loc b) b i)).flatten.length=(w'r (z'2 m loc b) b i).length*2:=Zck _
      rcases z'i i b.length with hlt|hge
      ·have hdi:decide ((i:Int)<(b.length:Int))=true:=by simp;omega
       have hwi:IntKind.i64.wrap ((i:Int)+1)=((i+1:Nat):Int):=by rw[w64 (by omega)];omega
       obtain⟨y,hy⟩: ∃y,b[i]?=some y:=⟨_,z'c hlt⟩
       have hry:(eRs b)[i]?=some [iD y.1,iD y.2]:=by rw[v'Q,hy];rfl
       have hs:=Zea (a:=z'2 m loc b) hy
       have hidx:=Zik (z'2 m loc b) i
       by_cases hc:z'2 m loc b=some i
       ·rw[decide_eq_true hc]at hs hidx
        simp only[z'I]at hs
        have hne:((i:Int) != x'Z (z'2 m loc b))=false:=by rw[bne_eq_false_iff_eq];exact(eq_of_beq hidx).symm
        repeat' first|refine mq1 (x'f @hdi @hwi @hne @z'R) ?_|fail
        refine⟨⟨(i+1,g),by simp only[];omega⟩,z'Q ?_ ?_,by simp only[];omega⟩
        ·simp only[]
         rw[hs]
        ·simp[sub,upd,hs]
       ·rw[decide_eq_false hc]at hs hidx
        have hne:((i:Int) != x'Z (z'2 m loc b))=true:=by rw[bne_iff_ne];exact fun h=>by rw[←h,beq_self_eq_true]at hidx;cases hidx
        repeat' first|refine mq1 (y'Z @hdi @hwi @hry @hne @z'R) ?_|refine .wk ?_ ?_;focus(try omega)|refine vs T rfl fun K hK=>?_;(try simp (disch:=omega) only[go_sem,Nat.reduceBEq,Nat.reduceAdd,Nat.reduceMul,Nat.reduceLeDiff,hdi,hwi,hry,hne,z'R]);(first|refine⟨_,_,_,_,(by repeat (first|exact Sp.here|apply Sp.cons)),?_,(by exact⟨rfl,rfl⟩),?_,fun g' hg'=>hK _ _ ?_⟩<;>clear hK K)|fail
        ·exact hfl
        ·omega
        ·refine⟨⟨(i+1,g'),by simp only[];omega⟩,z'Q ?_ ?_,by simp only[];omega⟩
         ·simp only[]
          rw[hs,w'7,x'k]
          rfl
         ·simp[sub,upd,hs]
      ·have hdi:decide ((i:Int)<(b.length:Int))=false:=by simp;omega
       obtain rfl:i=b.length:=by omega
       have htk:b.take b.length=b:=y'g
       refine ZaD (t:=11) (g:=g) rfl fun hg=>?_
       have hcase:z'2 m loc b=none∨ ∃j,z'2 m loc b=some j:=by cases z'2 m loc b<;>simp
       rcases hcase with hnx|⟨j,hnx⟩
       ·
        have hneg:decide (x'Z (z'2 m loc b)<0)=true:=by rw[hnx];rfl
        have hO:w'r (z'2 m loc b) b b.length=b:=by rw[hnx];exact Zd8 b
        rw[hO]at hg
        repeat' first|refine mq1 (x'f @hdi @hneg @hO @z'R) ?_|fail
        refine ZbQ T rfl hget_eq rfl rfl rfl (z'v _) ?_
        have hp:x'R m loc b=(b,(0,0),false):=by simp[x'R,hnx]
        rw[hp]
        exact⟨_,rfl,z'u (Fz.more (H:=shp g 201 2 (eRs b).flatten []) (fun x hx=>z'd _ hx) _ _ (ZaB hg (z'R _) (ZaJ _))) (FzL.refl _ _)⟩
       ·
        have hjl:=ZdL hnx
        obtain⟨z,hz⟩: ∃z,b[j]?=some z:=⟨_,z'c hjl⟩
        have hrz:(eRs b)[j]?=some [iD z.1,iD z.2]:=by rw[v'Q,hz];rfl
        have hij:x'Z (z'2 m loc b)=(j:Int):=by rw[hnx];rfl
        have hneg:decide ((j:Int)<0)=false:=by rw[decide_eq_false_iff_not];omega
        have hO:w'r (z'2 m loc b) b b.length=v'f j b:=by rw[hnx];exact Zd9 j b
        rw[hO]at hg
        repeat' first|refine dr (id:=17) T 6 (by kernel_rfl) ?_|(apply VCg.step T rfl rfl);focus((try simp (disch:=omega) only[go_sem,Nat.reduceBEq,Nat.reduceAdd,Nat.reduceLeDiff,hrz,z'R]);(first|exact rfl|refine⟨?_,rfl⟩;try omega))|refine mq1 (y'Z @hdi @hij @hneg @hO @z'R) ?_|fail
        refine ZbQ T rfl hget_eq rfl rfl rfl (z'v _) ?_
        have hp:x'R m loc b=(v'f j b,z,true):=by simp[x'R,hnx,hz]
        rw[hp]
        exact⟨_,rfl,z'u (Fz.more (H:=shp g 201 2 (eRs (v'f j b)).flatten []) (fun x hx=>z'd _ hx) _ _ (ZaB hg (z'R _) (ZaJ _))) (FzL.refl _ _)⟩
    ·have hp':decide (x'Z (atK m loc b 0)>0)=false:=by simpa using hp
     have hat:x'Z (z'2 m loc b)=x'Z (atK m loc b 0):=by rw[hnx,if_neg (by rintro(⟨_,h⟩|⟨h,_⟩);exact hp h;exact h h2)]
     repeat' first|refine mq1 (x'f @hd @h2' @h2n @hp') ?_|fail
     refine VC.loop {q:Nat×Option (Nat×Nat)//q.1≤b.length} (fun q=>⟨z'T [(0,buf b),(7,.is (.pointer (some ⟨bq,0,none⟩))),(9,iD (x'Z (z'2 m loc b))),(11,.gs q.1.2 (w'r (z'2 m loc b) b q.1.1).length),(12,iD (q.1.1:Nat))],(bq,.cells 201 2 [iD 0,iD 0])::shp q.1.2 201 2 (eRs (w'r (z'2 m loc b) b q.1.1)).flatten []⟩) (fun q=>b.length-q.1.1) ⟨(0,none),by simp⟩ ?_ ?_
     ·refine Weak.sub ?_
      simp[sub,upd,hat,Zkv]
     ·rintro⟨⟨i,g⟩,hi⟩
      dsimp only at hi⊢
      have hol:=Zfz (z'2 m loc b) b i
      have hfl:(eRs (w'r (z'2 m loc b) b i)).flatten.length=(w'r (z'2 m loc b) b i).length*2:=Zck _
      rcases z'i i b.length with hlt|hge
      ·have hdi:decide ((i:Int)<(b.length:Int))=true:=by simp;omega
       have hwi:IntKind.i64.wrap ((i:Int)+1)=((i+1:Nat):Int):=by rw[w64 (by omega)];omega
       obtain⟨y,hy⟩: ∃y,b[i]?=some y:=⟨_,z'c hlt⟩
       have hry:(eRs b)[i]?=some [iD y.1,iD y.2]:=by rw[v'Q,hy];rfl
       have hs:=Zea (a:=z'2 m loc b) hy
       have hidx:=Zik (z'2 m loc b) i
       by_cases hc:z'2 m loc b=some i
       ·rw[decide_eq_true hc]at hs hidx
        simp only[z'I]at hs
        have hne:((i:Int) != x'Z (z'2 m loc b))=false:=by rw[bne_eq_false_iff_eq];exact(eq_of_beq hidx).symm
        repeat' first|refine mq1 (x'f @hdi @hwi @hne @z'R) ?_|fail
        refine⟨⟨(i+1,g),by simp only[];omega⟩,z'Q ?_ ?_,by simp only[];omega⟩
        ·simp only[]
         rw[hs]
        ·simp[sub,upd,hs]
       ·rw[decide_eq_false hc]at hs hidx
        have hne:((i:Int) != x'Z (z'2 m loc b))=true:=by rw[bne_iff_ne];exact fun h=>by rw[←h,beq_self_eq_true]at hidx;cases hidx
        repeat' first|refine mq1 (y'Z @hdi @hwi @hry @hne @z'R) ?_|refine .wk ?_ ?_;focus(try omega)|refine vs T rfl fun K hK=>?_;(try simp (disch:=omega) only[go_sem,Nat.reduceBEq,Nat.reduceAdd,Nat.reduceMul,Nat.reduceLeDiff,hdi,hwi,hry,hne,z'R]);(first|refine⟨_,_,_,_,(by repeat (first|exact Sp.here|apply Sp.cons)),?_,(by exact⟨rfl,rfl⟩),?_,fun g' hg'=>hK _ _ ?_⟩<;>clear hK K)|fail
        ·exact hfl
        ·omega
        ·refine⟨⟨(i+1,g'),by simp only[];omega⟩,z'Q ?_ ?_,by simp only[];omega⟩
         ·simp only[]
          rw[hs,w'7,x'k]
          rfl
         ·simp[sub,upd,hs]
      ·have hdi:decide ((i:Int)<(b.length:Int))=false:=by simp;omega
       obtain rfl:i=b.length:=by omega
       have htk:b.take b.length=b:=y'g
       refine ZaD (t:=11) (g:=g) rfl fun hg=>?_
       have hcase:z'2 m loc b=none∨ ∃j,z'2 m loc b=some j:=by cases z'2 m loc b<;>simp
       rcases hcase with hnx|⟨j,hnx⟩
       ·
        have hneg:decide (x'Z (z'2 m loc b)<0)=true:=by rw[hnx];rfl
        have hO:w'r (z'2 m loc b) b b.length=b:=by rw[hnx];exact Zd8 b
        rw[hO]at hg
        repeat' first|refine mq1 (x'f @hdi @hneg @hO @z'R) ?_|fail
        refine ZbQ T rfl hget_eq rfl rfl rfl (z'v _) ?_
        have hp:x'R m loc b=(b,(0,0),false):=by simp[x'R,hnx]
        rw[hp]
        exact⟨_,rfl,z'u (Fz.more (H:=shp g 201 2 (eRs b).flatten []) (fun x hx=>z'd _ hx) _ _ (ZaB hg (z'R _) (ZaJ _))) (FzL.refl _ _)⟩
       ·
        have hjl:=ZdL hnx
        obtain⟨z,hz⟩: ∃z,b[j]?=some z:=⟨_,z'c hjl⟩
        have hrz:(eRs b)[j]?=some [iD z.1,iD z.2]:=by rw[v'Q,hz];rfl
        have hij:x'Z (z'2 m loc b)=(j:Int):=by rw[hnx];rfl
        have hneg:decide ((j:Int)<0)=false:=by rw[decide_eq_false_iff_not];omega
        have hO:w'r (z'2 m loc b) b b.length=v'f j b:=by rw[hnx];exact Zd9 j b
        rw[hO]at hg
        repeat' first|refine dr (id:=17) T 6 (by kernel_rfl) ?_|(apply VCg.step T rfl rfl);focus((try simp (disch:=omega) only[go_sem,Nat.reduceBEq,Nat.reduceAdd,Nat.reduceLeDiff,hrz,z'R]);(first|exact rfl|refine⟨?_,rfl⟩;try omega))|refine mq1 (y'Z @hdi @hij @hneg @hO @z'R) ?_|fail
        refine ZbQ T rfl hget_eq rfl rfl rfl (z'v _) ?_
        have hp:x'R m loc b=(v'f j b,z,true):=by simp[x'R,hnx,hz]
        rw[hp]
        exact⟨_,rfl,z'u (Fz.more (H:=shp g 201 2 (eRs (v'f j b)).flatten []) (fun x hx=>z'd _ hx) _ _ (ZaB hg (z'R _) (ZaJ _))) (FzL.refl _ _)⟩
   ·have h2':(m == 2)=false:=by simpa using h2
    have h2n:(m != 2)=true:=by simpa using h2
    by_cases h3:m=3
    ·have h3n:(m != 3)=false:=by simp[h3]
     have hat:x'Z (z'2 m loc b)=x'Z (atK m loc b 0):=by rw[hnx,if_neg (by rintro(⟨h,_⟩|⟨_,h⟩);exact h2 h;exact h h3)]
     repeat' first|refine mq1 (x'f @hd @h2' @h2n @h3n) ?_|fail
     refine VC.loop {q:Nat×Option (Nat×Nat)//q.1≤b.length} (fun q=>⟨z'T [(0,buf b),(7,.is (.pointer (some ⟨bq,0,none⟩))),(9,iD (x'Z (z'2 m loc b))),(11,.gs q.1.2 (w'r (z'2 m loc b) b q.1.1).length),(12,iD (q.1.1:Nat))],(bq,.cells 201 2 [iD 0,iD 0])::shp q.1.2 201 2 (eRs (w'r (z'2 m loc b) b q.1.1)).flatten []⟩) (fun q=>b.length-q.1.1) ⟨(0,none),by simp⟩ ?_ ?_
     ·refine Weak.sub ?_
      simp[sub,upd,hat,Zkv]
     ·rintro⟨⟨i,g⟩,hi⟩
      dsimp only at hi⊢
      have hol:=Zfz (z'2 m loc b) b i
      have hfl:(eRs (w'r (z'2 m loc b) b i)).flatten.length=(w'r (z'2 m loc b) b i).length*2:=Zck _
      rcases z'i i b.length with hlt|hge
      ·have hdi:decide ((i:Int)<(b.length:Int))=true:=by simp;omega
       have hwi:IntKind.i64.wrap ((i:Int)+1)=((i+1:Nat):Int):=by rw[w64 (by omega)];omega
       obtain⟨y,hy⟩: ∃y,b[i]?=some y:=⟨_,z'c hlt⟩
       have hry:(eRs b)[i]?=some [iD y.1,iD y.2]:=by rw[v'Q,hy];rfl
       have hs:=Zea (a:=z'2 m loc b) hy
       have hidx:=Zik (z'2 m loc b) i
       by_cases hc:z'2 m loc b=some i
       ·rw[decide_eq_true hc]at hs hidx
        simp only[z'I]at hs
        have hne:((i:Int) != x'Z (z'2 m loc b))=false:=by rw[bne_eq_false_iff_eq];exact(eq_of_beq hidx).symm
        repeat' first|refine mq1 (x'f @hdi @hwi @hne @z'R) ?_|fail
        refine⟨⟨(i+1,g),by simp only[];omega⟩,z'Q ?_ ?_,by simp only[];omega⟩
        ·simp only[]
         rw[hs]
        ·simp[sub,upd,hs]
       ·rw[decide_eq_false hc]at hs hidx
        have hne:((i:Int) != x'Z (z'2 m loc b))=true:=by rw[bne_iff_ne];exact fun h=>by rw[←h,beq_self_eq_true]at hidx;cases hidx
        repeat' first|refine mq1 (y'Z @hdi @hwi @hry @hne @z'R) ?_|refine .wk ?_ ?_;focus(try omega)|refine vs T rfl fun K hK=>?_;(try simp (disch:=omega) only[go_sem,Nat.reduceBEq,Nat.reduceAdd,Nat.reduceMul,Nat.reduceLeDiff,hdi,hwi,hry,hne,z'R]);(first|refine⟨_,_,_,_,(by repeat (first|exact Sp.here|apply Sp.cons)),?_,(by exact⟨rfl,rfl⟩),?_,fun g' hg'=>hK _ _ ?_⟩<;>clear hK K)|fail
        ·exact hfl
        ·omega
        ·refine⟨⟨(i+1,g'),by simp only[];omega⟩,z'Q ?_ ?_,by simp only[];omega⟩
         ·simp only[]
          rw[hs,w'7,x'k]
          rfl
         ·simp[sub,upd,hs]
      ·have hdi:decide ((i:Int)<(b.length:Int))=false:=by simp;omega
       obtain rfl:i=b.length:=by omega
       have htk:b.take b.length=b:=y'g
       refine ZaD (t:=11) (g:=g) rfl fun hg=>?_
       have hcase:z'2 m loc b=none∨ ∃j,z'2 m loc b=some j:=by cases z'2 m loc b<;>simp
       rcases hcase with hnx|⟨j,hnx⟩
       ·
        have hneg:decide (x'Z (z'2 m loc b)<0)=true:=by rw[hnx];rfl
        have hO:w'r (z'2 m loc b) b b.length=b:=by rw[hnx];exact Zd8 b
        rw[hO]at hg
        repeat' first|refine mq1 (x'f @hdi @hneg @hO @z'R) ?_|fail
        refine ZbQ T rfl hget_eq rfl rfl rfl (z'v _) ?_
        have hp:x'R m loc b=(b,(0,0),false):=by simp[x'R,hnx]
        rw[hp]
        exact⟨_,rfl,z'u (Fz.more (H:=shp g 201 2 (eRs b).flatten []) (fun x hx=>z'd _ hx) _ _ (ZaB hg (z'R _) (ZaJ _))) (FzL.refl _ _)⟩
       ·
        have hjl:=ZdL hnx
        obtain⟨z,hz⟩: ∃z,b[j]?=some z:=⟨_,z'c hjl⟩
        have hrz:(eRs b)[j]?=some [iD z.1,iD z.2]:=by rw[v'Q,hz];rfl
        have hij:x'Z (z'2 m loc b)=(j:Int):=by rw[hnx];rfl
        have hneg:decide ((j:Int)<0)=false:=by rw[decide_eq_false_iff_not];omega
        have hO:w'r (z'2 m loc b) b b.length=v'f j b:=by rw[hnx];exact Zd9 j b
        rw[hO]at hg
        repeat' first|refine dr (id:=17) T 6 (by kernel_rfl) ?_|(apply VCg.step T rfl rfl);focus((try simp (disch:=omega) only[go_sem,Nat.reduceBEq,Nat.reduceAdd,Nat.reduceLeDiff,hrz,z'R]);(first|exact rfl|refine⟨?_,rfl⟩;try omega))|refine mq1 (y'Z @hdi @hij @hneg @hO @z'R) ?_|fail
        refine ZbQ T rfl hget_eq rfl rfl rfl (z'v _) ?_
        have hp:x'R m loc b=(v'f j b,z,true):=by simp[x'R,hnx,hz]
        rw[hp]
        exact⟨_,rfl,z'u (Fz.more (H:=shp g 201 2 (eRs (v'f j b)).flatten []) (fun x hx=>z'd _ hx) _ _ (ZaB hg (z'R _) (ZaJ _))) (FzL.refl _ _)⟩
    ·have h3n:(m != 3)=true:=by simpa using h3
     have hat:x'Z (z'2 m loc b)= -1:=by rw[hnx,if_pos (.inr ⟨h2,h3⟩)];rfl
     repeat' first|refine mq1 (x'f @hd @h2' @h2n @h3n) ?_|fail
     refine VC.loop {q:Nat×Option (Nat×Nat)//q.1≤b.length} (fun q=>⟨z'T [(0,buf b),(7,.is (.pointer (some ⟨bq,0,none⟩))),(9,iD (x'Z (z'2 m loc b))),(11,.gs q.1.2 (w'r (z'2 m loc b) b q.1.1).length),(12,iD (q.1.1:Nat))],(bq,.cells 201 2 [iD 0,iD 0])::shp q.1.2 201 2 (eRs (w'r (z'2 m loc b) b q.1.1)).flatten []⟩) (fun q=>b.length-q.1.1) ⟨(0,none),by simp⟩ ?_ ?_
     ·refine Weak.sub ?_
      simp[sub,upd,hat,Zkv]
     ·rintro⟨⟨i,g⟩,hi⟩
      dsimp only at hi⊢
      have hol:=Zfz (z'2 m loc b) b i
      have hfl:(eRs (w'r (z'2 m loc b) b i)).flatten.length=(w'r (z'2 m loc b) b i).length*2:=Zck _
      rcases z'i i b.length with hlt|hge
      ·have hdi:decide ((i:Int)<(b.length:Int))=true:=by simp;omega
       have hwi:IntKind.i64.wrap ((i:Int)+1)=((i+1:Nat):Int):=by rw[w64 (by omega)];omega
       obtain⟨y,hy⟩: ∃y,b[i]?=some y:=⟨_,z'c hlt⟩
       have hry:(eRs b)[i]?=some [iD y.1,iD y.2]:=by rw[v'Q,hy];rfl
       have hs:=Zea (a:=z'2 m loc b) hy
       have hidx:=Zik (z'2 m loc b) i
       by_cases hc:z'2 m loc b=some i
       ·rw[decide_eq_true hc]at hs hidx
        simp only[z'I]at hs
        have hne:((i:Int) != x'Z (z'2 m loc b))=false:=by rw[bne_eq_false_iff_eq];exact(eq_of_beq hidx).symm
        repeat' first|refine mq1 (x'f @hdi @hwi @hne @z'R) ?_|fail
        refine⟨⟨(i+1,g),by simp only[];omega⟩,z'Q ?_ ?_,by simp only[];omega⟩
        ·simp only[]
         rw[hs]
        ·simp[sub,upd,hs]
       ·rw[decide_eq_false hc]at hs hidx
        have hne:((i:Int) != x'Z (z'2 m loc b))=true:=by rw[bne_iff_ne];exact fun h=>by rw[←h,beq_self_eq_true]at hidx;cases hidx
        repeat' first|refine mq1 (y'Z @hdi @hwi @hry @hne @z'R) ?_|refine .wk ?_ ?_;focus(try omega)|refine vs T rfl fun K hK=>?_;(try simp (disch:=omega) only[go_sem,Nat.reduceBEq,Nat.reduceAdd,Nat.reduceMul,Nat.reduceLeDiff,hdi,hwi,hry,hne,z'R]);(first|refine⟨_,_,_,_,(by repeat (first|exact Sp.here|apply Sp.cons)),?_,(by exact⟨rfl,rfl⟩),?_,fun g' hg'=>hK _ _ ?_⟩<;>clear hK K)|fail
        ·exact hfl
        ·omega
        ·refine⟨⟨(i+1,g'),by simp only[];omega⟩,z'Q ?_ ?_,by simp only[];omega⟩
         ·simp only[]
          rw[hs,w'7,x'k]
          rfl
         ·simp[sub,upd,hs]
      ·have hdi:decide ((i:Int)<(b.length:Int))=false:=by simp;omega
       obtain rfl:i=b.length:=by omega
       have htk:b.take b.length=b:=y'g
       refine ZaD (t:=11) (g:=g) rfl fun hg=>?_
       have hcase:z'2 m loc b=none∨ ∃j,z'2 m loc b=some j:=by cases z'2 m loc b<;>simp
       rcases hcase with hnx|⟨j,hnx⟩
       ·
        have hneg:decide (x'Z (z'2 m loc b)<0)=true:=by rw[hnx];rfl
        have hO:w'r (z'2 m loc b) b b.length=b:=by rw[hnx];exact Zd8 b
        rw[hO]at hg
        repeat' first|refine mq1 (x'f @hdi @hneg @hO @z'R) ?_|fail
        refine ZbQ T rfl hget_eq rfl rfl rfl (z'v _) ?_
        have hp:x'R m loc b=(b,(0,0),false):=by simp[x'R,hnx]
        rw[hp]
        exact⟨_,rfl,z'u (Fz.more (H:=shp g 201 2 (eRs b).flatten []) (fun x hx=>z'd _ hx) _ _ (ZaB hg (z'R _) (ZaJ _))) (FzL.refl _ _)⟩
       ·
        have hjl:=ZdL hnx
        obtain⟨z,hz⟩: ∃z,b[j]?=some z:=⟨_,z'c hjl⟩
        have hrz:(eRs b)[j]?=some [iD z.1,iD z.2]:=by rw[v'Q,hz];rfl
        have hij:x'Z (z'2 m loc b)=(j:Int):=by rw[hnx];rfl
        have hneg:decide ((j:Int)<0)=false:=by rw[decide_eq_false_iff_not];omega
        have hO:w'r (z'2 m loc b) b b.length=v'f j b:=by rw[hnx];exact Zd9 j b
        rw[hO]at hg
        repeat' first|refine dr (id:=17) T 6 (by kernel_rfl) ?_|(apply VCg.step T rfl rfl);focus((try simp (disch:=omega) only[go_sem,Nat.reduceBEq,Nat.reduceAdd,Nat.reduceLeDiff,hrz,z'R]);(first|exact rfl|refine⟨?_,rfl⟩;try omega))|refine mq1 (y'Z @hdi @hij @hneg @hO @z'R) ?_|fail
        refine ZbQ T rfl hget_eq rfl rfl rfl (z'v _) ?_
        have hp:x'R m loc b=(v'f j b,z,true):=by simp[x'R,hnx,hz]
        rw[hp]
        exact⟨_,rfl,z'u (Fz.more (H:=shp g 201 2 (eRs (v'f j b)).flatten []) (fun x hx=>z'd _ hx) _ _ (ZaB hg (z'R _) (ZaJ _))) (FzL.refl _ _)⟩
  ·have hd:decide (((k+1:Nat):Int)-1≥0)=true:=by rw[decide_eq_true_eq];omega
   have hi:((k+1:Nat):Int)-1=(k:Int):=by omega
   have hw:IntKind.i64.wrap ((k:Int)-1)=(k:Int)-1:=by rw[w64 (by omega)]
   obtain⟨x,hx⟩: ∃x,b[k]?=some x:=⟨_,z'c (by omega)⟩
   have hrow:(eRs b)[k]?=some [iD x.1,iD x.2]:=by rw[v'Q,hx];rfl
   have hst:=Zqe m loc hx
   rw[hi]at hd⊢
   have nxt: ∀v:Bool,Zav m loc x=v→ ∀E:Nat→D,Vc.sub E [(0,buf b),(1,iD m),(2,iD loc),(7,.is (.pointer (some ⟨bq,0,none⟩))),(9,iD (x'Z (match v with|true=>some k|false=>atK m loc b (k+1)))),(10,iD ((k:Nat)-1:Int))]→
     ∃k':{k:Nat//k≤b.length},Weak ⟨E,[(bq,.cells 201 2 [iD 0,iD 0])]⟩ ⟨z'T [(0,buf b),(1,iD m),(2,iD loc),(7,.is (.pointer (some ⟨bq,0,none⟩))),(9,iD (x'Z (atK m loc b k'.1))),(10,iD ((k'.1:Nat)-1:Int))],[(bq,.cells 201 2 [iD 0,iD 0])]⟩∧k'.1<k+1:=by
    intro v hv E hE
    rw[hv]at hst
    exact⟨⟨k,by omega⟩,Weak.sub (by rw[hst];exact hE),by simp only[];omega⟩
   by_cases h1:x.1=loc
   ·have h1':(x.1 == loc)=true:=by simpa using h1
    repeat' first|refine mq1 (y'Z @hd @hw @hrow @h1' @z'R) ?_|refine .wk ?_ ?_;focus(try omega)|refine gu rfl rfl ?_|fail
    refine nxt true (by simp[Zav,h1]) _ ?_
    simp[sub,upd,x'Z]
   ·have h1':(x.1 == loc)=false:=by simpa using h1
    by_cases h2:m=2
    ·have h2':(m == 2)=true:=by simpa using h2
     by_cases h0:loc<0
     ·have h0':decide (loc<0)=true:=by simpa using h0
      repeat' first|refine mq1 (v'p @hd @hw @hrow @h1' @h2' @h0' @z'R) ?_|refine .wk ?_ ?_;focus(try omega)|fail
      refine nxt true (by simp[Zav,h2,h0]) _ ?_
      simp[sub,upd,x'Z]
     ·have h0':decide (loc<0)=false:=by simpa using h0
      repeat' first|refine mq1 (v'p @hd @hw @hrow @h1' @h2' @h0' @z'R) ?_|refine .wk ?_ ?_;focus(try omega)|fail
      refine nxt false (by simp[Zav,h1,h0]) _ ?_
      simp[sub,upd]
    ·have h2':(m == 2)=false:=by simpa using h2
     repeat' first|refine mq1 (x'V @hd @hw @hrow @h1' @h2' @z'R) ?_|refine .wk ?_ ?_;focus(try omega)|fail
     refine nxt false (by simp[Zav,h1,h2]) _ ?_
     simp[sub,upd]
end Go.Proofs.YthlkpnjjkgmlkaaGreat
