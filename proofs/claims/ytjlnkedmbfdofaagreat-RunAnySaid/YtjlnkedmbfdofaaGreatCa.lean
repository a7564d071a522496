/- Contracts: a text's hash. No condition. -/
import Derived.Test.YtjlnkedmbfdofaaGreatBg
namespace Go.Proofs.YtjlnkedmbfdofaaGreat
set_option maxHeartbeats 16000000
set_option linter.unusedSimpArgs false
set_option linter.unusedVariables false
set_option maxRecDepth 20000
open Go Go.Proofs Go.Vc
attribute [local irreducible] z'Z VCg VCw VCx
def ZiP (h b:Int):Int:=IntKind.u64.wrap (Zg8 .u64 h b*1099511628211)
def w'e (s:ByteArray) (k:Nat):List Int:=((s.data.toList.drop k).take 8).map (fun c=>(c.toNat:Int))++List.replicate (8-(s.size-k)) 0
theorem Zig (s:ByteArray) (k:Nat):(w'e s k).length=8:=by
 simp[w'e];omega
def Zbp (h:Int) (l:List Int):Int:=l.foldl (fun h b=>ZiP h (IntKind.u64.wrap b)) h
def Zb0 (s:ByteArray):Nat→Int
 |0=>14695981039346656037
 |j+1=>Zbp (Zb0 s j) (w'e s (8*j))
def ZjD (s:ByteArray):Int:=
 let h:=ZiP (Zb0 s ((s.size+7)/8)) (IntKind.u64.wrap (s.size:Nat))
 Zg8 .u64 h (ZiY .u64 h 29)
theorem Zgx: ∃F:ByteArray→Int,F=ZjD:=⟨_,rfl⟩
noncomputable def ZcZ:ByteArray→Int:=Classical.choose Zgx
theorem ZbZ:ZcZ=ZjD:=Classical.choose_spec Zgx
theorem Zhl {h:Int} {l:List Int} {i:Nat} {b:Int} (hb:l[i]?=some b):Zbp h (l.take (i+1))=ZiP (Zbp h (l.take i)) (IntKind.u64.wrap b):=by
 unfold Zbp
 rw[List.take_add_one,hb,Option.toList_some,List.foldl_append]
 rfl
theorem Zhc (s:ByteArray) (k:Nat) (hk:k≤s.size):(w'P (s.extract k s.size)).take (Nat.min (s.extract k s.size).size 8)++(List.replicate 8 (D.is (.int .u8 0))).drop (Nat.min (s.extract k s.size).size 8)=(w'e s k).map fun n=>D.is (.int .u8 n):=by
 have e1:(s.extract k s.size).size=s.size-k:=by simp
 have e2:(s.extract k s.size).data.toList=s.data.toList.drop k:=by
  rw[ByteArray.data_extract,Array.toList_extract,List.extract_eq_take_drop]
  exact z'O (by simp)
 rw[e1]
 unfold w'e w'P
 rw[e2,z'y,List.map_replicate, ←List.map_take]
 congr 1
 ·rw[List.map_map]
  rcases Nat.le_total (s.size-k) 8 with h|h
  ·have:Nat.min (s.size-k) 8=s.size-k:=Nat.min_eq_left h
   rw[this,z'O (by simp),z'O (by simp;omega)]
   rfl
  ·have:Nat.min (s.size-k) 8=8:=Nat.min_eq_right h
   rw[this]
   rfl
 ·rw[List.drop_replicate]
  congr 1
  rcases Nat.le_total (s.size-k) 8 with h|h
  ·have:Nat.min (s.size-k) 8=s.size-k:=Nat.min_eq_left h
   rw[this]
  ·have:Nat.min (s.size-k) 8=8:=Nat.min_eq_right h
   rw[this];omega
theorem ZeO (s:ByteArray) (hs:s.size≤1000000):Pure Tryz.prog 199 [sD s] (.is (.int .u64 (ZcZ s))):=by
 rw[ZbZ]
 refine Fun.of T [.tmp 2] Tryz.func199 rfl Tryz.ntmps199 Tryz.results199 rfl (by kernel_rfl) ?_
 repeat' first|refine vs T rfl fun K hK=>?_;(try simp (disch:=omega) only[go_sem]);(refine hK _ _ ?_;clear hK K)|refine st rfl ?_|refine nl ?_
 refine VC.loop {j:Nat//8*j<s.size+8} (fun j=>⟨x'K [(0,sD s),(3,.is (.int .u64 (Zb0 s j.1))),(4,iD (8*j.1:Nat))],[]⟩) (fun j=>s.size+8-8*j.1) ⟨0,by omega⟩ ?_ ?_
 ·refine Weak.sub ?_
  simp[sub,upd,Zb0]
 rintro⟨j,hj⟩
 dsimp only
 rcases z't (8*j) s.size with hlt|hge
 ·have hd:decide (((8*j:Nat):Int)<(s.size:Int))=true:=by simp;omega
  have hch:(w'P (s.extract (8*j) s.size)).take ((s.extract (8*j) s.size).size.min 8)++[D.is (.int .u8 0),D.is (.int .u8 0),D.is (.int .u8 0),D.is (.int .u8 0),D.is (.int .u8 0),D.is (.int .u8 0),D.is (.int .u8 0),D.is (.int .u8 0)].drop ((s.extract (8*j) s.size).size.min 8)=(w'e s (8*j)).map fun n=>D.is (.int .u8 n):=Zhc s (8*j) (by omega)
  have hcl:=Zig s (8*j)
  have hct:((w'e s (8*j)).map fun n=>D.is (.int .u8 n)).take 8=(w'e s (8*j)).map fun n=>D.is (.int .u8 n):=z'O (by rw[z'f,hcl];exact z'c _)
  repeat' first|refine vt rfl fun K hK=>?_;refine Zmg T rfl rfl rfl rfl v'E rfl (by decide) ?_;refine hK _ _ ?_;clear hK K;(try simp only[updO])|refine VCg.stepS T rfl rfl (ZjR T rfl rfl rfl) ?_|refine dr (id:=6) T 4 (by kernel_rfl) ?_|refine gn ?_|apply VCg.step T rfl rfl;focus((try simp (disch:=omega) only[go_sem,Nat.reduceBEq]);(first|exact rfl|refine⟨?_,rfl⟩;try omega))|refine vs T rfl fun K hK=>?_;(try simp (disch:=omega) only[go_sem,Nat.reduceBEq,Nat.reduceAdd,hd,hch,hct]);(first|refine hK _ _ ?_;clear hK K|intro bq hbq;(try simp only[HB]at hbq);refine hK _ _ ?_;clear hK K|refine⟨?_,hK _ _ ?_⟩<;>clear hK K;focus(try omega))|refine st rfl ?_|refine sc rfl ?_|refine nl ?_
  all_goals try omega
  refine VC.loop {i:Nat//i≤8} (fun i=>⟨x'K [(0,sD s),(3,.is (.int .u64 (Zbp (Zb0 s j) ((w'e s (8*j)).take i.1)))),(4,iD (8*j:Nat)),(19,.agg ((w'e s (8*j)).map fun n=>D.is (.int .u8 n))),(20,iD (i.1:Nat))],[]⟩) (fun i=>8-i.1) ⟨0,by omega⟩ ?_ ?_
  ·refine Weak.subH (z'T _) ?_
   simp[sub,upd,Zbp]
  rintro⟨i,hi⟩
  dsimp only
  rcases z't i 8 with hl8|hg8
  ·have hd8:decide ((i:Int)<8)=true:=by simp;omega
   have hw8:IntKind.i64.wrap ((i:Int)+1)=((i+1:Nat):Int):=by rw[w64 (by omega)];omega
   obtain⟨b,hb⟩: ∃b,(w'e s (8*j))[i]?=some b:=⟨_,z'l (by omega)⟩
   have hbD:((w'e s (8*j)).map fun n=>D.is (.int .u8 n))[((i:Int)).toNat]?=some (D.is (.int .u8 b)):=by rw[z'D,y'c,hb];rfl
   repeat' first|refine vt rfl fun K hK=>?_;refine ZkW T rfl rfl rfl rfl (by omega) hbD ?_;refine hK _ _ ?_;clear hK K;(try simp only[updO])|refine vt rfl fun K hK=>?_;refine Zlz rfl rfl rfl ?_;refine hK _ _ ?_;clear hK K;(try simp only[updO])|refine vs T rfl fun K hK=>?_;(try simp (disch:=omega) only[go_sem,Nat.reduceBEq,hd8,hw8]);(refine hK _ _ ?_;clear hK K)|refine st rfl ?_|refine sc rfl ?_|refine nl ?_
   refine⟨⟨i+1,by omega⟩,Weak.sub ?_,by dsimp only;omega⟩
   have:=Zhl (h:=Zb0 s j) hb
   simp[sub,upd,this,ZiP]
  ·have hd8:decide ((i:Int)<8)=false:=by simp;omega
   obtain rfl:i=8:=by omega
   have hw:IntKind.i64.wrap (((8*j:Nat):Int)+8)=((8*(j+1):Nat):Int):=by rw[w64 (by omega)];omega
   rw[z'O (by omega)]
   repeat' first|refine vs T rfl fun K hK=>?_;(try simp (disch:=omega) only[go_sem,Nat.reduceBEq,hd8,hw]);(refine hK _ _ ?_;clear hK K)|refine st rfl ?_|refine sc rfl ?_|refine nl ?_
   refine⟨⟨j+1,by omega⟩,Weak.sub ?_,by dsimp only;omega⟩
   simp[sub,upd,Zb0]
 ·have hd:decide (((8*j:Nat):Int)<(s.size:Int))=false:=by simp;omega
  obtain rfl:j=(s.size+7)/8:=by omega
  repeat' first|refine vt rfl fun K hK=>?_;refine Zlz rfl rfl rfl ?_;refine hK _ _ ?_;clear hK K;(try simp only[updO])|refine vt rfl fun K hK=>?_;refine Zn1 rfl rfl rfl (by decide) ?_;refine hK _ _ ?_;clear hK K;(try simp only[updO])|refine vs T rfl fun K hK=>?_;(try simp (disch:=omega) only[go_sem,Nat.reduceBEq,hd]);(refine hK _ _ ?_;clear hK K)|refine st rfl ?_|refine sc rfl ?_|refine nl ?_|exact x'7 T (z'T _) ⟨rfl,rfl⟩
end Go.Proofs.YtjlnkedmbfdofaaGreat
