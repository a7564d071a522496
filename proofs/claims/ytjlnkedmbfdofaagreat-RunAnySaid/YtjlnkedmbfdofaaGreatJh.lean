/- Contracts: errors.Is, of an error of run. No condition. -/
import Derived.Test.YtjlnkedmbfdofaaGreatJf
namespace Go.Vc
set_option maxHeartbeats 16000000
set_option linter.unusedSimpArgs false
set_option linter.unusedVariables false
open Go
section
variable {P : Program} {op : BinOp} {o : Oper} {E : Operand → D} {H : Heap} {t u t1 t2 : TypeId} {x y : Operand} {r r' : Bool} {K : D → Heap → Prop} {d1 d2 : D} {ms : Array (String × TypeId)}
theorem Zmh (ho:o.op= .binOp op t x y u) (h1:E x= .ifc t1 d1) (h2:E y= .ifc t2 d2) (hne:t1≠t2) (hi:P.underlying t=some (.interface ms)) (hr:x'g op false=some r') (hk:K (.is (.bool r')) H):Op1 P o E H K:=
 ZcF ho hr (fun w L vx vy a b=>by
  rw[h1]at a;rw[h2]at b
  obtain⟨v,rfl,_⟩:=a
  obtain⟨v',rfl,_⟩:=b
  exact⟨z'U trivial,Zje hi hne,.inl ⟨_,_,rfl⟩⟩) hk
theorem w'4 (ho:o.op= .binOp op t x y u) (h1:E x= .ifc t1 d1) (h2:E y= .is .nilIface) (hi:P.underlying t=some (.interface ms)) (hr:x'g op false=some r') (hk:K (.is (.bool r')) H):Op1 P o E H K:=
 ZcF ho hr (fun w L vx vy a b=>by
  rw[h1]at a;rw[h2]at b
  obtain⟨v,rfl,_⟩:=a
  have b:vy= .nilIface:=b
  subst b
  exact⟨z'U trivial,Zlg hi,.inl ⟨_,_,rfl⟩⟩) hk
theorem ZhS {v:Value} (ho:o.op= .binOp op t x (.const v) u) (h1:E x= .is .nilIface) (h2:E (.const v)= .is .nilIface) (hi:P.underlying t=some (.interface ms)) (hr:x'g op true=some r') (hk:K (.is (.bool r')) H):Op1 P o E H K:=
 ZcF ho hr (fun w L vx vy a b=>by
  rw[h1]at a;rw[h2]at b
  have a:vx= .nilIface:=a
  have b:vy= .nilIface:=b
  subst a;subst b
  refine⟨?_,Zjf hi,.inr rfl⟩
  unfold eqGuard
  refine Zc7 (by cases op<;>simp_all[x'g]) ?_
  simp) hk
theorem ZgO {k k0:IntKind} {m n:Int} {i:TypeInfo} (ho:o.op= .binOp op t x y u) (h1:E x= .ifc t1 (.is (.int k m))) (h2:E y= .ifc t1 (.is (.int k n))) (hi:P.underlying t=some (.interface ms)) (ht:P.underlying t1=some (.int k0)) (hinfo:P.info? t1=some i) (hc:i.comparable=true) (hr:x'g op (decide (m=n))=some r') (hk:K (.is (.bool r')) H):Op1 P o E H K:=
 ZcF ho hr (fun w L vx vy a b=>by
  rw[h1]at a;rw[h2]at b
  obtain⟨v,rfl,a⟩:=a
  obtain⟨v',rfl,b⟩:=b
  have a:v= .int k m:=a
  have b:v'= .int k n:=b
  subst a;subst b
  exact⟨z'U trivial,Zhs hi ht hinfo hc,.inl ⟨_,_,rfl⟩⟩) hk
theorem Znf {nm:String} {ts:Array TypeId} {f b:Nat} {fr:Bool} {dv:D} {hv:Heap} (ho:o.op= .call ⟨.invoke x nm, #[],ts⟩) (hE:E x= .ifc u (.is (.pointer (some ⟨b,0,none⟩))))
  (hr: ∀(a:Addr) (w:World),(callMethod (.iface u (.pointer (some a))) nm #[]).run P w= .ok (.enter f #[.pointer (some a)]) w) (h:Fun P f [.is (.pointer (some ⟨b,0,none⟩))] H fr (fun d H'=>d=dv∧H'=hv)) (hk:K dv hv):Op1 P o E H K:=
 ZjU (Hr:=[]) ho hE hr h (by rw[z'x]) (fun d H' h=>by obtain⟨rfl,rfl⟩:=h;rw[z'x];exact hk)
end
end Go.Vc
namespace Go.Proofs.YtjlnkedmbfdofaaGreat
set_option maxHeartbeats 16000000
set_option linter.unusedSimpArgs false
set_option linter.unusedVariables false
set_option maxRecDepth 20000
open Go Go.Proofs Go.Vc
attribute [local irreducible] z'Z VCg VCw VCx
theorem ZnR: ∃i,Tryz.prog.info? 47=some i∧i.comparable=true:=by
 have h:(Tryz.prog.info? 47).map (·.comparable)=some true:=by kernel_rfl
 obtain⟨i,h1,h2⟩:=Option.map_eq_some_iff.1 h
 exact⟨i,h1,h2⟩
theorem ifq {p:Prop} [Decidable p] {b:Bool} (h:decide p=b):x'g .eql (decide p)=some b:=by rw[h];rfl
theorem Zjg (b:Nat) (s:ByteArray) (n a:Int):Fun Tryz.prog 25 [.ifc 87 (ptE b),.ifc 47 (iD 18),bD true] (y'9 b s n a) false (fun d H'=>d=bD (decide (n=18))∧H'=y'9 b s n a):=by
 obtain⟨i47,hi1,hi2⟩:=ZnR
 refine Fun.of T [.tmp 6] Tryz.func25 rfl Tryz.ntmps25 Tryz.results25 rfl (by kernel_rfl) ?_
 repeat' first|refine vs T rfl fun K hK=>?_;(try simp (disch:=omega) only[go_sem,Nat.reduceAdd]);(refine hK _ _ ?_;clear hK K)|refine st rfl ?_|refine nl ?_
 have cu:=Znu b s n a
 have hE:=Tryz.underlying42
 have hN:=Tryz.underlying47
 refine VC.loop Bool (fun q=>⟨x'K [(0,bif q then .ifc 47 (iD n)else .ifc 87 (ptE b)),(1,.ifc 47 (iD 18)),(2,bD true)],y'9 b s n a⟩) (fun q=>bif q then 0 else 1) false ?_ ?_
 ·refine x'4 rfl ?_
  simp[sub,upd]
 rintro(_|_)
 ·dsimp only[cond_false]
  repeat' first|refine vt rfl fun K hK=>?_;refine Zmh rfl rfl rfl (by decide) hE rfl ?_;refine hK _ _ ?_;clear hK K;(try simp only[updO])|refine vt rfl fun K hK=>?_;refine Zej (q:=false) rfl rfl ZnU ?_;refine hK _ _ ?_;clear hK K;(try simp only[updO])|refine vt rfl fun K hK=>?_;refine Zej (q:=true) rfl rfl ZmQ ?_;refine hK _ _ ?_;clear hK K;(try simp only[updO])|refine vt rfl fun K hK=>?_;refine Znf rfl rfl Zif cu ?_;refine hK _ _ ?_;clear hK K;(try simp only[updO])|refine vt rfl fun K hK=>?_;refine w'4 rfl rfl rfl hE rfl ?_;refine hK _ _ ?_;clear hK K;(try simp only[updO])|refine vs T rfl fun K hK=>?_;(try simp (disch:=omega) only[go_sem,Nat.reduceBEq]);(refine hK _ _ ?_;clear hK K)|refine st rfl ?_|refine sc rfl ?_|refine nl ?_|refine gs rfl rfl ?_
  change ∃k':Bool,_
  refine⟨true,x'4 rfl ?_,by decide⟩
  simp[sub,upd]
 ·dsimp only[cond_true]
  cases hq:decide (n=18)
  ·repeat' first|refine vt rfl fun K hK=>?_;refine ZgO rfl rfl rfl hE hN hi1 hi2 (ifq hq) ?_;refine hK _ _ ?_;clear hK K;(try simp only[updO])|refine vt rfl fun K hK=>?_;refine Zej (q:=false) rfl rfl ZnV ?_;refine hK _ _ ?_;clear hK K;(try simp only[updO])|refine vt rfl fun K hK=>?_;refine Zej (q:=false) rfl rfl ZnW ?_;refine hK _ _ ?_;clear hK K;(try simp only[updO])|refine vt rfl fun K hK=>?_;refine Zej (q:=false) rfl rfl Zm5 ?_;refine hK _ _ ?_;clear hK K;(try simp only[updO])|refine vs T rfl fun K hK=>?_;(try simp (disch:=omega) only[go_sem,Nat.reduceBEq]);(refine hK _ _ ?_;clear hK K)|refine st rfl ?_|refine sc rfl ?_|refine nl ?_|refine gs rfl rfl ?_
   refine x'7 T (z'V _) ?_
   exact⟨rfl,rfl⟩
  ·repeat' first|refine vt rfl fun K hK=>?_;refine ZgO rfl rfl rfl hE hN hi1 hi2 (ifq hq) ?_;refine hK _ _ ?_;clear hK K;(try simp only[updO])|refine vs T rfl fun K hK=>?_;(try simp (disch:=omega) only[go_sem,Nat.reduceBEq]);(refine hK _ _ ?_;clear hK K)|refine st rfl ?_|refine sc rfl ?_|refine nl ?_|refine gs rfl rfl ?_
   refine x'7 T (z'V _) ?_
   exact⟨rfl,rfl⟩
theorem Zoq (w:World) (L:Nat→Prop):Rel w L (.ifc 137 (.agg [.is (typeHandle Tryz.prog 47)])) (.iface 137 (.agg #[typeHandle Tryz.prog 47])):=
 ⟨_,rfl,by rw[y'b,Zl7];rfl,_,rfl,_,_,rfl,rfl,rfl⟩
theorem Zor (w:World) (L:Nat→Prop) (v:Value) (h:Rel w L (.ifc 137 (.agg [.is (typeHandle Tryz.prog 47)])) v):v= .iface 137 (.agg #[typeHandle Tryz.prog 47]):=by
 obtain⟨x,rfl,_,cs,rfl,v1,r1,h1,h2,h3⟩:=h
 have h2:v1=typeHandle Tryz.prog 47:=h2
 have h3:r1=[]:=h3
 subst h2;subst h3
 have:cs= #[typeHandle Tryz.prog 47]:=by rw[←Array.toList_inj];exact h1
 rw[this]
theorem Ze4 (b:Nat) (s:ByteArray) (n a:Int):Fun Tryz.prog 12 [.ifc 87 (ptE b),.ifc 47 (iD 18)] (y'9 b s n a) false (fun d H'=>d=bD (decide (n=18))∧H'=y'9 b s n a):=by
 have hE:=Tryz.underlying42
 have c1:=Zjg b s n a
 refine Fun.of T [.tmp 4] Tryz.func12 rfl Tryz.ntmps12 Tryz.results12 rfl (by kernel_rfl) ?_
 repeat' first|refine vt rfl fun K hK=>?_;refine w'4 rfl rfl rfl hE rfl ?_;refine hK _ _ ?_;clear hK K;(try simp only[updO])|refine vt rfl fun K hK=>?_;refine Znd rfl rfl rfl Zie Zoq ?_;refine hK _ _ ?_;clear hK K;(try simp only[updO])|refine vt rfl fun K hK=>?_;refine Zne (dr:=bD true) rfl rfl Zor Zeq (fun _ _=>rfl) ?_;refine hK _ _ ?_;clear hK K;(try simp only[updO])|refine vs T rfl fun K hK=>?_;(try simp (disch:=omega) only[go_sem,Nat.reduceBEq]);(first|refine hK _ _ ?_;clear hK K|skip)|refine st rfl ?_|refine sc rfl ?_|refine nl ?_|refine gs rfl rfl ?_
 refine Op1.callG (caps:= #[]) (Hr:=[]) rfl rfl rfl c1 (by rw[z'x]) (fun d H' h=>?_)
 obtain⟨rfl,rfl⟩:=h
 rw[z'x]
 refine hK _ _ ?_
 clear hK K
 repeat' first|refine vs T rfl fun K hK=>?_;(try simp (disch:=omega) only[go_sem,Nat.reduceBEq]);(refine hK _ _ ?_;clear hK K)|refine st rfl ?_|refine nl ?_
 refine x'7 T (z'V _) ?_
 exact⟨rfl,rfl⟩
end Go.Proofs.YtjlnkedmbfdofaaGreat
