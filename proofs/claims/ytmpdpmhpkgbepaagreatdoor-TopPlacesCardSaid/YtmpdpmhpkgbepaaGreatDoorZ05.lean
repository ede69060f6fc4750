/- Parts for TopPlaces. Conditions: as stated. -/
import Derived.Deep.Cut
import Derived.Deep.DeepCutAuto
import Derived.Test.YtmpdpmhpkgbepaaGreatDoorZ02
set_option linter.unusedVariables false
set_option maxRecDepth 100000
set_option maxHeartbeats 4000000
open Go.Value renaming int->zd,pointer->ze,slice->zf,agg->zg,bool->zh,tuple->zi,ownBlock->zX
open Go.IntKind renaming i64->zj
open Go.Ending renaming returned->zm
open Go.Obj renaming cells->zn
open Option renaming some->zo,none->zp
open Bool renaming true->zq,false->zt
open Go renaming World->zu,Calls->zw,Value->zz
open List renaming getElem?_set_ne->zC,getElem?_append_left->zF,getD_eq_getElem?_getD->zH,getElem?_set_self->zT
open Go.World renaming cell?->zN,frozen?->zY
open Go.RowKit.Below renaming heap_setCell->zR,refl->zU,heap_alloc->zZ
open Go.Proofs.Tryz
namespace Go.Proofs.YtmpdpmhpkgbepaaGreatDoor
open Go Go.RowKit Go.ChangeShapes Go.WideShapes
variable {w:zu}{p:Nat}{v:zz}
theorem Uo:(prog.info? 211).map (fun i=>(i.zero,i.size,i.bytes))=zo (zo (zg #[zd zj 0,zd zj 0,zd zj 0,zd zj 0,zh zt,zd zj 0]),6,48):=by kernel_rfl
theorem Ge(x:SZ)(w:zu)(base p:Nat)(v:zz)(room B:Int)(l:List Pl)(h:yF w base p v room B (-1) l)(hl:l.length<4096)(hm: -1000000<=B/\B<=4096)(hr:B<room)(m:base<=w.heap.size):
 zw prog 68 #[ze (zo ⟨p,0,zp⟩),zg (yU x)] w fun e w'=>e=zm (zi #[zg #[zd zj (l.length:Nat),zd zj 0],zd zj 0])/\
  ∃g T,yF w' base p (zf (zo ⟨g,0,zp⟩) (l.length+1) T) room (B+1) (-1) (l++ [⟨x,0,zq,-1⟩])/\OB base p w w':=by
 obtain⟨i0,hi,k6,kl,kg⟩:=info_parts Uo;have hp:=h.lt;obtain⟨c0,c1,c2,c3⟩:=h.cell;have ka:=h.free 1;have h9:=h.free 3;have ks:(B == room)=zt:=beq_eq_false_iff_ne.2 (by omega);obtain⟨a,T,C⟩:∃a T,v=zf a l.length T:=by
  rcases h.row with⟨rfl,rfl⟩|⟨g,T,rfl,_⟩
  .exact⟨_,_,rfl⟩
  .exact⟨_,_,rfl⟩
 subst C;have Z:=yw h;clear h;go_enter func68,ntmps68;go_wp2;go_quiet (fail);have X:=yw ((((((Z.out.alloc (zn (yU x) 130)).alloc (zn #[zd zj 0,zd zj 0] 78)).drewN nq).bK (B+1)).alloc (zn #[zd zj 0,zd zj 0,zd zj 0,zd zj 0,zh zt,zd zj (-1)] 211)))
 go_wp2_with (at_builtin;go_loud (refine Yu _ rfl _ _ 207 rfl base 211 i0 (zg #[zd zj 0,zd zj 0,zd zj 0,zd zj 0,zh zt,zd zj 0]) 6 48 underlying207 hi k6 kl kg rfl (by decide) _ l.length (RP l) rfl ?c0 ⟨w.heap.size+2,0,zp⟩ 1 1 [zd zj 0,zd zj 0,zd zj 0,zd zj 0,zh zt,zd zj (-1)] rfl rfl ?c1 ?c2 ?c3 ?c4 ?c5 ?_))
 case c0=>exact X.out.own
 case c1=>
  intro j u hj;have ko:j<6:=by have:=(yy hj).1;simpa using this
  rw[add_plain,<-hj];simp only[zN,Nat.zero_add];have c:(((((w.alloc (zn (yU x) 130)).alloc (zn #[zd zj 0,zd zj 0] 78)).drewN nq).setCell ⟨p,1,zp⟩ (zd zj (B+1)))).heap.size=w.heap.size+2:=by simp
  have:=heap_alloc_new (((((w.alloc (zn (yU x) 130)).alloc (zn #[zd zj 0,zd zj 0] 78)).drewN nq).setCell ⟨p,1,zp⟩ (zd zj (B+1)))) (zn #[zd zj 0,zd zj 0,zd zj 0,zd zj 0,zh zt,zd zj (-1)] 211);rw[c]at this;rw[this];simp
 case c2=>intro u hu;simp at hu;rcases hu with rfl|rfl|rfl<;>rfl
 case c3=>unfold maxLen;omega
 case c4=>omega
 case c5=>simp;omega
 intro v' w1 R A Hy;have d:v'.ownBlock≠zo p:=Fz X.out.ne A R X.out.RO (by intro cs z;simp);have h6:=yw (X.out.grow ⟨.zero,0,zt,-1⟩ A R d);have Y:=A.block p X.out.lt (fun e=>X.out.ne e.symm);rw[X.out.RO]at Y;have W:=A.block (w.heap.size+1) (by simp) (fun e=>by have:=(Z.out.own.lt _ e.symm).2;omega);have K:=A.block w.heap.size (by simp;omega) (fun e=>by have:=(Z.out.own.lt _ e.symm).2;omega);have H1:=A.size;rcases R.2 with⟨_,kn⟩|⟨g,H,cur,rfl,V,hh,ki,kd,k5,kk⟩
 .omega
 have kc:g≠p:=by simpa[zX]using d
 have J:w1.heap[w.heap.size+1]?=zo (zn #[zd zj 0,zd zj 0] 78 (0,0)):=by rw[W,zZ _ _ _ (by simp),zR _ _ _ _ (by exact fun e=>by simp at e;omega)];have:=heap_alloc_new (w.alloc (zn (yU x) 130)) (zn #[zd zj 0,zd zj 0] 78);simpa using this
 have I:w1.heap[w.heap.size]?=zo (zn (yU x) 130 (0,0)):=by rw[K,zZ _ _ _ (by simp;omega),zR _ _ _ _ (by exact fun e=>by simp at e;omega)];show((w.alloc (zn (yU x) 130)).alloc (zn #[zd zj 0,zd zj 0] 78)).heap[w.heap.size]?=_;rw[zZ _ _ _ (by simp)];exact heap_alloc_new w _
 have Hg:g≠w.heap.size+1:=by rintro rfl;rw[hh]at J;simp at J
 have k4:g≠w.heap.size:=by rintro rfl;rw[hh]at I;simp at I
 have d2:w1.cell? ⟨p,2,zp⟩=zo (zf a l.length T):=by simp[zN,Y]
 have k9:w1.frozen? ⟨p,2,zp⟩=zt:=by simp[zY,Y]
 have kh:w.heap.size+3<=w1.heap.size:=by simpa using H1
 have kj:=Hy g rfl;have k8:g<w.heap.size->(zf a l.length T).ownBlock=zo g:=fun b=>kj.resolve_right (by simp;omega);have hf:g<w.heap.size->bL w g/\PK w p g:=fun b=>by
  refine⟨?_,_,Z.out.cell.2.2.1,k8 b⟩;by_cases he:(zf a l.length T).ownBlock=zo g
  .rcases Z.out.own.2 with⟨C,_⟩|⟨g',h5,ht,C,_,hc,_⟩
   .rw[C]at he;simp[zX]at he
   .rw[C]at he;simp[zX]at he;subst he;exact⟨_,_,hc⟩
  .have e:=A.block g (by simp;omega) (fun e=>he e.symm);rw[hh,zZ _ _ _ (by simp;omega),zR _ _ _ _ (by exact fun e=>kc e)]at e;have e2:(((w.alloc (zn (yU x) 130)).alloc (zn #[zd zj 0,zd zj 0] 78)).drewN nq).heap[g]?=w.heap[g]?:=by show((w.alloc (zn (yU x) 130)).alloc (zn #[zd zj 0,zd zj 0] 78)).heap[g]?=_;rw[zZ _ _ _ (by simp;omega),zZ w _ g b]
   rw[e2]at e;exact⟨_,_,e.symm⟩
 have H2:OB base p w w1:=
  ⟨(OA.alloc (OA.setCell (F:=PF p w) ((OA.alloc (OA.alloc (OA.refl _ w) _) _).drewN nq) (.inl (.inl rfl)) _) _).grown A (fun k hk=>by
   by_cases b:k<w.heap.size
   .left;right;refine⟨?_,_,Z.out.cell.2.2.1,hk⟩;rcases Z.out.own.2 with⟨C,_⟩|⟨g',h5,ht,C,_,hc,_⟩
    .rw[C]at hk;simp[zX]at hk
    .rw[C]at hk;simp[zX]at hk;subst hk;exact⟨_,_,hc⟩
   .right;omega),
   Below.grown (Below.alloc (Below.setCell (yH (Below.alloc (Below.alloc (zU _ _) m _) (by simp;omega) _) nq) Z.out.lo _) (by simp;omega) _) A (by simp;omega) (fun k hk=>(Z.out.own.lt k hk).1),
   fun hf z c hr=>⟨_,Z.out.cell.2.2.1,by obtain⟨u,h1,h2⟩:=hr;rw[d2]at h1;cases h1;exact h2⟩⟩
 obtain⟨HG,HO,k0,ha,HR,k2⟩:=Qh A R H2 hf J I;clear A R H2 hf W J K I Y hh Hy d H1 c0 c1 c2 c3 ka h9 k5 kk ki kd V;go_upto_region 8 with(fail)
 clear d2 k9 m;obtain⟨D,N⟩:=yB (w1.setCell ⟨p,2,zp⟩ (zf (zo ⟨g,0,zp⟩) (l.length+1) H))
 rw[<-N];have k3:D.heap.size=w1.heap.size:=by rw[N];simp
 have r:yF D base p (zf (zo ⟨g,0,zp⟩) (l.length+1) H) room (B+1) (-1) (l++ [⟨.zero,0,zt,-1⟩]):=by rw[N];exact h6.out
 have h4:OB base p w D:=by rw[N];exact⟨OA.setCell (F:=PF p w) k0.out.RB (.inl (.inl rfl)) _,k0.out.below.setCell Z.out.lo _,fun hq z c hr=>by have:=(N▸r).rowIs hr;simp[zX]at this;exact this▸(ha.out (by omega)).2⟩
 have E:D.heap[w.heap.size+1]?=zo (zn #[zd zj 0,zd zj 0] 78 (0,0)):=by rw[N,zR _ _ _ _ (by exact fun e=>by simp at e;omega)];exact HR.out
 have M:D.heap[w.heap.size]?=zo (zn (yU x) 130 (0,0)):=by rw[N,zR _ _ _ _ (by exact fun e=>by simp at e;omega)];exact k2.out
 have hw:w.heap.size+3<=D.heap.size:=by omega
 have km:=yw r;have h3:=yw h4;have Q:(l++ [(⟨.zero,0,zt,-1⟩:Pl)])[l.length]?=zo ⟨.zero,0,zt,-1⟩:=by simp
 have ke:=yw Q;have O:=r;rw[show l.length+1=(l++ [(⟨.zero,0,zt,-1⟩:Pl)]).length by simp]at O;have G:∀j,j<6->D.cell? ⟨g,l.length*6+j,zp⟩= [zd zj 0,zd zj 0,zd zj 0,zd zj 0,zh zt,zd zj (-1)][j]?:=by intro j hj;have:=O.place l.length j (by simp) hj;rw[this];simp[Pl.cells,SZ.zero]
 have g0:D.cell? ⟨g,l.length*6,zp⟩=zo (zd zj 0):=G 0 (by omega);have H7:D.cell? ⟨g,l.length*6+1,zp⟩=zo (zd zj 0):=G 1 (by omega);have H6:D.cell? ⟨g,l.length*6+2,zp⟩=zo (zd zj 0):=G 2 (by omega);have g1:D.cell? ⟨g,l.length*6+3,zp⟩=zo (zd zj 0):=G 3 (by omega);have g2:D.cell? ⟨g,l.length*6+4,zp⟩=zo (zh zt):=G 4 (by omega);have g3:D.cell? ⟨g,l.length*6+5,zp⟩=zo (zd zj (-1)):=G 5 (by omega);have H4:=O.OE (l.length*6);have S:=O.OE (l.length*6+1);have P:=O.OE (l.length*6+2);have H5:=O.OE (l.length*6+4);have H8:=O.OE (l.length*6+5);obtain⟨c0,c1,c2,c3⟩:=r.cell
 have h9:=r.free 3;have r0:D.cell? ⟨w.heap.size+1,0,zp⟩=zo (zd zj 0):=by simp[zN,E]
 have r1:D.cell? ⟨w.heap.size+1,1,zp⟩=zo (zd zj 0):=by simp[zN,E]
 have h8:D.frozen? ⟨w.heap.size+1,0,zp⟩=zt:=by simp[zY,E]
 have h7:D.frozen? ⟨w.heap.size+1,1,zp⟩=zt:=by simp[zY,E]
 have x0:D.cell? ⟨w.heap.size,0,zp⟩=zo (zd zj x.ui):=by simp[zN,M]
 have x1:D.cell? ⟨w.heap.size,1,zp⟩=zo (zd zj x.ug):=by simp[zN,M]
 have x2:D.cell? ⟨w.heap.size,2,zp⟩=zo (zd zj x.dp):=by simp[zN,M]
 clear r O h4 E M G Q N k3 kh;obtain⟨z,c⟩:=yB w.heap.size
 obtain⟨y,hy⟩:=yB (w.heap.size+1)
 obtain⟨o,ho⟩:=yB (l.length*6)
 rw[<-hy]at r0 r1 h8 h7 Hg;rw[<-c]at x0 x1 x2 k4;rw[<-ho]at g0 H7 H6 g1 g2 g3 H4 S P H5 H8;obtain⟨HY,HZ,H3⟩:=Qe hy c ho;go_upto_region 9 with(fail)
 rw[<-hy,<-c,<-ho];have kf:p<z:=by omega
 have k7:p<y:=by omega
 have H9:y<D.heap.size:=by omega
 clear hy c ho hw;go_upto_region 10 with(fail)
 go_upto_region 11 with(fail)
 obtain⟨s,U⟩:=yB ((((((D.setCell ⟨p,3,zp⟩ (zd zj (-1))).setCell ⟨g,o,zp⟩ (zd zj x.ui)).setCell ⟨g,o+1,zp⟩ (zd zj x.ug)).setCell ⟨g,o+2,zp⟩ (zd zj x.dp)).setCell ⟨g,o+4,zp⟩ (zh zq)).setCell ⟨g,o+5,zp⟩ (zd zj (-1)))
 rw[<-U];have q:y≠g:=fun e=>Hg e.symm;have r:=km.out;have t:yF s base p (zf (zo ⟨g,0,zp⟩) (l.length+1) H) room (B+1) (-1) (l++ [⟨x,0,zq,-1⟩]):=by
  have h1:=((r.AY (-1)).fB l.length ⟨.zero,0,zt,-1⟩ ⟨x,0,zq,-1⟩ ke.out rfl)
  have e:(l++ [(⟨.zero,0,zt,-1⟩:Pl)]).set l.length ⟨x,0,zq,-1⟩=l++ [⟨x,0,zq,-1⟩]:=by rw[List.set_append_right _ _ (yA _)];simp
  rw[e]at h1;rw[U,H3.out];exact h1
 have r3:∀i:Nat,s.cell? ⟨y,i,zp⟩=D.cell? ⟨y,i,zp⟩/\s.frozen? ⟨y,i,zp⟩=D.frozen? ⟨y,i,zp⟩:=by
  have hb:s.heap[y]?=D.heap[y]?:=by rw[U,zR _ _ _ _ (by exact q),zR _ _ _ _ (by exact q),zR _ _ _ _ (by exact q),zR _ _ _ _ (by exact q),zR _ _ _ _ (by exact q),zR _ _ _ _ (by show y≠p;omega)]
  intro i;constructor<;>simp[zN,zY,hb]
 have L:OB base p w s:=by
  have t1:=h3.out.RB;have b1:=h3.out.below;have hg:PF p w g∨w.heap.size<=g:=by
   by_cases b:g<w.heap.size
   .exact .inl (.inr (ha.out b))
   .exact .inr (by omega)
  have V:=r.OS;have kb:=Z.out.lo;rw[U];exact⟨(((((t1.setCell (.inl (.inl rfl)) _).setCell hg _).setCell hg _).setCell hg _).setCell hg _).setCell hg _,
   (((((b1.setCell kb _).setCell V _).setCell V _).setCell V _).setCell V _).setCell V _,fun hq z c hr=>by
   obtain⟨u,h1,h2⟩:=hr;have e3:u=zf (zo ⟨g,0,zp⟩) (l.length+1) H:=by have:=h1;rw[<-U]at this;rw[t.cell.2.2.1]at this;exact(Option.some.inj this).symm
   subst e3;simp[zX]at h2;subst h2;exact(ha.out c).2⟩
 have e0:=(r3 0).1.trans r0;have e1:=(r3 1).1.trans r1;have kr:=(r3 0).2.trans h8;have kq:=(r3 1).2.trans h7;have k1:s.cell? ⟨g,o+3,zp⟩=zo (zd zj 0):=by have h0:=t;rw[show l.length+1=(l++ [(⟨x,0,zq,-1⟩:Pl)]).length by simp]at h0;have:=h0.place l.length 3 (by simp) (by omega);rw[H3.out,this];simp[Pl.cells]
 have H0:=yw t;have f:=yw L;have kp:y<s.heap.size:=by rw[U];simpa using H9
 clear U r0 r1 h8 h7 g0 H7 H6 g1 g2 g3 H4 S P H5 H8 c0 c1 c2 c3 h9 x0 x1 x2 r3 r t L kf k7 H9;obtain⟨n,hn⟩:=yB l.length
 rw[<-hn];have HN:=yw hn;clear hn;go_wp2;refine bodyPost_ret (v:=zi #[zg #[zd zj (n:Nat),zd zj 0],zd zj 0]) (by simp[results,results68,go_sem,e0,e1]) rfl ⟨by rw[HN.out],g,H,?_⟩;have hx:y≠p:=by have:=HY.out;omega
 have hy:(zf (zo ⟨g,0,zp⟩) (l.length+1) H).ownBlock≠zo y:=by simp[zX];omega
 exact⟨(H0.out.PR hx hy).PR hx hy,⟨(f.out.RB.setCell (.inr (by rw[HY.out];simp)) _).setCell (.inr (by rw[HY.out];simp)) _,(f.out.below.setCell (by have:=Z.out.lo;have:=HY.out;show base<=y;omega) _).setCell (by have:=Z.out.lo;have:=HY.out;show base<=y;omega) _,fun hq z c hr=>f.out.row hq z c ((hr.same (zR _ _ _ _ (by exact fun e=>hx e.symm))).same (zR _ _ _ _ (by exact fun e=>hx e.symm)))⟩⟩
theorem Dr(i g:Int)(k:Nat)(q:Pl)(w:zu)(base p b D n:Nat)(room A B:Int)(l:List Pl)(h:yF w base p (zf (zo ⟨b,0,zp⟩) n D) room A B l)(I:l.length<=4096)(J:Qv l i g k q)
 (H:0<=q.gen/\q.gen<=1000000) (M: -1000000<=A/\A<=4096) (hb:base<=w.heap.size):
 zw prog 125 #[ze (zo ⟨p,0,zp⟩),zg #[zd zj i,zd zj g]] w fun e w'=>e=zm (zi #[zg (yU q.x),zd zj 0])/\yF w' base p (zf (zo ⟨b,0,zp⟩) n D) room (A-1) k (l.set k ⟨.zero,q.gen+1,zt,B⟩)/\OB base p w w':=by
 obtain rfl:=h.len;exact(Gc i g k q w base p b D room A B l h I J H M).mono fun e w' ⟨N,E,G⟩=>⟨N,E,h.step hb G (h.cE E)⟩
theorem Ds(x:SZ)(k:Nat)(q:Pl)(w:zu)(base p b B n:Nat)(room A:Int)(l:List Pl)(h:yF w base p (zf (zo ⟨b,0,zp⟩) n B) room A k l)(H:l.length<=4096)(G:l[k]?=zo q)(J: -1000000<=A/\A<=4096)(I:A<room)(hb:base<=w.heap.size):
 zw prog 68 #[ze (zo ⟨p,0,zp⟩),zg (yU x)] w fun e w'=>e=zm (zi #[zg #[zd zj k,zd zj q.gen],zd zj 0])/\
  yF w' base p (zf (zo ⟨b,0,zp⟩) n B) room (A+1) q.next (l.set k ⟨x,q.gen,zq,-1⟩)/\OB base p w w':=by
 obtain rfl:=h.len;exact(Dq x k q w base p b B room A l h H G J I).mono fun e w' ⟨M,D,E⟩=>⟨M,D,h.step hb E (h.cE D)⟩
theorem CW(i g:Int)(x:SZ)(k:Nat)(q:Pl)(w:zu)(base p b D n:Nat)(room B A:Int)(l:List Pl)(h:yF w base p (zf (zo ⟨b,0,zp⟩) n D) room B A l)(I:l.length<=4096)(J:Qv l i g k q)(hb:base<=w.heap.size):
 zw prog 128 #[ze (zo ⟨p,0,zp⟩),zg #[zd zj i,zd zj g],zg (yU x)] w fun e w'=>e=zm (zd zj 0)/\yF w' base p (zf (zo ⟨b,0,zp⟩) n D) room B A (l.set k ⟨x,q.gen,q.used,q.next⟩)/\OB base p w w':=by
 obtain rfl:=h.len;exact(IK i g x k q w base p b D room B A l h I J).mono fun e w' ⟨M,G,E⟩=>⟨M,G,h.step hb ⟨E.os,E.tape,E.output,E.size,fun j N H=>E.block j N (fun e=>H (.inl e))⟩ (h.cE G)⟩
theorem CX(i g:Int)(k:Nat)(q:Pl)(w:zu)(base p b D n:Nat)(room B A:Int)(l:List Pl)(h:yF w base p (zf (zo ⟨b,0,zp⟩) n D) room B A l)(E:l.length<=4096)(G:Qv l i g k q):
 zw prog 119 #[ze (zo ⟨p,0,zp⟩),zg #[zd zj i,zd zj g]] w fun e w'=>e=zm (zi #[zg (yU q.x),zd zj 0])/\Below w.heap.size w w':=by
 obtain rfl:=h.len;exact IJ i g k q w base p b D room B A l h E G
theorem yF.behind{w':zu}{base:Nat}{room B A:Int}{l:List Pl}(h:yF w base p v room B A l)(hb:Below w.heap.size w w'):yF w' base p v room B A l:=
 h.kept (hb.block p h.lt) (fun g D=>hb.block g (h.own.lt g D).2)
theorem Oe{w':zu}{base B:Nat}{e:TypeId}{A:Nat}{n:Nat}{G:List zz}(h:w.ownsRow base e A v n G)(hs:OB B p w w')(N:e≠211)
 (H:∀cs fr,w.heap[p]?≠zo (zn cs e fr)):w'.ownsRow base e A v n G:=by
 refine⟨h.1,?_⟩;rcases h.2 with J|⟨g,D,cur,M,hb,E,I⟩
 .exact .inl J
 .exact .inr ⟨g,D,cur,M,hb,hs.same E (by rintro rfl;exact H _ _ E) N,I⟩
theorem qo{w':zu}{base:Nat}{e:TypeId}{A:Nat}{n:Nat}{G:List zz}(h:w.ownsRow base e A v n G)(hb:Below w.heap.size w w'):w'.ownsRow base e A v n G:=by
 refine⟨h.1,?_⟩;rcases h.2 with J|⟨g,D,cur,H,B,E,I⟩
 .exact .inl J
 .exact .inr ⟨g,D,cur,H,B,by rw[hb.block g (yx E).1];exact E,I⟩
theorem yF.iD{base:Nat}{room A B:Int}{l:List Pl}(h:yF w base p v room A B l)(e:TypeId)(E:e≠209):∀cs fr,w.heap[p]?≠zo (zn cs e fr):=by intro cs fr D;rw[h.RO]at D;simp only[Option.some.injEq,Obj.cells.injEq]at D;exact E D.2.1.symm
end Go.Proofs.YtmpdpmhpkgbepaaGreatDoor
namespace Go.Proofs.YtmpdpmhpkgbepaaGreatDoor
namespace Pi
open Go Go.RowKit Go.ChangeShapes Go.WideShapes
theorem Uo:(prog.info? 233).map (fun i=>(i.zero,i.size,i.bytes))=zo (zo (zg #[zd zj 0,zd zj 0,zh zt,zd zj 0]),4,32):=by kernel_rfl
theorem Ge(x:Int)(w:zu)(base p:Nat)(v:zz)(room B:Int)(l:List Pl)(h:yF w base p v room B (-1) l)(hl:l.length<4096)(hm: -1000000<=B/\B<=4096)(Q:B<room)(Y:base<=w.heap.size):
 zw prog 87 #[ze (zo ⟨p,0,zp⟩),zd zj x] w fun e w'=>e=zm (zi #[zg #[zd zj (l.length:Nat),zd zj 0],zd zj 0])/\
  ∃g I,yF w' base p (zf (zo ⟨g,0,zp⟩) (l.length+1) I) room (B+1) (-1) (l++ [⟨x,0,zq,-1⟩])/\OB base p w w':=by
 obtain⟨i0,hi,ha,H3,hw⟩:=info_parts Uo;have hp:=h.lt;obtain⟨c0,c1,c2,c3⟩:=h.cell;have hn:=h.free 1;have h0:=h.free 3;have k2:(B == room)=zt:=beq_eq_false_iff_ne.2 (by omega);obtain⟨a,I,f⟩:∃a I,v=zf a l.length I:=by
  rcases h.row with⟨rfl,rfl⟩|⟨g,I,rfl,_⟩
  .exact⟨_,_,rfl⟩
  .exact⟨_,_,rfl⟩
 subst f;have U:=yw h;clear h;go_enter func87,ntmps87;go_wp2;go_quiet (fail);have N:=yw (((((U.out.alloc (zn #[zd zj 0,zd zj 0] 78)).drewN nq).bK (B+1)).alloc (zn #[zd zj 0,zd zj 0,zh zt,zd zj (-1)] 233)));go_wp2_with (at_builtin;go_loud (refine Yu _ rfl _ _ 145 rfl base 233 i0 (zg #[zd zj 0,zd zj 0,zh zt,zd zj 0]) 4 32 underlying145 hi ha H3 hw rfl (by decide) _ l.length (RP l) rfl ?c0 ⟨w.heap.size+1,0,zp⟩ 1 1 [zd zj 0,zd zj 0,zh zt,zd zj (-1)] rfl rfl ?c1 ?c2 ?c3 ?c4 ?c5 ?_))
 case c0=>exact N.out.own
 case c1=>
  intro j u hj;have k1:j<4:=by have:=(yy hj).1;simpa using this
  rw[add_plain,<-hj];simp only[zN,Nat.zero_add];have hz:((((w.alloc (zn #[zd zj 0,zd zj 0] 78)).drewN nq).setCell ⟨p,1,zp⟩ (zd zj (B+1)))).heap.size=w.heap.size+1:=by simp
  have:=heap_alloc_new ((((w.alloc (zn #[zd zj 0,zd zj 0] 78)).drewN nq).setCell ⟨p,1,zp⟩ (zd zj (B+1)))) (zn #[zd zj 0,zd zj 0,zh zt,zd zj (-1)] 233);rw[hz]at this;rw[this];simp
 case c2=>intro u hu;simp at hu;rcases hu with rfl|rfl|rfl<;>rfl
 case c3=>unfold maxLen;omega
 case c4=>omega
 case c5=>simp;omega
 intro v' w1 H A h6;have V:v'.ownBlock≠zo p:=Fz N.out.ne A H N.out.RO (by intro cs z;simp);have L:=yw (N.out.grow ⟨0,0,zt,-1⟩ A H V);have O:=A.block p N.out.lt (fun e=>N.out.ne e.symm);rw[N.out.RO]at O;have n:=A.block w.heap.size (by simp;omega) (fun e=>by have:=(U.out.own.lt _ e.symm).2;omega);have r:=A.size;rcases H.2 with⟨_,H9⟩|⟨g,X,cur,rfl,Z,hh,hy,ht,h9,H1⟩
 .omega
 have hq:g≠p:=by simpa[zX]using V
 have E:w1.heap[w.heap.size]?=zo (zn #[zd zj 0,zd zj 0] 78 (0,0)):=by rw[n,zZ _ _ _ (by simp),zR _ _ _ _ (by exact fun e=>by simp at e;omega)];exact heap_alloc_new w _
 have H5:g≠w.heap.size:=by rintro rfl;rw[hh]at E;simp at E
 have d2:w1.cell? ⟨p,2,zp⟩=zo (zf a l.length I):=by simp[zN,O]
 have hf:w1.frozen? ⟨p,2,zp⟩=zt:=by simp[zY,O]
 have hx:w.heap.size+2<=w1.heap.size:=by simpa using r
 have H0:=h6 g rfl;have hc:g<w.heap.size->(zf a l.length I).ownBlock=zo g:=fun R=>H0.resolve_right (by simp;omega);have y:g<w.heap.size->bL w g/\PK w p g:=fun R=>by
  refine⟨?_,_,U.out.cell.2.2.1,hc R⟩;by_cases P:(zf a l.length I).ownBlock=zo g
  .rcases U.out.own.2 with⟨f,_⟩|⟨g',C,S,f,_,t,_⟩
   .rw[f]at P;simp[zX]at P
   .rw[f]at P;simp[zX]at P;subst P;exact⟨_,_,t⟩
  .have e:=A.block g (by simp;omega) (fun e=>P e.symm);rw[hh,zZ _ _ _ (by simp;omega),zR _ _ _ _ (by exact fun e=>hq e)]at e;have e2:((w.alloc (zn #[zd zj 0,zd zj 0] 78)).drewN nq).heap[g]?=w.heap[g]?:=zZ w _ g R;rw[e2]at e;exact⟨_,_,e.symm⟩
 have W:OB base p w w1:=
  ⟨(OA.alloc (OA.setCell (F:=PF p w) ((OA.alloc (OA.refl _ w) _).drewN nq) (.inl (.inl rfl)) _) _).grown A (fun k hk=>by
   by_cases R:k<w.heap.size
   .left;right;refine⟨?_,_,U.out.cell.2.2.1,hk⟩;rcases U.out.own.2 with⟨f,_⟩|⟨g',C,S,f,_,t,_⟩
    .rw[f]at hk;simp[zX]at hk
    .rw[f]at hk;simp[zX]at hk;subst hk;exact⟨_,_,t⟩
   .right;omega),
   Below.grown (Below.alloc (Below.setCell (yH (Below.alloc (zU _ _) Y _) nq) U.out.lo _) (by simp;omega) _) A (by simp;omega) (fun k hk=>(U.out.own.lt k hk).1),
   fun y z hz Q=>⟨_,U.out.cell.2.2.1,by obtain⟨u,K,h2⟩:=Q;rw[d2]at K;cases K;exact h2⟩⟩
 obtain⟨HG,HO,h7,s,HR⟩:=Qg A H W y E;clear A H W y n E O hh h6 V r c0 c1 c2 c3 hn h0 h9 H1 hy ht Z;go_upto_region 8 with(fail)
 clear d2 hf Y;obtain⟨J,M⟩:=yB (w1.setCell ⟨p,2,zp⟩ (zf (zo ⟨g,0,zp⟩) (l.length+1) X))
 rw[<-M];have h8:J.heap.size=w1.heap.size:=by rw[M];simp
 have d:yF J base p (zf (zo ⟨g,0,zp⟩) (l.length+1) X) room (B+1) (-1) (l++ [⟨0,0,zt,-1⟩]):=by rw[M];exact L.out
 have q:OB base p w J:=by rw[M];exact⟨OA.setCell (F:=PF p w) h7.out.RB (.inl (.inl rfl)) _,h7.out.below.setCell U.out.lo _,fun H2 z hz Q=>by have:=(M▸d).rowIs Q;simp[zX]at this;exact this▸(s.out (by omega)).2⟩
 have D:J.heap[w.heap.size]?=zo (zn #[zd zj 0,zd zj 0] 78 (0,0)):=by rw[M,zR _ _ _ _ (by exact fun e=>by simp at e;omega)];exact HR.out
 have H6:w.heap.size+2<=J.heap.size:=by omega
 have H4:=yw d;have b:=yw q;have m:(l++ [(⟨0,0,zt,-1⟩:Pl)])[l.length]?=zo ⟨0,0,zt,-1⟩:=by simp
 have h4:=yw m;have T:=d;rw[show l.length+1=(l++ [(⟨0,0,zt,-1⟩:Pl)]).length by simp]at T;have G:∀j,j<4->J.cell? ⟨g,l.length*4+j,zp⟩= [zd zj 0,zd zj 0,zh zt,zd zj (-1)][j]?:=by intro j hj;have:=T.place l.length j (by simp) hj;rw[this];simp[Pl.cells]
 have g0:J.cell? ⟨g,l.length*4,zp⟩=zo (zd zj 0):=G 0 (by omega);have g1:J.cell? ⟨g,l.length*4+1,zp⟩=zo (zd zj 0):=G 1 (by omega);have g2:J.cell? ⟨g,l.length*4+2,zp⟩=zo (zh zt):=G 2 (by omega);have g3:J.cell? ⟨g,l.length*4+3,zp⟩=zo (zd zj (-1)):=G 3 (by omega);have Hg:=T.OE (l.length*4);have Hy:=T.OE (l.length*4+2);have k0:=T.OE (l.length*4+3);obtain⟨c0,c1,c2,c3⟩:=d.cell;have h0:=d.free 3;have r0:J.cell? ⟨w.heap.size,0,zp⟩=zo (zd zj 0):=by simp[zN,D]
 have r1:J.cell? ⟨w.heap.size,1,zp⟩=zo (zd zj 0):=by simp[zN,D]
 have H8:J.frozen? ⟨w.heap.size,0,zp⟩=zt:=by simp[zY,D]
 have H7:J.frozen? ⟨w.heap.size,1,zp⟩=zt:=by simp[zY,D]
 clear d T q D G m M h8 hx;go_wp2;refine bodyPost_ret (v:=zi #[zg #[zd zj (l.length:Nat),zd zj 0],zd zj 0]) (by simp[results,results87,go_sem,r0,r1]) rfl ⟨rfl,g,X,?_⟩;have d:=H4.out;have D:g≠w.heap.size:=H5;have r:=b.out.RB.size;refine⟨?_,?_⟩
 .have K:=(((d.AY (-1)).dX l.length ⟨0,0,zt,-1⟩ ⟨x,0,zq,-1⟩ h4.out rfl).PR (c:=w.heap.size) (o:=0) (u:=zd zj (l.length:Nat)) (by omega) (by simp[zX];omega)).PR (c:=w.heap.size) (o:=1) (u:=zd zj 0) (by omega) (by simp[zX];omega);have e:(l++ [(⟨0,0,zt,-1⟩:Pl)]).set l.length ⟨x,0,zq,-1⟩=l++ [⟨x,0,zq,-1⟩]:=by rw[List.set_append_right _ _ (yA _)];simp
  rw[e]at K;exact K
 .have t1:=b.out.RB;have b1:=b.out.below;have hg:PF p w g∨w.heap.size<=g:=by
   by_cases R:g<w.heap.size
   .exact .inl (.inr (s.out R))
   .exact .inr (by omega)
  have Z:=d.OS;have ho:=U.out.lo;exact⟨(((((t1.setCell (.inl (.inl rfl)) _).setCell hg _).setCell hg _).setCell hg _).setCell (.inr (yA _)) _).setCell (.inr (yA _)) _,
   ((
    (((b1.setCell ho _).setCell Z _).setCell Z _).setCell Z _).setCell (by show base<=w.heap.size;omega) _).setCell (by show base<=w.heap.size;omega) _,fun H2 z hz Q=>by
    have h5:p≠w.heap.size:=by have:=U.out.lt;omega
    have K:=(Q.same (zR _ _ _ _ (by exact h5))).same (zR _ _ _ _ (by exact h5));have h3:=((d.AY (-1)).dX l.length ⟨0,0,zt,-1⟩ ⟨x,0,zq,-1⟩ h4.out rfl).rowIs K;simp[zX]at h3;exact h3▸(s.out (by omega)).2⟩
end Pi
end Go.Proofs.YtmpdpmhpkgbepaaGreatDoor
namespace Go.Proofs.YtmpdpmhpkgbepaaGreatDoor
namespace Pi
open Go Go.RowKit Go.ChangeShapes Go.WideShapes
theorem Dr(i g:Int)(k:Nat)(q:Pl)(w:zu)(base p b D n:Nat)(room A B:Int)(l:List Pl)(h:yF w base p (zf (zo ⟨b,0,zp⟩) n D) room A B l)(I:l.length<=4096)(J:Qv l i g k q)
 (H:0<=q.gen/\q.gen<=1000000) (M: -1000000<=A/\A<=4096) (hb:base<=w.heap.size):
 zw prog 94 #[ze (zo ⟨p,0,zp⟩),zg #[zd zj i,zd zj g]] w fun e w'=>e=zm (zi #[zd zj q.x,zd zj 0])/\yF w' base p (zf (zo ⟨b,0,zp⟩) n D) room (A-1) k (l.set k ⟨0,q.gen+1,zt,B⟩)/\OB base p w w':=by
 obtain rfl:=h.len;exact(Gc i g k q w base p b D room A B l h I J H M).mono fun e w' ⟨N,E,G⟩=>⟨N,E,h.step hb G (h.cE E)⟩
theorem Ds(x:Int)(k:Nat)(q:Pl)(w:zu)(base p b B n:Nat)(room A:Int)(l:List Pl)(h:yF w base p (zf (zo ⟨b,0,zp⟩) n B) room A k l)(H:l.length<=4096)(G:l[k]?=zo q)(J: -1000000<=A/\A<=4096)(I:A<room)(hb:base<=w.heap.size):
 zw prog 87 #[ze (zo ⟨p,0,zp⟩),zd zj x] w fun e w'=>e=zm (zi #[zg #[zd zj k,zd zj q.gen],zd zj 0])/\
  yF w' base p (zf (zo ⟨b,0,zp⟩) n B) room (A+1) q.next (l.set k ⟨x,q.gen,zq,-1⟩)/\OB base p w w':=by
 obtain rfl:=h.len;exact(Dq x k q w base p b B room A l h H G J I).mono fun e w' ⟨M,D,E⟩=>⟨M,D,h.step hb E (h.cE D)⟩
theorem yF.behind{w w':zu}{base p:Nat}{v:zz}{room B A:Int}{l:List Pl}(h:yF w base p v room B A l)(hb:Below w.heap.size w w'):yF w' base p v room B A l:=
 h.kept (hb.block p h.lt) (fun g D=>hb.block g (h.own.lt g D).2)
end Pi
end Go.Proofs.YtmpdpmhpkgbepaaGreatDoor
namespace Go.Proofs.YtmpdpmhpkgbepaaGreatDoor
namespace Pi
open Go Go.RowKit Go.ChangeShapes Go.WideShapes
def qZ(l:List Pl):Int->List Nat->Prop
 | f,[]=>f= -1
 | f,i::r=>f=i/\∃q,l[i]?=zo q/\q.used=zt/\qZ l q.next r
theorem vH(l:List Pl)(k:Nat)(q:Pl):∀(st:List Nat) (f:Int),k∉st->qZ l f st->qZ (l.set k q) f st
 | [],_,_,h=>h
 | i::r,f,hk,h=>by obtain⟨rfl,q',G,D,E⟩:=h;have A:k≠i:=fun e=>hk (by rw[e];exact List.mem_cons_self ..);exact⟨rfl,q',by rw[zC A];exact G,D,vH l k q r _ (fun B=>hk (List.mem_cons_of_mem _ B)) E⟩
theorem Qw(l:List Pl)(q:Pl):∀(st:List Nat) (f:Int),qZ l f st->qZ (l++ [q]) f st
 | [],_,h=>h
 | i::r,f,h=>by obtain⟨rfl,q',A,B,D⟩:=h;exact⟨rfl,q',by rw[zF (yy A).1];exact A,B,Qw l q r _ D⟩
theorem Qy(l:List Pl):∀(st:List Nat) (f:Int),qZ l f st->∀k∈st,∃q,l[k]?=zo q/\q.used=zt
 | [],_,_,k,hk=>by simp at hk
 | i::r,_,h,k,hk=>by
  obtain⟨rfl,q',D,A,B⟩:=h;rcases List.mem_cons.1 hk with rfl|hk
  .exact⟨q',D,A⟩
  .exact Qy l r _ B k hk
structure Ps where
 l:List Pl
 free:Int
 st:List Nat
 many:Int
structure Ps.Ok(s:Ps)(room:Int)(b:Nat):Prop where
 chain:qZ s.l s.free s.st
 nodup:s.st.Nodup
 len:s.l.length<=b
 fX:s.st.length<=b
 TD:∀(k:Nat) (q:Pl),s.l[k]?=zo q->0<=q.gen/\q.gen<=b
 many:s.many=s.l.length-s.st.length
 room:(s.l.length:Int)<=room
 fY:(s.l.countP (·.used):Int)=s.many
theorem Ps.Ok.more{s:Ps}{room:Int}{b:Nat}(h:s.Ok room b):s.Ok room (b+1):=
 ⟨h.chain,h.nodup,by have:=h.len;omega,by have:=h.fX;omega,fun k q A=>by have:=h.TD k q A;omega,h.many,h.room,h.fY⟩
theorem Ps.Ok.start(room:Int)(h:1<=room):(⟨[],-1,[],0⟩:Ps).Ok room 0:=⟨rfl,List.nodup_nil,by simp,by simp,fun k q h=>by simp at h,by simp,by simp;omega,by simp⟩
def Ps.put(s:Ps)(room:Int)(x:Int):Ps:=
 if s.many=room then s else match s.st with
  | []=>⟨s.l++ [⟨x,0,zq,-1⟩],-1,[],s.many+1⟩
  | k::st=>⟨s.l.set k ⟨x,(s.l.getD k ⟨0,0,zt,0⟩).gen,zq,-1⟩,(s.l.getD k ⟨0,0,zt,0⟩).next,st,s.many+1⟩
def Ps.RL(s:Ps)(room:Int):Nat:=if s.many=room then 0 else match s.st with
 | []=>s.l.length
 | k::_=>k
def Ps.SU(s:Ps)(room:Int):Int:=if s.many=room then 0 else match s.st with
 | []=>0
 | k::_=>(s.l.getD k ⟨0,0,zt,0⟩).gen
def Ps.SD(s:Ps)(room:Int):Int:=if s.many=room then 3 else 0
def Ps.find(s:Ps)(i g:Int):Option Nat:=match s.l[i.toNat]? with
 | none=>zp
 | some q=>if 0<=i/\q.used=zq/\q.gen=g then zo i.toNat else zp
theorem ud{s:Ps}{i g:Int}{k:Nat}(h:s.find i g=zo k):∃q,Qv s.l i g k q/\s.l.getD k ⟨0,0,zt,0⟩=q:=by
 unfold Ps.find at h;split at h
 .cases h
 .rename_i q A;split at h
  .rename_i B;cases h;exact⟨q,⟨by omega,A,B.2.1,B.2.2⟩,by rw[zH,A];rfl⟩
  .cases h
theorem Vz{s:Ps}{i g:Int}(h:s.find i g=zp):vk s.l i g:=by rintro k q ⟨rfl,A,B,D⟩;unfold Ps.find at h;rw[show((k:Int).toNat)=k by simp,A]at h;simp only at h;rw[if_pos ⟨by omega,B,D⟩]at h;cases h
def Ps.SJ(s:Ps)(i g:Int):Int:=match s.find i g with
 | none=>0
 | some k=>(s.l.getD k ⟨0,0,zt,0⟩).x
def Ps.RS(s:Ps)(i g:Int):Int:=match s.find i g with
 | none=>2
 | some _=>0
def Ps.bB(s:Ps)(i g:Int):Ps:=match s.find i g with
 | none=>s
 | some k=>⟨s.l.set k ⟨0,(s.l.getD k ⟨0,0,zt,0⟩).gen+1,zt,s.free⟩,k,k::s.st,s.many-1⟩
theorem Ps.Ok.put{s:Ps}{room:Int}{b:Nat}(h:s.Ok room b)(x:Int):(s.put room x).Ok room (b+1):=by
 unfold Ps.put;split
 .exact h.more
 .rename_i hm;have A:=h.many;have h1:=h.len;have G:=h.fX;have I:=h.room;cases hst:s.st with
  | nil=>
   have J:=h.chain;rw[hst]at J A;have R:s.free= -1:=J;rw[R]at J;simp at A;have h0:=h.fY;refine⟨Qw s.l _ [] (-1) J,List.nodup_nil,by simp;omega,by simp,?_,by simp;omega,by simp;omega,by simp[List.countP_append];omega⟩;intro k q B;by_cases hk:k<s.l.length
   .rw[zF hk]at B;have:=h.TD k q B;omega
   .rw[List.getElem?_append_right (by omega)]at B;have N:k-s.l.length=0:=by have:=(yy B).1;simpa using this
    rw[N]at B;simp at B;subst B;simp;omega
  | cons k st=>
   have J:=h.chain;have M:=h.nodup;rw[hst]at J A M G;obtain⟨R,q,B,V,O⟩:=J;have H:=(yy B).1;have U:s.l.getD k ⟨0,0,zt,0⟩=q:=by rw[zH,B];rfl
   have E:=List.nodup_cons.1 M;simp at A G;simp only[U];refine⟨vH s.l k _ st _ E.1 O,E.2,by simp;omega,by show st.length<=b+1;omega,?_,by simp;omega,by simpa using I,by have:=h.fY;rw[List.countP_set H,show s.l[k]=q by simpa[List.getElem?_eq_getElem H]using B];simp[V];omega⟩;intro j q' D;by_cases T:k=j
   .subst T;rw[zT H]at D;cases D;have:=h.TD k q B;simp;omega
   .rw[zC T]at D;have:=h.TD j q' D;omega
theorem Ps.Ok.bB{s:Ps}{room:Int}{b:Nat}(h:s.Ok room b)(i g:Int):(s.bB i g).Ok room (b+1):=by
 unfold Ps.bB;split
 .exact h.more
 .rename_i k hk;obtain⟨q,⟨_,D,H,hg⟩,hd⟩:=ud hk;rw[hd];have B:=(yy D).1;have G:k∉s.st:=by intro J;obtain⟨q',A,E⟩:=Qy s.l s.st s.free h.chain k J;rw[D]at A;cases A;rw[H]at E;cases E
  have h0:=h.many;have h1:=h.fX;refine⟨⟨rfl,_,zT B,rfl,vH s.l k _ s.st s.free G h.chain⟩,List.nodup_cons.2 ⟨G,h.nodup⟩,by have:=h.len;simp;omega,by simp;omega,?_,by simp;omega,by simpa using h.room,?_⟩
  rotate_left
  .have hp:0<s.l.countP (·.used):=List.countP_pos_iff.2 ⟨q,List.mem_of_getElem? D,H⟩;have:=h.fY;rw[List.countP_set B,show s.l[k]=q by simpa[List.getElem?_eq_getElem B]using D];simp[H];omega
  intro j q' A;by_cases I:k=j
  .subst I;rw[zT B]at A;cases A;have:=h.TD k q D;simp;omega
  .rw[zC I]at A;have:=h.TD j q' A;omega
end Pi
end Go.Proofs.YtmpdpmhpkgbepaaGreatDoor
namespace Go.Proofs.YtmpdpmhpkgbepaaGreatDoor
namespace Pi
open Go Go.RowKit Go.ChangeShapes Go.WideShapes
def bE(w:zu)(base p:Nat)(room:Int)(s:Ps):Prop:=∃v,yF w base p v room s.many s.free s.l
theorem yF.TE{w:zu}{base p:Nat}{v:zz}{room D B:Int}{l:List Pl}(h:yF w base p v room D B l){k:Nat}{q:Pl}(E:l[k]?=zo q):∃g A,v=zf (zo ⟨g,0,zp⟩) l.length A:=by
 rcases h.row with⟨_,H⟩|⟨g,A,G,_⟩
 .rw[H]at E;simp at E
 .exact⟨g,A,G⟩
theorem Ps.Ok.lo{s:Ps}{room:Int}{b:Nat}(h:s.Ok room b)(hb:b<=1000):s.l.length<=1000/\s.st.length<=1000/\ -1000000<=s.many/\s.many<=4096/\s.many<=room:=by have h1:=h.len;have h2:=h.fX;have h3:=h.many;have h4:=h.room;omega
theorem bO(x:Int)(b:Nat)(w:zu)(base p:Nat)(room:Int)(s:Ps)(h:bE w base p room s)(U:s.Ok room b)(hb:b<=1000)(A:base<=w.heap.size):
 zw prog 87 #[ze (zo ⟨p,0,zp⟩),zd zj x] w fun e w'=>e=zm (zi #[zg #[zd zj (s.RL room:Nat),zd zj (s.SU room)],zd zj (s.SD room)])/\bE w' base p room (s.put room x)/\OB base p w w':=by
 obtain⟨v,h⟩:=h;obtain⟨b1,b2,b3,b4,b5⟩:=U.lo hb;by_cases B:s.many=room
 .have N:s.RL room=0:=if_pos B;have I:s.SU room=0:=if_pos B;have O:s.SD room=3:=if_pos B;have R:s.put room x=s:=if_pos B;rw[N,I,O,R];exact(Gd x w base p v room s.many s.free s.l h B).mono fun e w' ⟨E,T⟩=>⟨E,⟨v,h.behind T⟩,OB.NZ T A⟩
 .have O:s.SD room=0:=if_neg B;have N:s.RL room=match s.st with | []=>s.l.length|k::_=>k:=if_neg B
  have I:s.SU room=match s.st with | []=>0|k::_=>(s.l.getD k ⟨0,0,zt,0⟩).gen:=if_neg B
  have R:s.put room x=match s.st with
   | []=>⟨s.l++ [⟨x,0,zq,-1⟩],-1,[],s.many+1⟩
   | k::st=>⟨s.l.set k ⟨x,(s.l.getD k ⟨0,0,zt,0⟩).gen,zq,-1⟩,(s.l.getD k ⟨0,0,zt,0⟩).next,st,s.many+1⟩:=if_neg B
  rw[N,I,O,R];have G:=U.chain;cases hst:s.st with
  | nil=>
   rw[hst]at G;have M:s.free= -1:=G;rw[M]at h;exact(Ge x w base p v room s.many s.l h (by omega) (by omega) (by omega) A).mono fun e w' ⟨E,g,D,J,hs⟩=>⟨E,⟨_,J⟩,hs⟩
  | cons k st=>
   rw[hst]at G;obtain⟨M,q,H,hu,h0⟩:=G;obtain⟨g,D,rfl⟩:=h.TE H;have V:s.l.getD k ⟨0,0,zt,0⟩=q:=by rw[zH,H];rfl
   rw[M]at h;simp only[V];exact(Ds x k q w base p g D _ room s.many s.l h (by omega) H (by omega) (by omega) A).mono fun e w' ⟨E,J,hs⟩=>⟨E,⟨_,J⟩,hs⟩
theorem cP(i g:Int)(b:Nat)(w:zu)(base p:Nat)(room:Int)(s:Ps)(h:bE w base p room s)(H:s.Ok room b)(hb:b<=1000)(A:base<=w.heap.size):
 zw prog 94 #[ze (zo ⟨p,0,zp⟩),zg #[zd zj i,zd zj g]] w fun e w'=>e=zm (zi #[zd zj (s.SJ i g),zd zj (s.RS i g)])/\bE w' base p room (s.bB i g)/\OB base p w w':=by
 obtain⟨v,h⟩:=h;obtain⟨b1,b2,I,N,b5⟩:=H.lo hb;unfold Ps.bB Ps.SJ Ps.RS;cases hf:s.find i g with
 | none=>exact(Dp i g w base p v room s.many s.free s.l h (by omega) (Vz hf)).mono fun e w' ⟨E,G⟩=>⟨E,⟨v,h.behind G⟩,OB.NZ G A⟩
 | some k=>
  obtain⟨q,D,hd⟩:=ud hf;obtain⟨gb,B,rfl⟩:=h.TE D.2.1;have J:=H.TD k q D.2.1;simp only[hd];exact(Dr i g k q w base p gb B _ room s.many s.free s.l h (by omega) D ⟨J.1,by omega⟩ ⟨I,N⟩ A).mono fun e w' ⟨E,M,hs⟩=>⟨E,⟨_,M⟩,hs⟩
end Pi
end Go.Proofs.YtmpdpmhpkgbepaaGreatDoor
