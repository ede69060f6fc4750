/- Parts of the proof of the law TopKeeps: contracts of the functions that it reaches, and plain laws of what they compute. Conditions: those in each statement. -/
import Derived.Deep.Cut
import Derived.Deep.DeepCutAuto
import Derived.Test.YtmgekibncmnmiaaGreatDoorM04
set_option linter.unusedVariables false
set_option maxRecDepth 100000
set_option maxHeartbeats 4000000
open Go.Proofs.Tryz
namespace Go.Proofs.YtmgekibncmnmiaaGreatDoor
open Go Go.RowKit Go.ChangeShapes Go.WideShapes
theorem zbb:(prog.info? 211).map (fun i=>(i.zero,i.size,i.bytes))=some (some (.agg #[.int .i64 0,.int .i64 0,.int .i64 0,.int .i64 0,.bool false,.int .i64 0]),6,48):=by kernel_rfl
theorem zdp(x:zrf)(w:World)(base p:Nat)(v:Value)(room many:Int)(l:List Pl)(h:zm w base p v room many (-1) l)(hl:l.length<4096)(hm: -1000000<=many/\many<=4096)(hr:many<room)(f:base<=w.heap.size):
 Calls prog 68 #[.pointer (some ⟨p,0,none⟩),.agg (zO x)] w fun e w'=>e=.returned (.tuple #[.agg #[.int .i64 (l.length:Nat),.int .i64 0],.int .i64 0])/\
  ∃g cap,zm w' base p (.slice (some ⟨g,0,none⟩) (l.length+1) cap) room (many+1) (-1) (l++ [⟨x,0,true,-1⟩])/\zpa base p w w':=by
 obtain⟨i0,hi,Hh,k2,Hv⟩:=info_parts zbb;have hp:=h.lt;obtain⟨c0,c1,c2,c3⟩:=h.cell;have Hn:=h.free 1;have k3:=h.free 2;have h7:=h.free 3;have kb:(many == room)=false:=beq_eq_false_iff_ne.2 (by omega);obtain⟨a,cap,s⟩:∃a cap,v=.slice a l.length cap:=by
  rcases h.row with⟨rfl,rfl⟩ | ⟨g,cap,rfl,_⟩
  ·exact⟨_,_,rfl⟩
  ·exact⟨_,_,rfl⟩
 subst s;have X:=zc h;clear h;go_enter func68,ntmps68;go_wp2;go_quiet (fail);have U:=zc ((((((X.out.alloc (.cells (zO x) 130)).alloc (.cells #[.int .i64 0,.int .i64 0] 78)).drewN nq).zrI (many+1)).alloc (.cells #[.int .i64 0,.int .i64 0,.int .i64 0,.int .i64 0,.bool false,.int .i64 (-1)] 211)))
 go_wp2_with (at_builtin;go_loud (refine uY _ rfl _ _ 207 rfl base 211 i0 (.agg #[.int .i64 0,.int .i64 0,.int .i64 0,.int .i64 0,.bool false,.int .i64 0]) 6 48 underlying207 hi Hh k2 Hv rfl (by decide) _ l.length (zp4 l) rfl ?c0 ⟨w.heap.size+2,0,none⟩ 1 1 [.int .i64 0,.int .i64 0,.int .i64 0,.int .i64 0,.bool false,.int .i64 (-1)] rfl rfl ?c1 ?c2 ?c3 ?c4 ?c5 ?_))
 case c0=>exact U.out.own
 case c1=>
  intro j u hj;have k7:j<6:=by have:=(ze hj).1;simpa using this
  rw[add_plain,<-hj];simp only[World.cell?,Nat.zero_add];have Z:(((((w.alloc (.cells (zO x) 130)).alloc (.cells #[.int .i64 0,.int .i64 0] 78)).drewN nq).setCell ⟨p,1,none⟩ (.int .i64 (many+1)))).heap.size=w.heap.size+2:=by simp
  have:=heap_alloc_new (((((w.alloc (.cells (zO x) 130)).alloc (.cells #[.int .i64 0,.int .i64 0] 78)).drewN nq).setCell ⟨p,1,none⟩ (.int .i64 (many+1)))) (.cells #[.int .i64 0,.int .i64 0,.int .i64 0,.int .i64 0,.bool false,.int .i64 (-1)] 211);rw[Z]at this;rw[this];simp
 case c2=>intro u hu;simp at hu;rcases hu with rfl | rfl | rfl <;> rfl
 case c3=>unfold maxLen;omega
 case c4=>omega
 case c5=>simp;omega
 intro v' w1 O A Hb;have c:v'.ownBlock≠some p:=zdm U.out.ne A O U.out.zp5 (by intro cs z;simp);have h4:=zc (U.out.grow ⟨.zero,0,false,-1⟩ A O c);have V:=A.block p U.out.lt (fun e=>U.out.ne e.symm);rw[U.out.zp5]at V;have Q:=A.block (w.heap.size+1) (by simp) (fun e=>by have:=(X.out.own.lt _ e.symm).2;omega);have t:=A.block w.heap.size (by simp;omega) (fun e=>by have:=(X.out.own.lt _ e.symm).2;omega);have H0:=A.size;rcases O.2 with⟨_,k6⟩ | ⟨g,G,cur,rfl,T,hh,Hy,Hr,Hg,k0⟩
 ·omega
 have Hq:g≠p:=by simpa[Value.ownBlock]using c
 have I:w1.heap[w.heap.size+1]?=some (.cells #[.int .i64 0,.int .i64 0] 78 (0,0)):=by rw[Q,Below.heap_alloc _ _ _ (by simp),Below.heap_setCell _ _ _ _ (by exact fun e=>by simp at e;omega)];have:=heap_alloc_new (w.alloc (.cells (zO x) 130)) (.cells #[.int .i64 0,.int .i64 0] 78);simpa using this
 have H:w1.heap[w.heap.size]?=some (.cells (zO x) 130 (0,0)):=by rw[t,Below.heap_alloc _ _ _ (by simp;omega),Below.heap_setCell _ _ _ _ (by exact fun e=>by simp at e;omega)];show((w.alloc (.cells (zO x) 130)).alloc (.cells #[.int .i64 0,.int .i64 0] 78)).heap[w.heap.size]?=_;rw[Below.heap_alloc _ _ _ (by simp)];exact heap_alloc_new w _
 have Ha:g≠w.heap.size+1:=by rintro rfl;rw[hh]at I;simp at I
 have Hf:g≠w.heap.size:=by rintro rfl;rw[hh]at H;simp at H
 have d2:w1.cell? ⟨p,2,none⟩=some (.slice a l.length cap):=by simp[World.cell?,V]
 have Hk:w1.frozen? ⟨p,2,none⟩=false:=by simp[World.frozen?,V]
 have Hw:w.heap.size+3<=w1.heap.size:=by simpa using H0
 have Hz:=Hb g rfl;have Hj:g<w.heap.size->(Value.slice a l.length cap).ownBlock=some g:=fun Y=>Hz.resolve_right (by simp;omega);have ha:g<w.heap.size->zru w g/\zpB w p g:=fun Y=>by
  refine⟨?_,_,X.out.cell.2.2.1,Hj Y⟩;by_cases he:(Value.slice a l.length cap).ownBlock=some g
  ·rcases X.out.own.2 with⟨s,_⟩ | ⟨g',h3,hf,s,_,h9,_⟩
   ·rw[s]at he;simp[Value.ownBlock]at he
   ·rw[s]at he;simp[Value.ownBlock]at he;subst he;exact⟨_,_,h9⟩
  ·have e:=A.block g (by simp;omega) (fun e=>he e.symm);rw[hh,Below.heap_alloc _ _ _ (by simp;omega),Below.heap_setCell _ _ _ _ (by exact fun e=>Hq e)]at e;have e2:(((w.alloc (.cells (zO x) 130)).alloc (.cells #[.int .i64 0,.int .i64 0] 78)).drewN nq).heap[g]?=w.heap[g]?:=by show((w.alloc (.cells (zO x) 130)).alloc (.cells #[.int .i64 0,.int .i64 0] 78)).heap[g]?=_;rw[Below.heap_alloc _ _ _ (by simp;omega),Below.heap_alloc w _ g Y]
   rw[e2]at e;exact⟨_,_,e.symm⟩
 have H2:zpa base p w w1:=
  ⟨(zo8.alloc (zo8.setCell (F:=PF p w) ((zo8.alloc (zo8.alloc (zo8.refl _ w) _) _).drewN nq) (.inl (.inl rfl)) _) _).grown A (fun k P=>by
   by_cases Y:k<w.heap.size
   ·left;right;refine⟨?_,_,X.out.cell.2.2.1,P⟩;rcases X.out.own.2 with⟨s,_⟩ | ⟨g',h3,hf,s,_,h9,_⟩
    ·rw[s]at P;simp[Value.ownBlock]at P
    ·rw[s]at P;simp[Value.ownBlock]at P;subst P;exact⟨_,_,h9⟩
   ·right;omega),
   Below.grown (Below.alloc (Below.setCell (zp (Below.alloc (Below.alloc (Below.refl _ _) f _) (by simp;omega) _) nq) X.out.lo _) (by simp;omega) _) A (by simp;omega) (fun k P=>(X.out.own.lt k P).1),
   fun ha z Z hr=>⟨_,X.out.cell.2.2.1,by obtain⟨u,h1,h2⟩:=hr;rw[d2]at h1;cases h1;exact h2⟩⟩
 have HG:=zc A;have HO:=zc O;have Hc:=zc H2;have h8:=zc ha;have HR:=zc I;have Hd:=zc H;clear A O H2 ha Q I t H V hh Hb c H0 c0 c1 c2 c3 Hn k3 h7 Hg k0 Hy Hr T;go_upto_region 8 with(fail)
 clear d2 Hk f;obtain⟨B,M⟩:=zh (w1.setCell ⟨p,2,none⟩ (.slice (some ⟨g,0,none⟩) (l.length+1) G))
 rw[<-M];have He:B.heap.size=w1.heap.size:=by rw[M];simp
 have b:zm B base p (.slice (some ⟨g,0,none⟩) (l.length+1) G) room (many+1) (-1) (l++ [⟨.zero,0,false,-1⟩]):=by rw[M];exact h4.out
 have h0:zpa base p w B:=by rw[M];exact⟨zo8.setCell (F:=PF p w) Hc.out.zpW (.inl (.inl rfl)) _,Hc.out.below.setCell X.out.lo _,fun hc z Z hr=>by have:=(M▸b).rowIs hr;simp[Value.ownBlock]at this;exact this▸(h8.out (by omega)).2⟩
 have D:B.heap[w.heap.size+1]?=some (.cells #[.int .i64 0,.int .i64 0] 78 (0,0)):=by rw[M,Below.heap_setCell _ _ _ _ (by exact fun e=>by simp at e;omega)];exact HR.out
 have J:B.heap[w.heap.size]?=some (.cells (zO x) 130 (0,0)):=by rw[M,Below.heap_setCell _ _ _ _ (by exact fun e=>by simp at e;omega)];exact Hd.out
 have hq:w.heap.size+3<=B.heap.size:=by omega
 have k4:=zc b;have W:=zc h0;have Hu:=b.lt;have Hp:=b.ztn;have hlen:(l++ [(⟨.zero,0,false,-1⟩:Pl)])[l.length]?=some ⟨.zero,0,false,-1⟩:=by simp
 have Hs:=zc hlen;have N:=b;rw[show l.length+1=(l++ [(⟨.zero,0,false,-1⟩:Pl)]).length by simp]at N;have E:∀j,j<6->B.cell? ⟨g,l.length*6+j,none⟩= [Value.int .i64 0,.int .i64 0,.int .i64 0,.int .i64 0,.bool false,.int .i64 (-1)][j]?:=by intro j hj;have:=N.place l.length j (by simp) hj;rw[this];simp[Pl.cells,zrf.zero]
 have g0:B.cell? ⟨g,l.length*6,none⟩=some (.int .i64 0):=E 0 (by omega);have H7:B.cell? ⟨g,l.length*6+1,none⟩=some (.int .i64 0):=E 1 (by omega);have H6:B.cell? ⟨g,l.length*6+2,none⟩=some (.int .i64 0):=E 2 (by omega);have g1:B.cell? ⟨g,l.length*6+3,none⟩=some (.int .i64 0):=E 3 (by omega);have g2:B.cell? ⟨g,l.length*6+4,none⟩=some (.bool false):=E 4 (by omega);have g3:B.cell? ⟨g,l.length*6+5,none⟩=some (.int .i64 (-1)):=E 5 (by omega);have H4:=N.zpi (l.length*6);have L:=N.zpi (l.length*6+1);have K:=N.zpi (l.length*6+2);have H5:=N.zpi (l.length*6+4);have H8:=N.zpi (l.length*6+5);obtain⟨c0,c1,c2,c3⟩:=b.cell
 have h7:=b.free 3;have r0:B.cell? ⟨w.heap.size+1,0,none⟩=some (.int .i64 0):=by simp[World.cell?,D]
 have r1:B.cell? ⟨w.heap.size+1,1,none⟩=some (.int .i64 0):=by simp[World.cell?,D]
 have h6:B.frozen? ⟨w.heap.size+1,0,none⟩=false:=by simp[World.frozen?,D]
 have h5:B.frozen? ⟨w.heap.size+1,1,none⟩=false:=by simp[World.frozen?,D]
 have x0:B.cell? ⟨w.heap.size,0,none⟩=some (.int .i64 x.ui):=by simp[World.cell?,J]
 have x1:B.cell? ⟨w.heap.size,1,none⟩=some (.int .i64 x.ug):=by simp[World.cell?,J]
 have x2:B.cell? ⟨w.heap.size,2,none⟩=some (.int .i64 x.dp):=by simp[World.cell?,J]
 clear b N h0 D J E hlen M He Hw;obtain⟨z,Z⟩:=zh w.heap.size
 obtain⟨y,hy⟩:=zh (w.heap.size+1)
 obtain⟨o,ho⟩:=zh (l.length*6)
 rw[<-hy]at r0 r1 h6 h5 Ha;rw[<-Z]at x0 x1 x2 Hf;rw[<-ho]at g0 H7 H6 g1 g2 g3 H4 L K H5 H8;have HY:=zc hy;have HZ:=zc Z;have H3:=zc ho;go_upto_region 9 with(fail)
 rw[<-hy,<-Z,<-ho];have Ht:p<z:=by omega
 have Hi:p<y:=by omega
 have H9:y<B.heap.size:=by omega
 have Hl:z<B.heap.size:=by omega
 clear hy Z ho hq;go_upto_region 10 with(fail)
 go_upto_region 11 with(fail)
 obtain⟨r,R⟩:=zh ((((((B.setCell ⟨p,3,none⟩ (.int .i64 (-1))).setCell ⟨g,o,none⟩ (.int .i64 x.ui)).setCell ⟨g,o+1,none⟩ (.int .i64 x.ug)).setCell ⟨g,o+2,none⟩ (.int .i64 x.dp)).setCell ⟨g,o+4,none⟩ (.bool true)).setCell ⟨g,o+5,none⟩ (.int .i64 (-1)))
 rw[<-R];have q:y≠g:=fun e=>Ha e.symm;have b:=k4.out;have m:zm r base p (.slice (some ⟨g,0,none⟩) (l.length+1) G) room (many+1) (-1) (l++ [⟨x,0,true,-1⟩]):=by
  have h1:=((b.zrt (-1)).zsM l.length ⟨.zero,0,false,-1⟩ ⟨x,0,true,-1⟩ Hs.out rfl)
  have e:(l++ [(⟨.zero,0,false,-1⟩:Pl)]).set l.length ⟨x,0,true,-1⟩=l++ [⟨x,0,true,-1⟩]:=by rw[List.set_append_right _ _ (zg _)];simp
  rw[e]at h1;rw[R,H3.out];exact h1
 have r3:∀i:Nat,r.cell? ⟨y,i,none⟩=B.cell? ⟨y,i,none⟩/\r.frozen? ⟨y,i,none⟩=B.frozen? ⟨y,i,none⟩:=by
  have hb:r.heap[y]?=B.heap[y]?:=by rw[R,Below.heap_setCell _ _ _ _ (by exact q),Below.heap_setCell _ _ _ _ (by exact q),Below.heap_setCell _ _ _ _ (by exact q),Below.heap_setCell _ _ _ _ (by exact q),Below.heap_setCell _ _ _ _ (by exact q),Below.heap_setCell _ _ _ _ (by show y≠p;omega)]
  intro i;constructor <;> simp[World.cell?,World.frozen?,hb]
 have C:zpa base p w r:=by
  have t1:=W.out.zpW;have b1:=W.out.below;have hg:PF p w g∨w.heap.size<=g:=by
   by_cases Y:g<w.heap.size
   ·exact .inl (.inr (h8.out Y))
   ·exact .inr (by omega)
  have T:=b.zqb;have Ho:=X.out.lo;rw[R];exact⟨(((((t1.setCell (.inl (.inl rfl)) _).setCell hg _).setCell hg _).setCell hg _).setCell hg _).setCell hg _,
   (((((b1.setCell Ho _).setCell T _).setCell T _).setCell T _).setCell T _).setCell T _,fun hc z Z hr=>by
   obtain⟨u,h1,h2⟩:=hr;have e3:u=.slice (some ⟨g,0,none⟩) (l.length+1) G:=by have:=h1;rw[<-R]at this;rw[m.cell.2.2.1]at this;exact(Option.some.inj this).symm
   subst e3;simp[Value.ownBlock]at h2;subst h2;exact(h8.out Z).2⟩
 have e0:=(r3 0).1.trans r0;have e1:=(r3 1).1.trans r1;have ka:=(r3 0).2.trans h6;have k9:=(r3 1).2.trans h5;have k1:r.cell? ⟨g,o+3,none⟩=some (.int .i64 0):=by have S:=m;rw[show l.length+1=(l++ [(⟨x,0,true,-1⟩:Pl)]).length by simp]at S;have:=S.place l.length 3 (by simp) (by omega);rw[H3.out,this];simp[Pl.cells]
 have ht:=zc m;have d:=zc C;have k5:=m.ztn;have k8:y<r.heap.size:=by rw[R];simpa using H9
 clear R r0 r1 h6 h5 g0 H7 H6 g1 g2 g3 H4 L K H5 H8 c0 c1 c2 c3 h7 x0 x1 x2 r3 b m C Hu Hp Ht Hi H9 Hl;obtain⟨n,hn⟩:=zh l.length
 rw[<-hn];have HN:=zc hn;clear hn;go_wp2;refine bodyPost_ret (v:=.tuple #[.agg #[.int .i64 (n:Nat),.int .i64 0],.int .i64 0]) (by simp[results,results68,go_sem,e0,e1]) rfl ⟨by rw[HN.out],g,G,?_⟩;have hx:y≠p:=by have:=HY.out;omega
 have hy:(Value.slice (some ⟨g,0,none⟩) (l.length+1) G).ownBlock≠some y:=by simp[Value.ownBlock];omega
 exact⟨(ht.out.zpP hx hy).zpP hx hy,⟨(d.out.zpW.setCell (.inr (by rw[HY.out];simp)) _).setCell (.inr (by rw[HY.out];simp)) _,(d.out.below.setCell (by have:=X.out.lo;have:=HY.out;show base<=y;omega) _).setCell (by have:=X.out.lo;have:=HY.out;show base<=y;omega) _,fun hc z Z hr=>d.out.row hc z Z ((hr.same (Below.heap_setCell _ _ _ _ (by exact fun e=>hx e.symm))).same (Below.heap_setCell _ _ _ _ (by exact fun e=>hx e.symm)))⟩⟩
theorem zb8(x:zrf)(k:Nat)(q:Pl)(w:World)(base p b cap n:Nat)(room many:Int)(l:List Pl)(h:zm w base p (.slice (some ⟨b,0,none⟩) n cap) room many k l)(E:l.length<=4096)(D:l[k]?=some q)(hm: -1000000<=many/\many<=4096)(G:many<room)(hb:base<=w.heap.size):
 Calls prog 68 #[.pointer (some ⟨p,0,none⟩),.agg (zO x)] w fun e w'=>e=.returned (.tuple #[.agg #[.int .i64 k,.int .i64 q.gen],.int .i64 0])/\
  zm w' base p (.slice (some ⟨b,0,none⟩) n cap) room (many+1) q.next (l.set k ⟨x,q.gen,true,-1⟩)/\zpa base p w w':=by
 obtain rfl:=h.len;exact(zb7 x k q w base p b cap room many l h E D hm G).mono fun e w' ⟨he,A,B⟩=>⟨he,A,h.step hb B (h.zsr A)⟩
theorem zmn(i g:Int)(k:Nat)(q:Pl)(w:World)(base p b cap n:Nat)(room many free:Int)(l:List Pl)(h:zm w base p (.slice (some ⟨b,0,none⟩) n cap) room many free l)(A:l.length<=4096)(B:zar l i g k q):
 Calls prog 119 #[.pointer (some ⟨p,0,none⟩),.agg #[.int .i64 i,.int .i64 g]] w fun e w'=>e=.returned (.tuple #[.agg (zO q.x),.int .i64 0])/\Below w.heap.size w w':=by
 obtain rfl:=h.len;exact znM i g k q w base p b cap room many free l h A B
theorem zm.behind{w w':World}{base p:Nat}{v:Value}{room many free:Int}{l:List Pl}(h:zm w base p v room many free l)(hb:Below w.heap.size w w'):zm w' base p v room many free l:=
 h.kept (hb.block p h.lt) (fun g A=>hb.block g (h.own.lt g A).2)
end Go.Proofs.YtmgekibncmnmiaaGreatDoor
namespace Go.Proofs.YtmgekibncmnmiaaGreatDoor
namespace Pi
open Go Go.RowKit Go.ChangeShapes Go.WideShapes
theorem zbb:(prog.info? 233).map (fun i=>(i.zero,i.size,i.bytes))=some (some (.agg #[.int .i64 0,.int .i64 0,.bool false,.int .i64 0]),4,32):=by kernel_rfl
theorem zdp(x:Int)(w:World)(base p:Nat)(v:Value)(room many:Int)(l:List Pl)(h:zm w base p v room many (-1) l)(hl:l.length<4096)(hm: -1000000<=many/\many<=4096)(K:many<room)(X:base<=w.heap.size):
 Calls prog 87 #[.pointer (some ⟨p,0,none⟩),.int .i64 x] w fun e w'=>e=.returned (.tuple #[.agg #[.int .i64 (l.length:Nat),.int .i64 0],.int .i64 0])/\
  ∃g cap,zm w' base p (.slice (some ⟨g,0,none⟩) (l.length+1) cap) room (many+1) (-1) (l++ [⟨x,0,true,-1⟩])/\zpa base p w w':=by
 obtain⟨i0,hi,h7,H2,ho⟩:=info_parts zbb;have hp:=h.lt;obtain⟨c0,c1,c2,c3⟩:=h.cell;have ha:=h.free 1;have H3:=h.free 2;have Q:=h.free 3;have Hg:(many == room)=false:=beq_eq_false_iff_ne.2 (by omega);obtain⟨a,cap,b⟩:∃a cap,v=.slice a l.length cap:=by
  rcases h.row with⟨rfl,rfl⟩ | ⟨g,cap,rfl,_⟩
  ·exact⟨_,_,rfl⟩
  ·exact⟨_,_,rfl⟩
 subst b;have T:=zc h;clear h;go_enter func87,ntmps87;go_wp2;go_quiet (fail);have J:=zc (((((T.out.alloc (.cells #[.int .i64 0,.int .i64 0] 78)).drewN nq).zrI (many+1)).alloc (.cells #[.int .i64 0,.int .i64 0,.bool false,.int .i64 (-1)] 233)));go_wp2_with (at_builtin;go_loud (refine uY _ rfl _ _ 145 rfl base 233 i0 (.agg #[.int .i64 0,.int .i64 0,.bool false,.int .i64 0]) 4 32 underlying145 hi h7 H2 ho rfl (by decide) _ l.length (zp4 l) rfl ?c0 ⟨w.heap.size+1,0,none⟩ 1 1 [.int .i64 0,.int .i64 0,.bool false,.int .i64 (-1)] rfl rfl ?c1 ?c2 ?c3 ?c4 ?c5 ?_))
 case c0=>exact J.out.own
 case c1=>
  intro j u hj;have Hf:j<4:=by have:=(ze hj).1;simpa using this
  rw[add_plain,<-hj];simp only[World.cell?,Nat.zero_add];have hz:((((w.alloc (.cells #[.int .i64 0,.int .i64 0] 78)).drewN nq).setCell ⟨p,1,none⟩ (.int .i64 (many+1)))).heap.size=w.heap.size+1:=by simp
  have:=heap_alloc_new ((((w.alloc (.cells #[.int .i64 0,.int .i64 0] 78)).drewN nq).setCell ⟨p,1,none⟩ (.int .i64 (many+1)))) (.cells #[.int .i64 0,.int .i64 0,.bool false,.int .i64 (-1)] 233);rw[hz]at this;rw[this];simp
 case c2=>intro u hu;simp at hu;rcases hu with rfl | rfl | rfl <;> rfl
 case c3=>unfold maxLen;omega
 case c4=>omega
 case c5=>simp;omega
 intro v' w1 G A h0;have U:v'.ownBlock≠some p:=zdm J.out.ne A G J.out.zp5 (by intro cs z;simp);have C:=zc (J.out.grow ⟨0,0,false,-1⟩ A G U);have M:=A.block p J.out.lt (fun e=>J.out.ne e.symm);rw[J.out.zp5]at M;have f:=A.block w.heap.size (by simp;omega) (fun e=>by have:=(T.out.own.lt _ e.symm).2;omega);have n:=A.size;rcases G.2 with⟨_,Ha⟩ | ⟨g,V,cur,rfl,Y,hh,ht,hn,h6,hy⟩
 ·omega
 have hf:g≠p:=by simpa[Value.ownBlock]using U
 have D:w1.heap[w.heap.size]?=some (.cells #[.int .i64 0,.int .i64 0] 78 (0,0)):=by rw[f,Below.heap_alloc _ _ _ (by simp),Below.heap_setCell _ _ _ _ (by exact fun e=>by simp at e;omega)];exact heap_alloc_new w _
 have H5:g≠w.heap.size:=by rintro rfl;rw[hh]at D;simp at D
 have d2:w1.cell? ⟨p,2,none⟩=some (.slice a l.length cap):=by simp[World.cell?,M]
 have h9:w1.frozen? ⟨p,2,none⟩=false:=by simp[World.frozen?,M]
 have hq:w.heap.size+2<=w1.heap.size:=by simpa using n
 have hx:=h0 g rfl;have h8:g<w.heap.size->(Value.slice a l.length cap).ownBlock=some g:=fun N=>hx.resolve_right (by simp;omega);have s:g<w.heap.size->zru w g/\zpB w p g:=fun N=>by
  refine⟨?_,_,T.out.cell.2.2.1,h8 N⟩;by_cases he:(Value.slice a l.length cap).ownBlock=some g
  ·rcases T.out.own.2 with⟨b,_⟩ | ⟨g',t,L,b,_,r,_⟩
   ·rw[b]at he;simp[Value.ownBlock]at he
   ·rw[b]at he;simp[Value.ownBlock]at he;subst he;exact⟨_,_,r⟩
  ·have e:=A.block g (by simp;omega) (fun e=>he e.symm);rw[hh,Below.heap_alloc _ _ _ (by simp;omega),Below.heap_setCell _ _ _ _ (by exact fun e=>hf e)]at e;have e2:((w.alloc (.cells #[.int .i64 0,.int .i64 0] 78)).drewN nq).heap[g]?=w.heap[g]?:=Below.heap_alloc w _ g N;rw[e2]at e;exact⟨_,_,e.symm⟩
 have P:zpa base p w w1:=
  ⟨(zo8.alloc (zo8.setCell (F:=PF p w) ((zo8.alloc (zo8.refl _ w) _).drewN nq) (.inl (.inl rfl)) _) _).grown A (fun k d=>by
   by_cases N:k<w.heap.size
   ·left;right;refine⟨?_,_,T.out.cell.2.2.1,d⟩;rcases T.out.own.2 with⟨b,_⟩ | ⟨g',t,L,b,_,r,_⟩
    ·rw[b]at d;simp[Value.ownBlock]at d
    ·rw[b]at d;simp[Value.ownBlock]at d;subst d;exact⟨_,_,r⟩
   ·right;omega),
   Below.grown (Below.alloc (Below.setCell (zp (Below.alloc (Below.refl _ _) X _) nq) T.out.lo _) (by simp;omega) _) A (by simp;omega) (fun k d=>(T.out.own.lt k d).1),
   fun s z hz K=>⟨_,T.out.cell.2.2.1,by obtain⟨u,y,h2⟩:=K;rw[d2]at y;cases y;exact h2⟩⟩
 have HG:=zc A;have HO:=zc G;have h4:=zc P;have q:=zc s;have HR:=zc D;clear A G P s f D M hh h0 U n c0 c1 c2 c3 ha H3 Q h6 hy ht hn Y;go_upto_region 8 with(fail)
 clear d2 h9 X;obtain⟨H,I⟩:=zh (w1.setCell ⟨p,2,none⟩ (.slice (some ⟨g,0,none⟩) (l.length+1) V))
 rw[<-I];have h5:H.heap.size=w1.heap.size:=by rw[I];simp
 have R:zm H base p (.slice (some ⟨g,0,none⟩) (l.length+1) V) room (many+1) (-1) (l++ [⟨0,0,false,-1⟩]):=by rw[I];exact C.out
 have m:zpa base p w H:=by rw[I];exact⟨zo8.setCell (F:=PF p w) h4.out.zpW (.inl (.inl rfl)) _,h4.out.below.setCell T.out.lo _,fun H0 z hz K=>by have:=(I▸R).rowIs K;simp[Value.ownBlock]at this;exact this▸(q.out (by omega)).2⟩
 have B:H.heap[w.heap.size]?=some (.cells #[.int .i64 0,.int .i64 0] 78 (0,0)):=by rw[I,Below.heap_setCell _ _ _ _ (by exact fun e=>by simp at e;omega)];exact HR.out
 have H6:w.heap.size+2<=H.heap.size:=by omega
 have H4:=zc R;have Z:=zc m;have Hc:=R.lt;have H9:=R.ztn;have hlen:(l++ [(⟨0,0,false,-1⟩:Pl)])[l.length]?=some ⟨0,0,false,-1⟩:=by simp
 have S:=zc hlen;have O:=R;rw[show l.length+1=(l++ [(⟨0,0,false,-1⟩:Pl)]).length by simp]at O;have E:∀j,j<4->H.cell? ⟨g,l.length*4+j,none⟩= [Value.int .i64 0,.int .i64 0,.bool false,.int .i64 (-1)][j]?:=by intro j hj;have:=O.place l.length j (by simp) hj;rw[this];simp[Pl.cells]
 have g0:H.cell? ⟨g,l.length*4,none⟩=some (.int .i64 0):=E 0 (by omega);have g1:H.cell? ⟨g,l.length*4+1,none⟩=some (.int .i64 0):=E 1 (by omega);have g2:H.cell? ⟨g,l.length*4+2,none⟩=some (.bool false):=E 2 (by omega);have g3:H.cell? ⟨g,l.length*4+3,none⟩=some (.int .i64 (-1)):=E 3 (by omega);have Hb:=O.zpi (l.length*4);have Hd:=O.zpi (l.length*4+2);have He:=O.zpi (l.length*4+3);obtain⟨c0,c1,c2,c3⟩:=R.cell;have Q:=R.free 3;have r0:H.cell? ⟨w.heap.size,0,none⟩=some (.int .i64 0):=by simp[World.cell?,B]
 have r1:H.cell? ⟨w.heap.size,1,none⟩=some (.int .i64 0):=by simp[World.cell?,B]
 have H8:H.frozen? ⟨w.heap.size,0,none⟩=false:=by simp[World.frozen?,B]
 have H7:H.frozen? ⟨w.heap.size,1,none⟩=false:=by simp[World.frozen?,B]
 clear R O m B E hlen I h5 hq;go_wp2;refine bodyPost_ret (v:=.tuple #[.agg #[.int .i64 (l.length:Nat),.int .i64 0],.int .i64 0]) (by simp[results,results87,go_sem,r0,r1]) rfl ⟨rfl,g,V,?_⟩;have R:=H4.out;have B:g≠w.heap.size:=H5;have n:=Z.out.zpW.size;refine⟨?_,?_⟩
 ·have y:=(((R.zrt (-1)).zsk l.length ⟨0,0,false,-1⟩ ⟨x,0,true,-1⟩ S.out rfl).zpP (c:=w.heap.size) (o:=0) (u:=.int .i64 (l.length:Nat)) (by omega) (by simp[Value.ownBlock];omega)).zpP (c:=w.heap.size) (o:=1) (u:=.int .i64 0) (by omega) (by simp[Value.ownBlock];omega);have e:(l++ [(⟨0,0,false,-1⟩:Pl)]).set l.length ⟨x,0,true,-1⟩=l++ [⟨x,0,true,-1⟩]:=by rw[List.set_append_right _ _ (zg _)];simp
  rw[e]at y;exact y
 ·have t1:=Z.out.zpW;have b1:=Z.out.below;have hg:PF p w g∨w.heap.size<=g:=by
   by_cases N:g<w.heap.size
   ·exact .inl (.inr (q.out N))
   ·exact .inr (by omega)
  have Y:=R.zqb;have hc:=T.out.lo;exact⟨(((((t1.setCell (.inl (.inl rfl)) _).setCell hg _).setCell hg _).setCell hg _).setCell (.inr (zg _)) _).setCell (.inr (zg _)) _,
   ((
    (((b1.setCell hc _).setCell Y _).setCell Y _).setCell Y _).setCell (by show base<=w.heap.size;omega) _).setCell (by show base<=w.heap.size;omega) _,fun H0 z hz K=>by
    have W:p≠w.heap.size:=by have:=T.out.lt;omega
    have y:=(K.same (Below.heap_setCell _ _ _ _ (by exact W))).same (Below.heap_setCell _ _ _ _ (by exact W));have h3:=((R.zrt (-1)).zsk l.length ⟨0,0,false,-1⟩ ⟨x,0,true,-1⟩ S.out rfl).rowIs y;simp[Value.ownBlock]at h3;exact h3▸(q.out (by omega)).2⟩
end Pi
end Go.Proofs.YtmgekibncmnmiaaGreatDoor
namespace Go.Proofs.YtmgekibncmnmiaaGreatDoor
namespace Pi
open Go Go.RowKit Go.ChangeShapes Go.WideShapes
theorem zkz(i g:Int)(k:Nat)(q:Pl)(w:World)(base p b cap n:Nat)(room many free:Int)(l:List Pl)(h:zm w base p (.slice (some ⟨b,0,none⟩) n cap) room many free l)(E:l.length<=4096)(G:zar l i g k q)
 (D:0<=q.gen/\q.gen<=1000000) (hm: -1000000<=many/\many<=4096) (hb:base<=w.heap.size):
 Calls prog 94 #[.pointer (some ⟨p,0,none⟩),.agg #[.int .i64 i,.int .i64 g]] w fun e w'=>e=.returned (.tuple #[.int .i64 q.x,.int .i64 0])/\zm w' base p (.slice (some ⟨b,0,none⟩) n cap) room (many-1) k (l.set k ⟨0,q.gen+1,false,free⟩)/\zpa base p w w':=by
 obtain rfl:=h.len;exact(zmx i g k q w base p b cap room many free l h E G D hm).mono fun e w' ⟨he,A,B⟩=>⟨he,A,h.step hb B (h.zsr A)⟩
theorem zb8(x:Int)(k:Nat)(q:Pl)(w:World)(base p b cap n:Nat)(room many:Int)(l:List Pl)(h:zm w base p (.slice (some ⟨b,0,none⟩) n cap) room many k l)(E:l.length<=4096)(D:l[k]?=some q)(hm: -1000000<=many/\many<=4096)(G:many<room)(hb:base<=w.heap.size):
 Calls prog 87 #[.pointer (some ⟨p,0,none⟩),.int .i64 x] w fun e w'=>e=.returned (.tuple #[.agg #[.int .i64 k,.int .i64 q.gen],.int .i64 0])/\
  zm w' base p (.slice (some ⟨b,0,none⟩) n cap) room (many+1) q.next (l.set k ⟨x,q.gen,true,-1⟩)/\zpa base p w w':=by
 obtain rfl:=h.len;exact(zb7 x k q w base p b cap room many l h E D hm G).mono fun e w' ⟨he,A,B⟩=>⟨he,A,h.step hb B (h.zsr A)⟩
theorem zm.behind{w w':World}{base p:Nat}{v:Value}{room many free:Int}{l:List Pl}(h:zm w base p v room many free l)(hb:Below w.heap.size w w'):zm w' base p v room many free l:=
 h.kept (hb.block p h.lt) (fun g A=>hb.block g (h.own.lt g A).2)
end Pi
end Go.Proofs.YtmgekibncmnmiaaGreatDoor
namespace Go.Proofs.YtmgekibncmnmiaaGreatDoor
namespace Pi
open Go Go.RowKit Go.ChangeShapes Go.WideShapes
def xS(l:List Pl):Int->List Nat->Prop
 | f,[]=>f= -1
 | f,i::r=>f=i/\∃q,l[i]?=some q/\q.used=false/\xS l q.next r
theorem qe(l:List Pl)(k:Nat)(q:Pl):∀(st:List Nat) (f:Int),k∉st->xS l f st->xS (l.set k q) f st
 | [],_,_,h=>h
 | i::r,f,hk,h=>by obtain⟨rfl,q',E,B,D⟩:=h;have A:k≠i:=fun e=>hk (by rw[e];exact List.mem_cons_self ..);exact⟨rfl,q',by rw[List.getElem?_set_ne A];exact E,B,qe l k q r _ (fun hm=>hk (List.mem_cons_of_mem _ hm)) D⟩
theorem vp(l:List Pl)(q:Pl):∀(st:List Nat) (f:Int),xS l f st->xS (l++ [q]) f st
 | [],_,h=>h
 | i::r,f,h=>by obtain⟨rfl,q',A,B,D⟩:=h;exact⟨rfl,q',by rw[List.getElem?_append_left (ze A).1];exact A,B,vp l q r _ D⟩
theorem zdv(l:List Pl):∀(st:List Nat) (f:Int),xS l f st->∀k∈st,∃q,l[k]?=some q/\q.used=false
 | [],_,_,k,A=>by simp at A
 | i::r,_,h,k,A=>by
  obtain⟨rfl,q',E,B,D⟩:=h;rcases List.mem_cons.1 A with rfl | A
  ·exact⟨q',E,B⟩
  ·exact zdv l r _ D k A
structure Ps where
 l:List Pl
 free:Int
 st:List Nat
 many:Int
structure Ps.Ok(s:Ps)(room:Int)(b:Nat):Prop where
 chain:xS s.l s.free s.st
 nodup:s.st.Nodup
 len:s.l.length<=b
 ztg:s.st.length<=b
 zq2:∀(k:Nat) (q:Pl),s.l[k]?=some q->0<=q.gen/\q.gen<=b
 many:s.many=s.l.length-s.st.length
 room:(s.l.length:Int)<=room
 zth:(s.l.countP (·.used):Int)=s.many
theorem Ps.Ok.more{s:Ps}{room:Int}{b:Nat}(h:s.Ok room b):s.Ok room (b+1):=
 ⟨h.chain,h.nodup,by have:=h.len;omega,by have:=h.ztg;omega,fun k q A=>by have:=h.zq2 k q A;omega,h.many,h.room,h.zth⟩
theorem Ps.Ok.start(room:Int)(h:1<=room):(⟨[],-1,[],0⟩:Ps).Ok room 0:=⟨rfl,List.nodup_nil,by simp,by simp,fun k q h=>by simp at h,by simp,by simp;omega,by simp⟩
def Ps.put(s:Ps)(room:Int)(x:Int):Ps:=
 if s.many=room then s else match s.st with
  | []=>⟨s.l++ [⟨x,0,true,-1⟩],-1,[],s.many+1⟩
  | k::st=>⟨s.l.set k ⟨x,(s.l.getD k ⟨0,0,false,0⟩).gen,true,-1⟩,(s.l.getD k ⟨0,0,false,0⟩).next,st,s.many+1⟩
def Ps.zp8(s:Ps)(room:Int):Nat:=if s.many=room then 0 else match s.st with
 | []=>s.l.length
 | k::_=>k
def Ps.zqC(s:Ps)(room:Int):Int:=if s.many=room then 0 else match s.st with
 | []=>0
 | k::_=>(s.l.getD k ⟨0,0,false,0⟩).gen
def Ps.zqe(s:Ps)(room:Int):Int:=if s.many=room then 3 else 0
def Ps.find(s:Ps)(i g:Int):Option Nat:=match s.l[i.toNat]? with
 | none=>none
 | some q=>if 0<=i/\q.used=true/\q.gen=g then some i.toNat else none
theorem ztR{s:Ps}{i g:Int}{k:Nat}(h:s.find i g=some k):∃q,zar s.l i g k q/\s.l.getD k ⟨0,0,false,0⟩=q:=by
 unfold Ps.find at h;split at h
 ·cases h
 ·rename_i q A;split at h
  ·rename_i B;cases h;exact⟨q,⟨by omega,A,B.2.1,B.2.2⟩,by rw[List.getD_eq_getElem?_getD,A];rfl⟩
  ·cases h
theorem zfw{s:Ps}{i g:Int}(h:s.find i g=none):qd s.l i g:=by rintro k q ⟨rfl,A,hu,B⟩;unfold Ps.find at h;rw[show((k:Int).toNat)=k by simp,A]at h;simp only at h;rw[if_pos ⟨by omega,hu,B⟩]at h;cases h
def Ps.zqU(s:Ps)(i g:Int):Int:=match s.find i g with
 | none=>0
 | some k=>(s.l.getD k ⟨0,0,false,0⟩).x
def Ps.zqO(s:Ps)(i g:Int):Int:=match s.find i g with
 | none=>2
 | some _=>0
def Ps.zsC(s:Ps)(i g:Int):Ps:=match s.find i g with
 | none=>s
 | some k=>⟨s.l.set k ⟨0,(s.l.getD k ⟨0,0,false,0⟩).gen+1,false,s.free⟩,k,k::s.st,s.many-1⟩
theorem Ps.Ok.put{s:Ps}{room:Int}{b:Nat}(h:s.Ok room b)(x:Int):(s.put room x).Ok room (b+1):=by
 unfold Ps.put;split
 ·exact h.more
 ·rename_i hm;have A:=h.many;have hlen:=h.len;have G:=h.ztg;have I:=h.room;cases hst:s.st with
  | nil=>
   have J:=h.chain;rw[hst]at J A;have R:s.free= -1:=J;rw[R]at J;simp at A;have h0:=h.zth;refine⟨vp s.l _ [] (-1) J,List.nodup_nil,by simp;omega,by simp,?_,by simp;omega,by simp;omega,by simp[List.countP_append];omega⟩;intro k q B;by_cases V:k<s.l.length
   ·rw[List.getElem?_append_left V]at B;have:=h.zq2 k q B;omega
   ·rw[List.getElem?_append_right (by omega)]at B;have N:k-s.l.length=0:=by have:=(ze B).1;simpa using this
    rw[N]at B;simp at B;subst B;simp;omega
  | cons k st=>
   have J:=h.chain;have M:=h.nodup;rw[hst]at J A M G;obtain⟨R,q,B,hu,O⟩:=J;have H:=(ze B).1;have U:s.l.getD k ⟨0,0,false,0⟩=q:=by rw[List.getD_eq_getElem?_getD,B];rfl
   have E:=List.nodup_cons.1 M;simp at A G;simp only[U];refine⟨qe s.l k _ st _ E.1 O,E.2,by simp;omega,by show st.length<=b+1;omega,?_,by simp;omega,by simpa using I,by have:=h.zth;rw[List.countP_set H,show s.l[k]=q by simpa[List.getElem?_eq_getElem H]using B];simp[hu];omega⟩;intro j q' D;by_cases T:k=j
   ·subst T;rw[List.getElem?_set_self H]at D;cases D;have:=h.zq2 k q B;simp;omega
   ·rw[List.getElem?_set_ne T]at D;have:=h.zq2 j q' D;omega
theorem Ps.Ok.zsC{s:Ps}{room:Int}{b:Nat}(h:s.Ok room b)(i g:Int):(s.zsC i g).Ok room (b+1):=by
 unfold Ps.zsC;split
 ·exact h.more
 ·rename_i k I;obtain⟨q,⟨_,D,hu,hg⟩,hd⟩:=ztR I;rw[hd];have B:=(ze D).1;have G:k∉s.st:=by intro hm;obtain⟨q',A,E⟩:=zdv s.l s.st s.free h.chain k hm;rw[D]at A;cases A;rw[hu]at E;cases E
  have h0:=h.many;have h1:=h.ztg;refine⟨⟨rfl,_,List.getElem?_set_self B,rfl,qe s.l k _ s.st s.free G h.chain⟩,List.nodup_cons.2 ⟨G,h.nodup⟩,by have:=h.len;simp;omega,by simp;omega,?_,by simp;omega,by simpa using h.room,?_⟩
  rotate_left
  ·have hp:0<s.l.countP (·.used):=List.countP_pos_iff.2 ⟨q,List.mem_of_getElem? D,hu⟩;have:=h.zth;rw[List.countP_set B,show s.l[k]=q by simpa[List.getElem?_eq_getElem B]using D];simp[hu];omega
  intro j q' A;by_cases H:k=j
  ·subst H;rw[List.getElem?_set_self B]at A;cases A;have:=h.zq2 k q D;simp;omega
  ·rw[List.getElem?_set_ne H]at A;have:=h.zq2 j q' A;omega
end Pi
end Go.Proofs.YtmgekibncmnmiaaGreatDoor
namespace Go.Proofs.YtmgekibncmnmiaaGreatDoor
namespace Pi
open Go Go.RowKit Go.ChangeShapes Go.WideShapes
def zrJ(w:World)(base p:Nat)(room:Int)(s:Ps):Prop:=∃v,zm w base p v room s.many s.free s.l
theorem zm.zq9{w:World}{base p:Nat}{v:Value}{room many free:Int}{l:List Pl}(h:zm w base p v room many free l){k:Nat}{q:Pl}(A:l[k]?=some q):∃g cap,v=.slice (some ⟨g,0,none⟩) l.length cap:=by
 rcases h.row with⟨_,D⟩ | ⟨g,cap,B,_⟩
 ·rw[D]at A;simp at A
 ·exact⟨g,cap,B⟩
theorem Ps.Ok.lo{s:Ps}{room:Int}{b:Nat}(h:s.Ok room b)(hb:b<=1000):s.l.length<=1000/\s.st.length<=1000/\ -1000000<=s.many/\s.many<=4096/\s.many<=room:=by have h1:=h.len;have h2:=h.ztg;have h3:=h.many;have h4:=h.room;omega
theorem zrw(x:Int)(b:Nat)(w:World)(base p:Nat)(room:Int)(s:Ps)(h:zrJ w base p room s)(N:s.Ok room b)(hb:b<=1000)(A:base<=w.heap.size):
 Calls prog 87 #[.pointer (some ⟨p,0,none⟩),.int .i64 x] w fun e w'=>e=.returned (.tuple #[.agg #[.int .i64 (s.zp8 room:Nat),.int .i64 (s.zqC room)],.int .i64 (s.zqe room)])/\zrJ w' base p room (s.put room x)/\zpa base p w w':=by
 obtain⟨v,h⟩:=h;obtain⟨b1,b2,b3,b4,b5⟩:=N.lo hb;by_cases hm:s.many=room
 ·have H:s.zp8 room=0:=if_pos hm;have E:s.zqC room=0:=if_pos hm;have I:s.zqe room=3:=if_pos hm;have J:s.put room x=s:=if_pos hm;rw[H,E,I,J];exact(zdo x w base p v room s.many s.free s.l h hm).mono fun e w' ⟨he,M⟩=>⟨he,⟨v,h.behind M⟩,zpa.zo7 M A⟩
 ·have I:s.zqe room=0:=if_neg hm;have H:s.zp8 room=match s.st with | []=>s.l.length | k::_=>k:=if_neg hm
  have E:s.zqC room=match s.st with | []=>0 | k::_=>(s.l.getD k ⟨0,0,false,0⟩).gen:=if_neg hm
  have J:s.put room x=match s.st with
   | []=>⟨s.l++ [⟨x,0,true,-1⟩],-1,[],s.many+1⟩
   | k::st=>⟨s.l.set k ⟨x,(s.l.getD k ⟨0,0,false,0⟩).gen,true,-1⟩,(s.l.getD k ⟨0,0,false,0⟩).next,st,s.many+1⟩:=if_neg hm
  rw[H,E,I,J];have B:=N.chain;cases hst:s.st with
  | nil=>
   rw[hst]at B;have G:s.free= -1:=B;rw[G]at h;exact(zdp x w base p v room s.many s.l h (by omega) (by omega) (by omega) A).mono fun e w' ⟨he,g,cap,hp,hs⟩=>⟨he,⟨_,hp⟩,hs⟩
  | cons k st=>
   rw[hst]at B;obtain⟨G,q,D,hu,h0⟩:=B;obtain⟨g,cap,rfl⟩:=h.zq9 D;have O:s.l.getD k ⟨0,0,false,0⟩=q:=by rw[List.getD_eq_getElem?_getD,D];rfl
   rw[G]at h;simp only[O];exact(zb8 x k q w base p g cap _ room s.many s.l h (by omega) D (by omega) (by omega) A).mono fun e w' ⟨he,hp,hs⟩=>⟨he,⟨_,hp⟩,hs⟩
theorem zs7(i g:Int)(b:Nat)(w:World)(base p:Nat)(room:Int)(s:Ps)(h:zrJ w base p room s)(E:s.Ok room b)(hb:b<=1000)(A:base<=w.heap.size):
 Calls prog 94 #[.pointer (some ⟨p,0,none⟩),.agg #[.int .i64 i,.int .i64 g]] w fun e w'=>e=.returned (.tuple #[.int .i64 (s.zqU i g),.int .i64 (s.zqO i g)])/\zrJ w' base p room (s.zsC i g)/\zpa base p w w':=by
 obtain⟨v,h⟩:=h;obtain⟨b1,b2,G,I,b5⟩:=E.lo hb;unfold Ps.zsC Ps.zqU Ps.zqO;cases hf:s.find i g with
 | none=>exact(zky i g w base p v room s.many s.free s.l h (by omega) (zfw hf)).mono fun e w' ⟨he,D⟩=>⟨he,⟨v,h.behind D⟩,zpa.zo7 D A⟩
 | some k=>
  obtain⟨q,B,hd⟩:=ztR hf;obtain⟨gb,cap,rfl⟩:=h.zq9 B.2.1;have H:=E.zq2 k q B.2.1;simp only[hd];exact(zkz i g k q w base p gb cap _ room s.many s.free s.l h (by omega) B ⟨H.1,by omega⟩ ⟨G,I⟩ A).mono fun e w' ⟨he,hp,hs⟩=>⟨he,⟨_,hp⟩,hs⟩
end Pi
end Go.Proofs.YtmgekibncmnmiaaGreatDoor
