/- Parts for TopPlaces. Conditions: as stated. -/
import Derived.Deep.LoopGhost
import Derived.Maps.AppendAt
import Derived.Test.YtmpdpmhpkgbepaaGreatDoorZ05
import Derived.Test.YtmpdpmhpkgbepaaGreatDoorZ11
set_option linter.unusedVariables false
set_option maxRecDepth 100000
set_option maxHeartbeats 4000000
open Go.Value renaming int->zd,pointer->ze,slice->zf,agg->zg,tuple->zi
open Go.IntKind renaming i64->zj
open Go.Ending renaming returned->zm
open Option renaming some->zo,none->zp
open Bool renaming false->zt
open List renaming getElem?_eq_getElem->zy,getElem?_set_ne->zC,length_append->zE,getElem?_append_left->zF,getElem?_map->zG,getD_eq_getElem?_getD->zH,getElem?_set_self->zT,getElem?_append_right->zV
open Go.Proofs.Tryz
namespace Go.Proofs.YtmpdpmhpkgbepaaGreatDoor
open Go Go.RowKit Go.ChangeShapes Go.WideShapes
variable {w:World}{k b:Nat}{i g:Int}
theorem Hx.eT(h:Hx w k i g)(x:Int):Hx (w.setCell ⟨k,0,zp⟩ (zd zj x)) k x g:=by have:=yD (i:=0) (u:=zd zj x) h;exact this
theorem Hx.fG(h:Hx w k i g)(x:Int):Hx (w.setCell ⟨k,1,zp⟩ (zd zj x)) k i x:=by have:=yD (i:=1) (u:=zd zj x) h;exact this
theorem Hx.drew(h:Hx w k i g):Hx w.drew k i g:=h
theorem uR:(prog.info? 78).map (fun i=>(i.zero,i.size,i.bytes))=zo (zo (zg #[zd zj 0,zd zj 0]),2,16):=by kernel_rfl
def RK(T:List (Nat×Int)):List Value:=T.flatMap fun p=> [zd zj (p.1:Nat),zd zj p.2]
theorem Og(T:List (Nat×Int))(k:Nat)(g:Int):RK T++ [zd zj k,zd zj g]=RK (T++ [(k,g)]):=by simp[RK]
theorem Oh:∀(T:List (Nat×Int)) (n i:Nat) (g:Int),T[n]?=zo (i,g)->(RK T)[n*2]?=zo (zd zj (i:Nat))/\(RK T)[n*2+1]?=zo (zd zj g)
 | [],n,i,g,h=>by simp at h
 | a::T,0,i,g,h=>by simp at h;subst h;simp[RK]
 | a::T,n+1,i,g,h=>by
  have ih:=Oh T n i g (by simpa using h);have e:RK (a::T)= [zd zj (a.1:Nat),zd zj a.2]++RK T:=by simp[RK]
  rw[e,zV (by simp;omega),zV (by simp;omega)];have A:(n+1)*2 - [zd zj (a.1:Nat),zd zj a.2].length=n*2:=by simp;omega
  have B:(n+1)*2+1 - [zd zj (a.1:Nat),zd zj a.2].length=n*2+1:=by simp;omega
  rw[A,B];exact ih
theorem Vy{base t m B:Nat}{T:List (Nat×Int)}(h:w.ownsRow base 78 2 (zf (zo ⟨t,0,zp⟩) m B) m (RK T))(n i:Nat)(g:Int)(A:T[n]?=zo (i,g))(hn:n<m):
 w.cell? ⟨t,n*2,zp⟩=zo (zd zj (i:Nat))/\w.cell? ⟨t,n*2+1,zp⟩=zo (zd zj g)/\t<w.heap.size:=by
 rw[h.cellAt (n*2) (by omega),h.cellAt (n*2+1) (by omega)];exact⟨(Oh T n i g A).1,(Oh T n i g A).2,(h.lt t rfl).2⟩
theorem Jo{base:Nat}{e:TypeId}{A:Nat}{v:Value}{n:Nat}{D:List Value}(h:w.ownsRow base e A v n D):∃a cap,v=zf a n cap:=by
 rcases h.2 with⟨B,E⟩|⟨t,cf,cur,B,_⟩
 .exact⟨zp,0,by rw[B,E]⟩
 .exact⟨_,_,B⟩
theorem Xp{base:Nat}{e:TypeId}{A:Nat}{a:Option Addr}{c n:Nat}{D:List Value}(h:w.ownsRow base e A (zf a n c) n D)(h0:0<n):∃t,a=zo ⟨t,0,zp⟩:=by
 rcases h.2 with⟨B,hn⟩|⟨t,cf,cur,B,_⟩
 .omega
 .cases B;exact⟨t,rfl⟩
def qE(A:List Bool)(TD:List Int):Nat->List (Nat×Int)
 | 0=> []
 | k+1=>qE A TD k++(if A.getD k zt then [(k,TD.getD k 0)]else [])
def OO(l:List Pl):List Bool:=l.map (·.used)
def xX(l:List Pl):List Int:=l.map (·.gen)
def Yx(l:List Pl):List (Nat×Int):=qE (OO l) (xX l) l.length
theorem CY(w:World)(base p:Nat)(v:Value)(room j d:Int)(l:List Pl)(h:yF w base p v room j d l)(hl:l.length<=4096):
 Calls prog 249 #[ze (zo ⟨p,0,zp⟩)] w fun e w'=>∃v',e=zm v'/\w'.ownsRow w.heap.size 78 2 v' (Yx l).length (RK (Yx l))/\Below w.heap.size w w':=by
 obtain⟨i0,hi,F,h0,K⟩:=info_parts uR;obtain⟨c0,c1,c2,c3⟩:=h.cell;obtain⟨av,cv,J⟩:∃a c,v=zf a l.length c:=by
  rcases h.row with⟨J,hn⟩|⟨g,H,J,_⟩
  .exact⟨zp,0,by rw[J,hn];rfl⟩
  .exact⟨_,_,J⟩
 subst J;have HP:=yw h;clear h;go_enter func249,ntmps249;go_wp2_with fail;clear c0 c1 c2 c3;go_loopw [3,13] (fun vl i wr=>∃(k m:Nat),k<=l.length/\m<=k/\i=zd zj k/\m=(qE (OO l) (xX l) k).length/\wr.ownsRow w.heap.size 78 2 vl m (RK (qE (OO l) (xX l) k))/\Below w.heap.size w wr) (fun _ i _=>l.length-(intOf i).toNat)
 case atStart=>exact⟨0,0,by omega,by omega,rfl,rfl,World.ownsRow_nil _ _ _ _,Below.refl _ _⟩
 case round=>
  obtain⟨k,m,hk,h7,rfl,hm,G,hb⟩:=hrel;obtain⟨t,o,n⟩:=Qe hm G hb;obtain⟨ar,cr,J⟩:=Jo G;subst J;clear hm G hb;have X:=n.out.size;by_cases A:k<l.length
  .have B:=yw (HP.out.behind n.out);obtain⟨q,r⟩:∃q,l[k]?=zo q:=⟨_,zy A⟩
   obtain⟨g,H,h4,h6⟩:∃g H,zf av l.length cv=zf (zo ⟨g,0,zp⟩) l.length H/\g<wr.heap.size:=by
    rcases B.out.row with⟨J,hn⟩|⟨g,H,J,_,hg,_⟩
    .rw[hn]at A;simp at A
    .exact⟨g,H,J,hg⟩
   cases h4;obtain⟨T,f⟩:=yy r;have R:=B.out.place k 0 A (by omega);have N:=B.out.place k 1 A (by omega);have O:=B.out.place k 2 A (by omega);have h1:=B.out.place k 3 A (by omega);have L:=B.out.place k 4 A (by omega);have y:=B.out.place k 5 A (by omega);rw[f]at R N O h1 L y;have V:wr.cell? ⟨g,k*6,zp⟩=zo (zd zj q.x.ui):=R;have Y:wr.cell? ⟨g,k*6+1,zp⟩=zo (zd zj q.x.ug):=N;have U:wr.cell? ⟨g,k*6+2,zp⟩=zo (zd zj q.x.dp):=O;have h5:wr.cell? ⟨g,k*6+3,zp⟩=zo (zd zj q.gen):=h1;have Q:wr.cell? ⟨g,k*6+4,zp⟩=zo (.bool q.used):=L
   have W:wr.cell? ⟨g,k*6+5,zp⟩=zo (zd zj q.next):=y;have hs:qE (OO l) (xX l) (k+1)=qE (OO l) (xX l) k++(if q.used=true then [(k,q.gen)]else []):=by
    have e1:(OO l).getD k zt=q.used:=by rw[OO,zH,zG,r];rfl
    have e2:(xX l).getD k 0=q.gen:=by rw[xX,zH,zG,r];rfl
    simp only[qE,e1,e2]
   have HS:=yw hs;clear hs R N O h1 L y r f;obtain⟨x,s,u,nx⟩:=q;simp only at V Y U h5 Q W HS;cases u with
   | false=>
    have e:qE (OO l) (xX l) (k+1)=qE (OO l) (xX l) k:=by rw[HS.out];simp
    have Z:=yw e;clear e;go_wp2_with fail;go_roundw
    case rel=>exact⟨k+1,m,by omega,by omega,by go_num,by rw[Z.out];exact t.out,by rw[Z.out];exact o.out.alloc _,n.out.alloc X _⟩
    case measure=>simp[intOf];omega
   | true=>
    have e:qE (OO l) (xX l) (k+1)=qE (OO l) (xX l) k++ [(k,s)]:=by rw[HS.out];simp
    have Z:=yw e;clear e;go_wp2_with (at_builtin;go_loud (refine wpList_append_own _ rfl _ _ 220 rfl w.heap.size 78 i0 (zg #[zd zj 0,zd zj 0]) 2 16 underlying220 hi F h0 K rfl (by decide) _ m (RK (qE (OO l) (xX l) k)) rfl ((o.out.alloc _).alloc _) ⟨wr.heap.size+1,0,zp⟩ 1 1 [zd zj k,zd zj s] rfl rfl ?c1 ?c2 ?c3 ?c4 ?c5 ?_))
    try case c1=>
     intro jj u I;have z:jj=0∨jj=1:=by have:=(yy I).1;simp at this;omega
     rcases z with rfl|rfl
     .simp at I;subst I;simp[go_sem]
     .simp at I;subst I;simp[go_sem]
    try case c2=>first|(intro u hu;simp at hu;rcases hu with rfl|rfl<;>rfl)|exact⟨rfl,rfl⟩
    try case c3=>unfold maxLen;omega
    try case c4=>omega
    try case c5=>first|omega|(simp;omega)
    intro v6 w6 E D _;have C:=yw (((n.out.alloc X (.cells #[zd zj x.ui,zd zj x.ug,zd zj x.dp,zd zj s,.bool true,zd zj nx] 211)).alloc (by simp;omega) (.cells #[zd zj k,zd zj s] 78)).grown D (by simp;omega) (fun kk T=>(o.out.lt kk T).1));have b:w6.ownsRow w.heap.size 78 2 v6 (m+1) (RK (qE (OO l) (xX l) (k+1))):=by rw[Z.out,<-Og];exact E
    have S:=yw b;have P:Hid (m+1=(qE (OO l) (xX l) (k+1)).length):=yw (by rw[Z.out,zE,<-t.out];rfl);clear E D b;go_wp2_with fail;go_roundw
    case rel=>exact⟨k+1,m+1,by omega,by omega,by go_num,P.out,S.out,C.out⟩
    case measure=>simp[intOf];omega
  .obtain rfl:k=l.length:=by omega
   have M:wr.ownsRow w.heap.size 78 2 (zf ar m cr) (Yx l).length (RK (Yx l)):=by have:=o.out;unfold Yx;rw[<-t.out];exact this
   have HF:=yw M;clear M;go_wp2;go_ret;exact⟨_,rfl,HF.out,n.out⟩
def qZ(l:List Pl):Int->List Nat->Prop
 | f,[]=>f= -1
 | f,i::r=>f=i/\∃q,l[i]?=zo q/\q.used=zt/\qZ l q.next r
theorem vH(l:List Pl)(k:Nat)(q:Pl):∀(st:List Nat) (f:Int),k∉st->qZ l f st->qZ (l.set k q) f st
 | [],_,_,h=>h
 | i::r,f,hk,h=>by obtain⟨rfl,q',G,D,E⟩:=h;have A:k≠i:=fun e=>hk (by rw[e];exact List.mem_cons_self ..);exact⟨rfl,q',by rw[zC A];exact G,D,vH l k q r _ (fun B=>hk (List.mem_cons_of_mem _ B)) E⟩
theorem Qw(l:List Pl)(q:Pl):∀(st:List Nat) (f:Int),qZ l f st->qZ (l++ [q]) f st
 | [],_,h=>h
 | i::r,f,h=>by obtain⟨rfl,q',A,B,D⟩:=h;exact⟨rfl,q',by rw[zF (yy A).1];exact A,B,Qw l q r _ D⟩
theorem Qy(l:List Pl):∀(st:List Nat) (f:Int),qZ l f st->∀k∈st,∃q,l[k]?=zo q/\q.used=zt
 | [],_,_,k,hk=>by simp at hk
 | i::r,_,h,k,hk=>by
  obtain⟨rfl,q',D,A,B⟩:=h;rcases List.mem_cons.1 hk with rfl|hk
  .exact⟨q',D,A⟩
  .exact Qy l r _ B k hk
structure Ps where
 l:List Pl
 free:Int
 st:List Nat
 many:Int
structure Ps.Ok(s:Ps)(room:Int)(b:Nat):Prop where
 chain:qZ s.l s.free s.st
 nodup:s.st.Nodup
 len:s.l.length<=b
 fX:s.st.length<=b
 TD:∀(k:Nat) (q:Pl),s.l[k]?=zo q->0<=q.gen/\q.gen<=b
 many:s.many=s.l.length-s.st.length
 room:(s.l.length:Int)<=room
 fY:(s.l.countP (·.used):Int)=s.many
theorem Ps.Ok.more{s:Ps}{room:Int}(h:s.Ok room b):s.Ok room (b+1):=
 ⟨h.chain,h.nodup,by have:=h.len;omega,by have:=h.fX;omega,fun k q A=>by have:=h.TD k q A;omega,h.many,h.room,h.fY⟩
theorem Ps.Ok.start(room:Int)(h:1<=room):(⟨[],-1,[],0⟩:Ps).Ok room 0:=⟨rfl,List.nodup_nil,by simp,by simp,fun k q h=>by simp at h,by simp,by simp;omega,by simp⟩
def Ps.put(s:Ps)(room:Int)(x:SZ):Ps:=
 if s.many=room then s else match s.st with
  | []=>⟨s.l++ [⟨x,0,true,-1⟩],-1,[],s.many+1⟩
  | k::st=>⟨s.l.set k ⟨x,(s.l.getD k ⟨.zero,0,zt,0⟩).gen,true,-1⟩,(s.l.getD k ⟨.zero,0,zt,0⟩).next,st,s.many+1⟩
def Ps.RL(s:Ps)(room:Int):Nat:=if s.many=room then 0 else match s.st with
 | []=>s.l.length
 | k::_=>k
def Ps.SU(s:Ps)(room:Int):Int:=if s.many=room then 0 else match s.st with
 | []=>0
 | k::_=>(s.l.getD k ⟨.zero,0,zt,0⟩).gen
def Ps.SD(s:Ps)(room:Int):Int:=if s.many=room then 3 else 0
def Ps.find(s:Ps)(i g:Int):Option Nat:=match s.l[i.toNat]? with
 | none=>zp
 | some q=>if 0<=i/\q.used=true/\q.gen=g then zo i.toNat else zp
theorem ud{s:Ps}(h:s.find i g=zo k):∃q,Qv s.l i g k q/\s.l.getD k ⟨.zero,0,zt,0⟩=q:=by
 unfold Ps.find at h;split at h
 .cases h
 .rename_i q A;split at h
  .rename_i B;cases h;exact⟨q,⟨by omega,A,B.2.1,B.2.2⟩,by rw[zH,A];rfl⟩
  .cases h
theorem Vz{s:Ps}(h:s.find i g=zp):vk s.l i g:=by rintro k q ⟨rfl,A,B,D⟩;unfold Ps.find at h;rw[show((k:Int).toNat)=k by simp,A]at h;simp only at h;rw[if_pos ⟨by omega,B,D⟩]at h;cases h
def Ps.SJ(s:Ps)(i g:Int):SZ:=match s.find i g with
 | none=>.zero
 | some k=>(s.l.getD k ⟨.zero,0,zt,0⟩).x
def Ps.RS(s:Ps)(i g:Int):Int:=match s.find i g with
 | none=>2
 | some _=>0
def Ps.set(s:Ps)(i g:Int)(x:SZ):Ps:=match s.find i g with
 | none=>s
 | some k=>⟨s.l.set k ⟨x,(s.l.getD k ⟨.zero,0,zt,0⟩).gen,(s.l.getD k ⟨.zero,0,zt,0⟩).used,(s.l.getD k ⟨.zero,0,zt,0⟩).next⟩,s.free,s.st,s.many⟩
def Ps.bB(s:Ps)(i g:Int):Ps:=match s.find i g with
 | none=>s
 | some k=>⟨s.l.set k ⟨.zero,(s.l.getD k ⟨.zero,0,zt,0⟩).gen+1,zt,s.free⟩,k,k::s.st,s.many-1⟩
theorem Ps.Ok.put{s:Ps}{room:Int}(h:s.Ok room b)(x:SZ):(s.put room x).Ok room (b+1):=by
 unfold Ps.put;split
 .exact h.more
 .rename_i hm;have A:=h.many;have h1:=h.len;have G:=h.fX;have I:=h.room;cases hst:s.st with
  | nil=>
   have J:=h.chain;rw[hst]at J A;have R:s.free= -1:=J;rw[R]at J;simp at A;have h0:=h.fY;refine⟨Qw s.l _ [] (-1) J,List.nodup_nil,by simp;omega,by simp,?_,by simp;omega,by simp;omega,by simp[List.countP_append];omega⟩;intro k q B;by_cases hk:k<s.l.length
   .rw[zF hk]at B;have:=h.TD k q B;omega
   .rw[zV (by omega)]at B;have N:k-s.l.length=0:=by have:=(yy B).1;simpa using this
    rw[N]at B;simp at B;subst B;simp;omega
  | cons k st=>
   have J:=h.chain;have M:=h.nodup;rw[hst]at J A M G;obtain⟨R,q,B,V,O⟩:=J;have H:=(yy B).1;have U:s.l.getD k ⟨.zero,0,zt,0⟩=q:=by rw[zH,B];rfl
   have E:=List.nodup_cons.1 M;simp at A G;simp only[U];refine⟨vH s.l k _ st _ E.1 O,E.2,by simp;omega,by show st.length<=b+1;omega,?_,by simp;omega,by simpa using I,by have:=h.fY;rw[List.countP_set H,show s.l[k]=q by simpa[zy H]using B];simp[V];omega⟩;intro j q' D;by_cases T:k=j
   .subst T;rw[zT H]at D;cases D;have:=h.TD k q B;simp;omega
   .rw[zC T]at D;have:=h.TD j q' D;omega
theorem Ps.Ok.bB{s:Ps}{room:Int}(h:s.Ok room b)(i g:Int):(s.bB i g).Ok room (b+1):=by
 unfold Ps.bB;split
 .exact h.more
 .rename_i k hk;obtain⟨q,⟨_,D,H,hg⟩,hd⟩:=ud hk;rw[hd];have B:=(yy D).1;have G:k∉s.st:=by intro J;obtain⟨q',A,E⟩:=Qy s.l s.st s.free h.chain k J;rw[D]at A;cases A;rw[H]at E;cases E
  have h0:=h.many;have h1:=h.fX;refine⟨⟨rfl,_,zT B,rfl,vH s.l k _ s.st s.free G h.chain⟩,List.nodup_cons.2 ⟨G,h.nodup⟩,by have:=h.len;simp;omega,by simp;omega,?_,by simp;omega,by simpa using h.room,?_⟩
  rotate_left
  .have hp:0<s.l.countP (·.used):=List.countP_pos_iff.2 ⟨q,List.mem_of_getElem? D,H⟩;have:=h.fY;rw[List.countP_set B,show s.l[k]=q by simpa[zy B]using D];simp[H];omega
  intro j q' A;by_cases I:k=j
  .subst I;rw[zT B]at A;cases A;have:=h.TD k q D;simp;omega
  .rw[zC I]at A;have:=h.TD j q' A;omega
def bE(w:World)(base p:Nat)(room:Int)(s:Ps):Prop:=∃v,yF w base p v room s.many s.free s.l
theorem yF.TE{base p:Nat}{v:Value}{room D B:Int}{l:List Pl}(h:yF w base p v room D B l){q:Pl}(E:l[k]?=zo q):∃g A,v=zf (zo ⟨g,0,zp⟩) l.length A:=by
 rcases h.row with⟨_,H⟩|⟨g,A,G,_⟩
 .rw[H]at E;simp at E
 .exact⟨g,A,G⟩
theorem Ps.Ok.lo{s:Ps}{room:Int}(h:s.Ok room b)(hb:b<=1000):s.l.length<=1000/\s.st.length<=1000/\ -1000000<=s.many/\s.many<=4096/\s.many<=room:=by have h1:=h.len;have h2:=h.fX;have h3:=h.many;have h4:=h.room;omega
theorem bO(x:SZ)(b:Nat)(w:World)(base p:Nat)(room:Int)(s:Ps)(h:bE w base p room s)(U:s.Ok room b)(hb:b<=1000)(A:base<=w.heap.size):
 Calls prog 68 #[ze (zo ⟨p,0,zp⟩),zg (yU x)] w fun e w'=>e=zm (zi #[zg #[zd zj (s.RL room:Nat),zd zj (s.SU room)],zd zj (s.SD room)])/\bE w' base p room (s.put room x)/\OB base p w w':=by
 obtain⟨v,h⟩:=h;obtain⟨b1,b2,b3,b4,b5⟩:=U.lo hb;by_cases B:s.many=room
 .have N:s.RL room=0:=if_pos B;have I:s.SU room=0:=if_pos B;have O:s.SD room=3:=if_pos B;have R:s.put room x=s:=if_pos B;rw[N,I,O,R];exact(Gd x w base p v room s.many s.free s.l h B).mono fun e w' ⟨E,T⟩=>⟨E,⟨v,h.behind T⟩,OB.NZ T A⟩
 .have O:s.SD room=0:=if_neg B;have N:s.RL room=match s.st with | []=>s.l.length|k::_=>k:=if_neg B
  have I:s.SU room=match s.st with | []=>0|k::_=>(s.l.getD k ⟨.zero,0,zt,0⟩).gen:=if_neg B
  have R:s.put room x=match s.st with
   | []=>⟨s.l++ [⟨x,0,true,-1⟩],-1,[],s.many+1⟩
   | k::st=>⟨s.l.set k ⟨x,(s.l.getD k ⟨.zero,0,zt,0⟩).gen,true,-1⟩,(s.l.getD k ⟨.zero,0,zt,0⟩).next,st,s.many+1⟩:=if_neg B
  rw[N,I,O,R];have G:=U.chain;cases hst:s.st with
  | nil=>
   rw[hst]at G;have M:s.free= -1:=G;rw[M]at h;exact(Ge x w base p v room s.many s.l h (by omega) (by omega) (by omega) A).mono fun e w' ⟨E,g,D,J,hs⟩=>⟨E,⟨_,J⟩,hs⟩
  | cons k st=>
   rw[hst]at G;obtain⟨M,q,H,hu,h0⟩:=G;obtain⟨g,D,rfl⟩:=h.TE H;have V:s.l.getD k ⟨.zero,0,zt,0⟩=q:=by rw[zH,H];rfl
   rw[M]at h;simp only[V];exact(Ds x k q w base p g D _ room s.many s.l h (by omega) H (by omega) (by omega) A).mono fun e w' ⟨E,J,hs⟩=>⟨E,⟨_,J⟩,hs⟩
theorem MU(i g:Int)(b:Nat)(w:World)(base p:Nat)(room:Int)(s:Ps)(h:bE w base p room s)(D:s.Ok room b)(hb:b<=1000):
 Calls prog 119 #[ze (zo ⟨p,0,zp⟩),zg #[zd zj i,zd zj g]] w fun e w'=>e=zm (zi #[zg (yU (s.SJ i g)),zd zj (s.RS i g)])/\Below w.heap.size w w':=by
 obtain⟨v,h⟩:=h;obtain⟨b1,b2,b3,b4,b5⟩:=D.lo hb;unfold Ps.SJ Ps.RS;cases hf:s.find i g with
 | none=>exact CU i g w base p v room s.many s.free s.l h (by omega) (Vz hf)
 | some k=>
  obtain⟨q,B,hd⟩:=ud hf;obtain⟨gb,A,rfl⟩:=h.TE B.2.1;simp only[hd];exact CX i g k q w base p gb A _ room s.many s.free s.l h (by omega) B
theorem CZ(i g:Int)(x:SZ)(b:Nat)(w:World)(base p:Nat)(room:Int)(s:Ps)(h:bE w base p room s)(I:s.Ok room b)(hb:b<=1000)(A:base<=w.heap.size):
 Calls prog 128 #[ze (zo ⟨p,0,zp⟩),zg #[zd zj i,zd zj g],zg (yU x)] w fun e w'=>e=zm (zd zj (s.RS i g))/\bE w' base p room (s.set i g x)/\OB base p w w':=by
 obtain⟨v,h⟩:=h;obtain⟨b1,b2,b3,b4,b5⟩:=I.lo hb;unfold Ps.set Ps.RS;cases hf:s.find i g with
 | none=>exact(CV i g x w base p v room s.many s.free s.l h (by omega) (Vz hf)).mono fun e w' ⟨D,E⟩=>⟨D,⟨v,h.behind E⟩,OB.NZ E A⟩
 | some k=>
  obtain⟨q,G,hd⟩:=ud hf;obtain⟨gb,B,rfl⟩:=h.TE G.2.1;simp only[hd];exact(CW i g x k q w base p gb B _ room s.many s.free s.l h (by omega) G A).mono fun e w' ⟨D,H,hs⟩=>⟨D,⟨_,H⟩,hs⟩
theorem cP(i g:Int)(b:Nat)(w:World)(base p:Nat)(room:Int)(s:Ps)(h:bE w base p room s)(H:s.Ok room b)(hb:b<=1000)(A:base<=w.heap.size):
 Calls prog 125 #[ze (zo ⟨p,0,zp⟩),zg #[zd zj i,zd zj g]] w fun e w'=>e=zm (zi #[zg (yU (s.SJ i g)),zd zj (s.RS i g)])/\bE w' base p room (s.bB i g)/\OB base p w w':=by
 obtain⟨v,h⟩:=h;obtain⟨b1,b2,I,N,b5⟩:=H.lo hb;unfold Ps.bB Ps.SJ Ps.RS;cases hf:s.find i g with
 | none=>exact(Dp i g w base p v room s.many s.free s.l h (by omega) (Vz hf)).mono fun e w' ⟨E,G⟩=>⟨E,⟨v,h.behind G⟩,OB.NZ G A⟩
 | some k=>
  obtain⟨q,D,hd⟩:=ud hf;obtain⟨gb,B,rfl⟩:=h.TE D.2.1;have J:=H.TD k q D.2.1;simp only[hd];exact(Dr i g k q w base p gb B _ room s.many s.free s.l h (by omega) D ⟨J.1,by omega⟩ ⟨I,N⟩ A).mono fun e w' ⟨E,M,hs⟩=>⟨E,⟨_,M⟩,hs⟩
theorem Cq(l:List Pl):∀k,k<=l.length->(qE (OO l) (xX l) k).length=(l.take k).countP (·.used)
 | 0,_=>by simp[qE]
 | k+1,h=>by
  have ih:=Cq l k (by omega);have hk:l.take (k+1)=l.take k++ [l[k]]:=by rw[List.take_append_getElem]
  have A:(OO l).getD k zt=l[k].used:=by rw[zH,OO,zG,zy (by omega)];rfl
  simp only[qE,zE,ih,hk,List.countP_append,A];cases hb:l[k].used<;>simp[hb]
theorem Tr.more{l H:List Pl}(h:Tr l)(I:∀(k:Nat) (q:Pl),l[k]?=zo q->q.used=true->H[k]?=zo q)
 (J:∀(k:Nat) (q:Pl),H[k]?=zo q->q.used=true->l[k]?=zo q∨(k≠0/\∃(j:Nat) (p:Pl),l[j]?=zo p/\p.used=true/\q.x=⟨j,j,p.gen,p.x.dp+1⟩/\1<=q.x.dp/\q.x.dp<=8)):Tr H:=by
 refine⟨?_,?_⟩
 .obtain⟨q,E,B,M⟩:=h.root;exact⟨q,I 0 q E B,B,M⟩
 .intro k q E B hk;rcases J k q E B with N|⟨_,j,p,G,A,D⟩
  .obtain⟨j,p,G,A,D⟩:=h.fW k q N B hk;exact⟨j,p,I j p G A,A,D⟩
  .exact⟨j,p,I j p G A,A,D⟩
theorem Tr.less{l:List Pl}(h:Tr l)(hk:k≠0)(G:∀(j:Nat) (q:Pl),l[j]?=zo q->q.used=true->j≠0->q.x.ui≠k)(q':Pl)(I:q'.used=zt):Tr (l.set k q'):=by
 refine⟨?_,?_⟩
 .obtain⟨q,I,B,T⟩:=h.root;exact⟨q,by rw[zC hk];exact I,B,T⟩
 .intro j q A B E;by_cases D:k=j
  .subst D;by_cases R:k<l.length
   .rw[zT R]at A;cases A;rw[I]at B;cases B
   .rw[List.getElem?_eq_none (by simp;omega)]at A;cases A
  .rw[zC D]at A;obtain⟨i,p,M,O,J,N⟩:=h.fW j q A B E;have:=G j q A B E;have H:k≠i:=by rintro rfl;rw[J]at this;exact this rfl
   exact⟨i,p,by rw[zC H];exact M,O,J,N⟩
theorem Tr.put{s:Ps}(h:Tr s.l)(T:s.Ok 32 b){q:Pl}(J:s.l[k]?=zo q)(M:q.used=true)(hd:q.x.dp<8):Tr (s.put 32 ⟨k,k,q.gen,q.x.dp+1⟩).l:=by
 have h0:=h.dp J M;unfold Ps.put;split
 .exact h
 .have R:=T.chain;cases hst:s.st with
  | nil=>
   refine h.more (fun j p A H=>by rw[zF (yy A).1];exact A) (fun j p A H=>?_);by_cases U:j<s.l.length
   .rw[zF U]at A;exact .inl A
   .rw[zV (by omega)]at A;have G:j-s.l.length=0:=by have:=(yy A).1;simpa using this
    rw[G]at A;simp at A;subst A;have h3:=(yy J).1;exact .inr ⟨by omega,k,q,J,M,rfl,by show 1<=q.x.dp+1;omega,by show q.x.dp+1<=8;omega⟩
  | cons j st=>
   rw[hst]at R;obtain⟨hf,q0,E,I,h4⟩:=R;have G:j≠0:=by rintro rfl;obtain⟨q1,O,N,_⟩:=h.root;rw[E]at O;cases O;rw[I]at N;cases N
   refine h.more (fun i p D H=>?_) (fun i p D H=>?_)
   .have B:j≠i:=by rintro rfl;rw[E]at D;cases D;rw[I]at H;cases H
    rw[zC B];exact D
   .by_cases B:j=i
    .subst B;rw[zT (yy E).1]at D;cases D;exact .inr ⟨G,k,q,J,M,rfl,by show 1<=q.x.dp+1;omega,by show q.x.dp+1<=8;omega⟩
    .rw[zC B]at D;exact .inl D
def Ps.cT(s:Ps)(i g:Int):Ps:=match s.find i g with
 | none=>s
 | some k=>if dep s.l k=8 then s else s.put 32 ⟨k,k,g,dep s.l k+1⟩
def Ps.TO(s:Ps)(i g:Int):Nat:=match s.find i g with
 | none=>0
 | some k=>if dep s.l k=8 then 0 else s.RL 32
def Ps.cA(s:Ps)(i g:Int):Int:=match s.find i g with
 | none=>0
 | some k=>if dep s.l k=8 then 0 else s.SU 32
def Ps.AK(s:Ps)(i g:Int):Int:=match s.find i g with
 | none=>2
 | some k=>if dep s.l k=8 then 5 else s.SD 32
theorem Tr.cT{s:Ps}(h:Tr s.l)(D:s.Ok 32 b)(i g:Int):Tr (s.cT i g).l:=by
 unfold Ps.cT;split
 .exact h
 .rename_i k hk;split
  .exact h
  .rename_i hd;obtain⟨q,⟨_,A,B,G⟩,_⟩:=ud hk;obtain⟨h1,h2,h3,E⟩:=h.dp A B;have:=h.put D A B (by omega);rw[G,E]at this;exact this
theorem Ps.Ok.cT{s:Ps}(h:s.Ok 32 b)(i g:Int):(s.cT i g).Ok 32 (b+1):=by
 unfold Ps.cT;split
 .exact h.more
 .split
  .exact h.more
  .exact h.put _
def eY:Ps:=⟨[⟨⟨-1,0,0,0⟩,0,true,-1⟩],-1,[],1⟩
theorem MX:Tr eY.l:=by refine⟨⟨_,rfl,rfl,rfl,rfl⟩,?_⟩;intro k q A hu hk;have:=(yy A).1;simp[eY]at this;exact absurd this hk
theorem JE:(⟨[],-1,[],0⟩:Ps).put 32 ⟨-1,0,0,0⟩=eY:=by simp[Ps.put,eY]
theorem MY:eY.Ok 32 1:=by rw[<-JE];exact(Ps.Ok.start 32 (by omega)).put _
def Rv(l:List Int)(i:Nat)(d:List Int):Prop:=d.length=l.length/\∀m,m<l.length->d[m]?=if m<i∨l.length-1-i<m then l[l.length-1-m]? else l[m]?
theorem Rv.start(l:List Int):Rv l 0 l:=⟨rfl,fun m hm=>by rw[if_neg (by omega)]⟩
theorem Rv.done{l d:List Int}{i:Nat}(h:Rv l i d)(hi:l.length-1<=i+i):d=l.reverse:=by
 apply List.ext_getElem?;intro m;by_cases A:m<l.length
 .rw[h.2 m A,List.getElem?_reverse A];by_cases B:m<i∨l.length-1-i<m
  .rw[if_pos B]
  .rw[if_neg B];have:m=l.length-1-m:=by omega
   rw[<-this]
 .rw[List.getElem?_eq_none (by rw[h.1];omega),List.getElem?_eq_none (by rw[List.length_reverse];omega)]
theorem Rv.step{l d:List Int}{i:Nat}(h:Rv l i d)(hi:i<l.length-1-i)(a b:Int)(G:d[i]?=zo a)(hb:d[l.length-1-i]?=zo b):Rv l (i+1) ((d.set i b).set (l.length-1-i) a):=by
 refine⟨by simp[h.1],fun m E=>?_⟩;have B:=h.2 i (by omega);have A:=h.2 (l.length-1-i) (by omega);rw[if_neg (by omega),G]at B;rw[if_neg (by omega),hb]at A;by_cases I:m=l.length-1-i
 .subst I;rw[zT (by simp[h.1];omega),if_pos (by omega),B]
  congr 1;omega
 .rw[zC (by omega)];by_cases H:m=i
  .subst H;rw[zT (by rw[h.1];omega),if_pos (by omega),A]
  .rw[zC (by omega),h.2 m E];by_cases D:m<i∨l.length-1-i<m
   .rw[if_pos D,if_pos (by omega)]
   .rw[if_neg D,if_neg (by omega)]
theorem JD(l:List Int)(k:Nat)(x:Int):(iv l).set k (zd zj x)=iv (l.set k x):=by rw[iv,iv,List.map_set]
theorem Sn(base g n A:Nat)(l:List Int)(w:World)(h:w.ownsRow base 3 1 (zf (zo ⟨g,0,zp⟩) n A) n (iv l))(Z:n=l.length)(hb:n<=1000):
 Calls prog 196 #[zf (zo ⟨g,0,zp⟩) n A] w fun e w'=>e=zm (zi #[])/\w'.ownsRow base 3 1 (zf (zo ⟨g,0,zp⟩) n A) n (iv l.reverse)/\OA (· =g) w w':=by
 have H:=yw h;have N:=yw Z;clear h Z;go_enter func196,ntmps196;go_wp2_with fail;go_loopg [2,3] n (fun k o r wr=>∃(i:Nat) (d:List Int),o=zd zj i/\r=zd zj ((n:Int) -1-i)/\i<=n/\n-i<=k/\Rv l i d/\wr.ownsRow base 3 1 (zf (zo ⟨g,0,zp⟩) n A) n (iv d)/\OA (· =g) w wr)
 case atStart=>exact⟨0,l,rfl,by simp,by omega,by omega,Rv.start l,H.out,OA.refl _ _⟩
 case round=>
  obtain⟨i,d,rfl,rfl,h3,hk,M,D,E⟩:=hrel;obtain⟨U,J,f⟩:=Qe M D E;clear M D E;by_cases R:i<n-1-i
  .obtain⟨j,c⟩:=yB (n-1-i)
   have G:(n:Int) -1-i=(j:Int):=by omega
   rw[G];have B:d.length=n:=by rw[U.out.1,N.out]
   obtain⟨a,T⟩:∃a,d[i]?=zo a:=⟨_,zy (by omega)⟩
   obtain⟨b,I⟩:∃b,d[j]?=zo b:=⟨_,zy (by omega)⟩
   have ci:=MG J.out B.symm i a T;have cj:=MG J.out B.symm j b I;have fi:=J.out.frozenAt i;have fj:=J.out.frozenAt j;have h0:i<j:=by omega
   have h4:j<n:=by omega
   obtain⟨X,O,h6,h5⟩:=Qf (And.intro T I) c B G;clear B T I c G R;go_wp2_with fail;go_region;go_wp2;go_roundg (n-(i+1))
   case measure=>omega
   case rel=>
    have p:(n:Int) -1-((i+1:Nat):Int)=(j:Int) -1:=by have:=O.out;omega
    have q:Rv l (i+1) ((d.set i b).set j a):=by have:=U.out.step (by have:=N.out;have:=O.out;omega) a b X.out.1 (by have:=X.out.2;rw[O.out,N.out]at this;exact this);rw[O.out,N.out];exact this
    have Y:(((wr.setCell ⟨g,i,zp⟩ (zd zj b)).setCell ⟨g,j,zp⟩ (zd zj a))).ownsRow base 3 1 (zf (zo ⟨g,0,zp⟩) n A) n (iv ((d.set i b).set j a)):=by have V:=(J.out.stored i (zd zj b)).1;rw[JD]at V;have m:=(V.stored j (zd zj a)).1;rwa[JD]at m
    exact⟨i+1,_,by go_num,by rw[p],by omega,yA _,q,⟨Y.1,Y.2⟩,((f.out.setCell (.inl rfl) _).setCell (.inl rfl) _).drew⟩
  .go_wp2;go_end0;have hd:d=l.reverse:=U.out.done (by have:=N.out;omega);rw[<-hd];exact⟨rfl,J.out,f.out⟩
theorem So(a:Option Addr)(A:Nat)(w:World):
 Calls prog 196 #[zf a 0 A] w fun e w'=>e=zm (zi #[])/\w=w':=by
 go_enter func196,ntmps196;go_wp2_with fail;go_loopg [2,3] 0 (fun _ D B wr=>D=zd zj 0/\B=zd zj (-1)/\w=wr)
 case atStart=>exact⟨rfl,rfl,rfl⟩
 case round=>
  obtain⟨rfl,rfl,rfl⟩:=hrel;go_wp2;go_end0;exact⟨rfl,rfl⟩
