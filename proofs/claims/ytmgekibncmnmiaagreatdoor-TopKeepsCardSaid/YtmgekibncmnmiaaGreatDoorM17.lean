/- Parts of the proof of the law TopKeeps: contracts of the functions that it reaches, and plain laws of what they compute. Conditions: those in each statement. -/
import Derived.Maps.AppendAt
import Derived.Test.YtmgekibncmnmiaaGreatDoorM09
import Derived.Test.YtmgekibncmnmiaaGreatDoorM15
set_option linter.unusedVariables false
set_option maxRecDepth 100000
set_option maxHeartbeats 4000000
open Go.Proofs.Tryz
namespace Go.Proofs.YtmgekibncmnmiaaGreatDoor
open Go Go.RowKit Go.ChangeShapes Go.WideShapes
theorem Hx.zsD{w:World}{k:Nat}{i g:Int}(h:Hx w k i g)(x:Int):Hx (w.setCell ⟨k,0,none⟩ (.int .i64 x)) k x g:=by have:=zi (i:=0) (u:=.int .i64 x) h;exact this
theorem Hx.zsR{w:World}{k:Nat}{i g:Int}(h:Hx w k i g)(x:Int):Hx (w.setCell ⟨k,1,none⟩ (.int .i64 x)) k i x:=by have:=zi (i:=1) (u:=.int .i64 x) h;exact this
theorem Hx.drew{w:World}{k:Nat}{i g:Int}(h:Hx w k i g):Hx w.drew k i g:=h
def zre(T:List (Nat×Int)):List Value:=T.flatMap fun p=> [.int .i64 (p.1:Nat),.int .i64 p.2]
theorem zmo{w:World}{base:Nat}{e:TypeId}{size:Nat}{v:Value}{n:Nat}{xs:List Value}(h:w.ownsRow base e size v n xs):∃a cap,v=.slice a n cap:=by
 rcases h.2 with⟨A,B⟩ | ⟨t,cf,cur,A,_⟩
 ·exact⟨none,0,by rw[A,B]⟩
 ·exact⟨_,_,A⟩
theorem zkr{w:World}{base:Nat}{e:TypeId}{size:Nat}{a:Option Addr}{c n:Nat}{xs:List Value}(h:w.ownsRow base e size (.slice a n c) n xs)(h0:0<n):∃t,a=some ⟨t,0,none⟩:=by
 rcases h.2 with⟨A,hn⟩ | ⟨t,cf,cur,A,_⟩
 ·omega
 ·cases A;exact⟨t,rfl⟩
def zon(used:List Bool)(zq2:List Int):Nat->List (Nat×Int)
 | 0=> []
 | k+1=>zon used zq2 k++(if used.getD k false then [(k,zq2.getD k 0)]else [])
def zoB(l:List Pl):List Bool:=l.map (·.used)
def zoC(l:List Pl):List Int:=l.map (·.gen)
def allL(l:List Pl):List (Nat×Int):=zon (zoB l) (zoC l) l.length
def xS(l:List Pl):Int->List Nat->Prop
 | f,[]=>f= -1
 | f,i::r=>f=i/\∃q,l[i]?=some q/\q.used=false/\xS l q.next r
theorem qe(l:List Pl)(k:Nat)(q:Pl):∀(st:List Nat) (f:Int),k∉st->xS l f st->xS (l.set k q) f st
 | [],_,_,h=>h
 | i::r,f,hk,h=>by obtain⟨rfl,q',E,B,D⟩:=h;have A:k≠i:=fun e=>hk (by rw[e];exact List.mem_cons_self ..);exact⟨rfl,q',by rw[List.getElem?_set_ne A];exact E,B,qe l k q r _ (fun hm=>hk (List.mem_cons_of_mem _ hm)) D⟩
theorem vp(l:List Pl)(q:Pl):∀(st:List Nat) (f:Int),xS l f st->xS (l++ [q]) f st
 | [],_,h=>h
 | i::r,f,h=>by obtain⟨rfl,q',A,B,D⟩:=h;exact⟨rfl,q',by rw[List.getElem?_append_left (ze A).1];exact A,B,vp l q r _ D⟩
structure Ps where
 l:List Pl
 free:Int
 st:List Nat
 many:Int
structure Ps.Ok(s:Ps)(room:Int)(b:Nat):Prop where
 chain:xS s.l s.free s.st
 nodup:s.st.Nodup
 len:s.l.length<=b
 ztg:s.st.length<=b
 zq2:∀(k:Nat) (q:Pl),s.l[k]?=some q->0<=q.gen/\q.gen<=b
 many:s.many=s.l.length-s.st.length
 room:(s.l.length:Int)<=room
 zth:(s.l.countP (·.used):Int)=s.many
theorem Ps.Ok.more{s:Ps}{room:Int}{b:Nat}(h:s.Ok room b):s.Ok room (b+1):=
 ⟨h.chain,h.nodup,by have:=h.len;omega,by have:=h.ztg;omega,fun k q A=>by have:=h.zq2 k q A;omega,h.many,h.room,h.zth⟩
theorem Ps.Ok.start(room:Int)(h:1<=room):(⟨[],-1,[],0⟩:Ps).Ok room 0:=⟨rfl,List.nodup_nil,by simp,by simp,fun k q h=>by simp at h,by simp,by simp;omega,by simp⟩
def Ps.put(s:Ps)(room:Int)(x:zrf):Ps:=
 if s.many=room then s else match s.st with
  | []=>⟨s.l++ [⟨x,0,true,-1⟩],-1,[],s.many+1⟩
  | k::st=>⟨s.l.set k ⟨x,(s.l.getD k ⟨.zero,0,false,0⟩).gen,true,-1⟩,(s.l.getD k ⟨.zero,0,false,0⟩).next,st,s.many+1⟩
def Ps.zp8(s:Ps)(room:Int):Nat:=if s.many=room then 0 else match s.st with
 | []=>s.l.length
 | k::_=>k
def Ps.zqC(s:Ps)(room:Int):Int:=if s.many=room then 0 else match s.st with
 | []=>0
 | k::_=>(s.l.getD k ⟨.zero,0,false,0⟩).gen
def Ps.zqe(s:Ps)(room:Int):Int:=if s.many=room then 3 else 0
def Ps.find(s:Ps)(i g:Int):Option Nat:=match s.l[i.toNat]? with
 | none=>none
 | some q=>if 0<=i/\q.used=true/\q.gen=g then some i.toNat else none
theorem ztR{s:Ps}{i g:Int}{k:Nat}(h:s.find i g=some k):∃q,zar s.l i g k q/\s.l.getD k ⟨.zero,0,false,0⟩=q:=by
 unfold Ps.find at h;split at h
 ·cases h
 ·rename_i q A;split at h
  ·rename_i B;cases h;exact⟨q,⟨by omega,A,B.2.1,B.2.2⟩,by rw[List.getD_eq_getElem?_getD,A];rfl⟩
  ·cases h
theorem zfw{s:Ps}{i g:Int}(h:s.find i g=none):qd s.l i g:=by rintro k q ⟨rfl,A,hu,B⟩;unfold Ps.find at h;rw[show((k:Int).toNat)=k by simp,A]at h;simp only at h;rw[if_pos ⟨by omega,hu,B⟩]at h;cases h
def Ps.zqU(s:Ps)(i g:Int):zrf:=match s.find i g with
 | none=>.zero
 | some k=>(s.l.getD k ⟨.zero,0,false,0⟩).x
def Ps.zqO(s:Ps)(i g:Int):Int:=match s.find i g with
 | none=>2
 | some _=>0
theorem Ps.Ok.put{s:Ps}{room:Int}{b:Nat}(h:s.Ok room b)(x:zrf):(s.put room x).Ok room (b+1):=by
 unfold Ps.put;split
 ·exact h.more
 ·rename_i hm;have A:=h.many;have hlen:=h.len;have G:=h.ztg;have I:=h.room;cases hst:s.st with
  | nil=>
   have J:=h.chain;rw[hst]at J A;have R:s.free= -1:=J;rw[R]at J;simp at A;have h0:=h.zth;refine⟨vp s.l _ [] (-1) J,List.nodup_nil,by simp;omega,by simp,?_,by simp;omega,by simp;omega,by simp[List.countP_append];omega⟩;intro k q B;by_cases V:k<s.l.length
   ·rw[List.getElem?_append_left V]at B;have:=h.zq2 k q B;omega
   ·rw[List.getElem?_append_right (by omega)]at B;have N:k-s.l.length=0:=by have:=(ze B).1;simpa using this
    rw[N]at B;simp at B;subst B;simp;omega
  | cons k st=>
   have J:=h.chain;have M:=h.nodup;rw[hst]at J A M G;obtain⟨R,q,B,hu,O⟩:=J;have H:=(ze B).1;have U:s.l.getD k ⟨.zero,0,false,0⟩=q:=by rw[List.getD_eq_getElem?_getD,B];rfl
   have E:=List.nodup_cons.1 M;simp at A G;simp only[U];refine⟨qe s.l k _ st _ E.1 O,E.2,by simp;omega,by show st.length<=b+1;omega,?_,by simp;omega,by simpa using I,by have:=h.zth;rw[List.countP_set H,show s.l[k]=q by simpa[List.getElem?_eq_getElem H]using B];simp[hu];omega⟩;intro j q' D;by_cases T:k=j
   ·subst T;rw[List.getElem?_set_self H]at D;cases D;have:=h.zq2 k q B;simp;omega
   ·rw[List.getElem?_set_ne T]at D;have:=h.zq2 j q' D;omega
def zrJ(w:World)(base p:Nat)(room:Int)(s:Ps):Prop:=∃v,zm w base p v room s.many s.free s.l
theorem zm.zq9{w:World}{base p:Nat}{v:Value}{room many free:Int}{l:List Pl}(h:zm w base p v room many free l){k:Nat}{q:Pl}(A:l[k]?=some q):∃g cap,v=.slice (some ⟨g,0,none⟩) l.length cap:=by
 rcases h.row with⟨_,D⟩ | ⟨g,cap,B,_⟩
 ·rw[D]at A;simp at A
 ·exact⟨g,cap,B⟩
theorem Ps.Ok.lo{s:Ps}{room:Int}{b:Nat}(h:s.Ok room b)(hb:b<=1000):s.l.length<=1000/\s.st.length<=1000/\ -1000000<=s.many/\s.many<=4096/\s.many<=room:=by have h1:=h.len;have h2:=h.ztg;have h3:=h.many;have h4:=h.room;omega
theorem zrw(x:zrf)(b:Nat)(w:World)(base p:Nat)(room:Int)(s:Ps)(h:zrJ w base p room s)(N:s.Ok room b)(hb:b<=1000)(A:base<=w.heap.size):
 Calls prog 68 #[.pointer (some ⟨p,0,none⟩),.agg (zO x)] w fun e w'=>e=.returned (.tuple #[.agg #[.int .i64 (s.zp8 room:Nat),.int .i64 (s.zqC room)],.int .i64 (s.zqe room)])/\zrJ w' base p room (s.put room x)/\zpa base p w w':=by
 obtain⟨v,h⟩:=h;obtain⟨b1,b2,b3,b4,b5⟩:=N.lo hb;by_cases hm:s.many=room
 ·have H:s.zp8 room=0:=if_pos hm;have E:s.zqC room=0:=if_pos hm;have I:s.zqe room=3:=if_pos hm;have J:s.put room x=s:=if_pos hm;rw[H,E,I,J];exact(zdo x w base p v room s.many s.free s.l h hm).mono fun e w' ⟨he,M⟩=>⟨he,⟨v,h.behind M⟩,zpa.zo7 M A⟩
 ·have I:s.zqe room=0:=if_neg hm;have H:s.zp8 room=match s.st with | []=>s.l.length | k::_=>k:=if_neg hm
  have E:s.zqC room=match s.st with | []=>0 | k::_=>(s.l.getD k ⟨.zero,0,false,0⟩).gen:=if_neg hm
  have J:s.put room x=match s.st with
   | []=>⟨s.l++ [⟨x,0,true,-1⟩],-1,[],s.many+1⟩
   | k::st=>⟨s.l.set k ⟨x,(s.l.getD k ⟨.zero,0,false,0⟩).gen,true,-1⟩,(s.l.getD k ⟨.zero,0,false,0⟩).next,st,s.many+1⟩:=if_neg hm
  rw[H,E,I,J];have B:=N.chain;cases hst:s.st with
  | nil=>
   rw[hst]at B;have G:s.free= -1:=B;rw[G]at h;exact(zdp x w base p v room s.many s.l h (by omega) (by omega) (by omega) A).mono fun e w' ⟨he,g,cap,hp,hs⟩=>⟨he,⟨_,hp⟩,hs⟩
  | cons k st=>
   rw[hst]at B;obtain⟨G,q,D,hu,h0⟩:=B;obtain⟨g,cap,rfl⟩:=h.zq9 D;have O:s.l.getD k ⟨.zero,0,false,0⟩=q:=by rw[List.getD_eq_getElem?_getD,D];rfl
   rw[G]at h;simp only[O];exact(zb8 x k q w base p g cap _ room s.many s.l h (by omega) D (by omega) (by omega) A).mono fun e w' ⟨he,hp,hs⟩=>⟨he,⟨_,hp⟩,hs⟩
theorem zoD(i g:Int)(b:Nat)(w:World)(base p:Nat)(room:Int)(s:Ps)(h:zrJ w base p room s)(B:s.Ok room b)(hb:b<=1000):
 Calls prog 119 #[.pointer (some ⟨p,0,none⟩),.agg #[.int .i64 i,.int .i64 g]] w fun e w'=>e=.returned (.tuple #[.agg (zO (s.zqU i g)),.int .i64 (s.zqO i g)])/\Below w.heap.size w w':=by
 obtain⟨v,h⟩:=h;obtain⟨b1,b2,b3,b4,b5⟩:=B.lo hb;unfold Ps.zqU Ps.zqO;cases hf:s.find i g with
 | none=>exact zmm i g w base p v room s.many s.free s.l h (by omega) (zfw hf)
 | some k=>
  obtain⟨q,A,hd⟩:=ztR hf;obtain⟨gb,cap,rfl⟩:=h.zq9 A.2.1;simp only[hd];exact zmn i g k q w base p gb cap _ room s.many s.free s.l h (by omega) A
theorem Tr.more{l G:List Pl}(h:Tr l)(H:∀(k:Nat) (q:Pl),l[k]?=some q->q.used=true->G[k]?=some q)
 (J:∀(k:Nat) (q:Pl),G[k]?=some q->q.used=true->l[k]?=some q∨(k≠0/\∃(j:Nat) (p:Pl),l[j]?=some p/\p.used=true/\q.x=⟨j,j,p.gen,p.x.dp+1⟩/\1<=q.x.dp/\q.x.dp<=8)):Tr G:=by
 refine⟨?_,?_⟩
 ·obtain⟨q,D,hu,M⟩:=h.root;exact⟨q,H 0 q D hu,hu,M⟩
 ·intro k q D hu I;rcases J k q D hu with N | ⟨_,j,p,E,A,B⟩
  ·obtain⟨j,p,E,A,B⟩:=h.kid k q N hu I;exact⟨j,p,H j p E A,A,B⟩
  ·exact⟨j,p,H j p E A,A,B⟩
theorem Tr.put{s:Ps}{b:Nat}(h:Tr s.l)(O:s.Ok 32 b){k:Nat}{q:Pl}(I:s.l[k]?=some q)(hu:q.used=true)(hd:q.x.dp<8):Tr (s.put 32 ⟨k,k,q.gen,q.x.dp+1⟩).l:=by
 have h0:=h.dp I hu;unfold Ps.put;split
 ·exact h
 ·have N:=O.chain;cases hst:s.st with
  | nil=>
   refine h.more (fun j p A hp=>by rw[List.getElem?_append_left (ze A).1];exact A) (fun j p A hp=>?_);by_cases R:j<s.l.length
   ·rw[List.getElem?_append_left R]at A;exact .inl A
   ·rw[List.getElem?_append_right (by omega)]at A;have G:j-s.l.length=0:=by have:=(ze A).1;simpa using this
    rw[G]at A;simp at A;subst A;have h3:=(ze I).1;exact .inr ⟨by omega,k,q,I,hu,rfl,by show 1<=q.x.dp+1;omega,by show q.x.dp+1<=8;omega⟩
  | cons j st=>
   rw[hst]at N;obtain⟨hf,q0,E,H,h4⟩:=N;have G:j≠0:=by rintro rfl;obtain⟨q1,M,J,_⟩:=h.root;rw[E]at M;cases M;rw[H]at J;cases J
   refine h.more (fun i p D hp=>?_) (fun i p D hp=>?_)
   ·have B:j≠i:=by rintro rfl;rw[E]at D;cases D;rw[H]at hp;cases hp
    rw[List.getElem?_set_ne B];exact D
   ·by_cases B:j=i
    ·subst B;rw[List.getElem?_set_self (ze E).1]at D;cases D;exact .inr ⟨G,k,q,I,hu,rfl,by show 1<=q.x.dp+1;omega,by show q.x.dp+1<=8;omega⟩
    ·rw[List.getElem?_set_ne B]at D;exact .inl D
def Ps.zrq(s:Ps)(i g:Int):Ps:=match s.find i g with
 | none=>s
 | some k=>if dep s.l k=8 then s else s.put 32 ⟨k,k,g,dep s.l k+1⟩
def Ps.zqx(s:Ps)(i g:Int):Nat:=match s.find i g with
 | none=>0
 | some k=>if dep s.l k=8 then 0 else s.zp8 32
def Ps.zro(s:Ps)(i g:Int):Int:=match s.find i g with
 | none=>0
 | some k=>if dep s.l k=8 then 0 else s.zqC 32
def Ps.zq3(s:Ps)(i g:Int):Int:=match s.find i g with
 | none=>2
 | some k=>if dep s.l k=8 then 5 else s.zqe 32
theorem Tr.zrq{s:Ps}{b:Nat}(h:Tr s.l)(D:s.Ok 32 b)(i g:Int):Tr (s.zrq i g).l:=by
 unfold Ps.zrq;split
 ·exact h
 ·rename_i k B;split
  ·exact h
  ·rename_i hd;obtain⟨q,⟨_,A,hu,G⟩,_⟩:=ztR B;obtain⟨h1,h2,h3,E⟩:=h.dp A hu;have:=h.put D A hu (by omega);rw[G,E]at this;exact this
theorem Ps.Ok.zrq{s:Ps}{b:Nat}(h:s.Ok 32 b)(i g:Int):(s.zrq i g).Ok 32 (b+1):=by
 unfold Ps.zrq;split
 ·exact h.more
 ·split
  ·exact h.more
  ·exact h.put _
def zsJ:Ps:=⟨[⟨⟨-1,0,0,0⟩,0,true,-1⟩],-1,[],1⟩
theorem zoG:Tr zsJ.l:=by refine⟨⟨_,rfl,rfl,rfl,rfl⟩,?_⟩;intro k q B hu A;have:=(ze B).1;simp[zsJ]at this;exact absurd this A
theorem zjF:(⟨[],-1,[],0⟩:Ps).put 32 ⟨-1,0,0,0⟩=zsJ:=by simp[Ps.put,zsJ]
theorem zoH:zsJ.Ok 32 1:=by rw[<-zjF];exact(Ps.Ok.start 32 (by omega)).put _
end Go.Proofs.YtmgekibncmnmiaaGreatDoor
