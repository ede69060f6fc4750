/- Parts for TopPlaces. Conditions: as stated. -/
import Derived.Deep.Slices
import Derived.SizedLaws
import Derived.Test.YtmpdpmhpkgbepaaGreatDoorZ01
set_option linter.unusedVariables false
set_option maxRecDepth 100000
set_option maxHeartbeats 4000000
open Go.Value renaming int->zd,pointer->ze,slice->zf,agg->zg,bool->zh,tuple->zi,ownBlock->zX
open Go.IntKind renaming i64->zj,u64->zk
open Go.Ending renaming returned->zm
open Go.Obj renaming cells->zn
open Option renaming some->zo,none->zp
open Bool renaming true->zq,false->zt
open Go renaming World->zu,Calls->zw,Value->zz
open List renaming getElem?_eq_getElem->zy,length_set->zD,length_append->zE,getElem?_append_left->zF,getElem?_set_self->zT,getElem?_append_right->zV
open Go.World renaming cell?->zN,frozen?->zY
open Go.RowKit.Below renaming heap_setCell->zR,refl->zU,heap_alloc->zZ
open Go.Proofs.Tryz
namespace Go.Proofs.YtmpdpmhpkgbepaaGreatDoor
open Go Go.RowKit Go.ChangeShapes Go.WideShapes Go.Deep
def MQ:Option IntKind->zz->Prop
 | some k,v=>∃n:Int,v=zd k n/\(Lit.int k n).wf=zq
 | .none,v=>∃b:Bool,v=zh b
def uI:List (Option IntKind)->List zz->Prop
 | [],[]=>True
 | k::ks,v::vs=>MQ k v/\uI ks vs
 | _,_=>False
theorem Cn:∀{sh:List (Option IntKind)} {cs:List zz},uI sh cs->cs.length=sh.length
 | [],[],_=>rfl
 | [],_::_,h=>by simp[uI]at h
 | _::_,[],h=>by simp[uI]at h
 | _::ks,_::vs,h=>by simp only[uI]at h;simp[Cn h.2]
theorem Jf:∀{D B:List (Option IntKind)} {E A:List zz},uI D E->uI B A->uI (D++B) (E++A)
 | [],_,[],_,_,h=>by simpa using h
 | [],_,_::_,_,h,_=>by simp[uI]at h
 | _::_,_,[],_,h,_=>by simp[uI]at h
 | _::_,_,_::_,_,h,h2=>by simp only[uI]at h;simp only[List.cons_append,uI];exact⟨h.1,Jf h.2 h2⟩
def qe(P:Program)(g:TypeId->Option (List (Option IntKind))):List Field->Nat->Option (List (Option IntKind))
 | [],_=>zo []
 | f::r,off=>
  if f.offset=off then
   match g f.type with
   | some s=>if P.cellsOf f.type=s.length then(qe P g r (off+s.length)).map (s++ ·)else .none
   | .none=>.none
  else .none
def vF(s:List (Option IntKind)):Nat->List (Option IntKind)
 | 0=> []
 | n+1=>vF s n++s
def vW(P:Program):Nat->TypeId->Option (List (Option IntKind))
 | 0,_=>.none
 | f+1,t=>
  match P.underlying t with
  | some .bool=>zo [.none]
  | some (.int k)=>zo [zo k]
  | some (.struct fs)=>qe P (vW P f) fs.toList 0
  | some (.array n e)=>
   match vW P f e with
   | some s=>if P.cellsOf e=s.length then zo (vF s n)else .none
   | .none=>.none
  | _=>.none
section
variable {H : Type} {enc : TypeId × zz -> H} {P : Program} {w : zu} {base : Nat} {spare : Nat -> Bool} {held : Bool}
theorem Co(g:TypeId->Option (List (Option IntKind)))(m:Nat)(B:∀t s cs x,g t=zo s->DataW.trod enc P w base spare held m t cs=zo x->uI s cs)(cs:List zz):
 ∀(l:List Field) (off:Nat) (sh:List (Option IntKind)),qe P g l off=zo sh->(∀f∈l,∃y,DataW.trod enc P w base spare held m f.type ((cs.drop f.offset).take (P.cellsOf f.type))=zo y)->
  uI sh ((cs.drop off).take sh.length)
 | [],_,sh,h,_=>by simp only[qe,Option.some.injEq]at h;subst h;simp[uI]
 | f::r,off,sh,h,hf=>by
  unfold qe at h;split at h
  .rename_i I;split at h
   .rename_i s hs;split at h
    .rename_i N;obtain⟨A,E,rfl⟩:=Option.map_eq_some_iff.1 h;obtain⟨y,D⟩:=hf f (List.mem_cons_self ..);rw[N,I]at D;have H:=B _ _ _ _ hs D;have M:=Co g m B cs r (off+s.length) A E (fun J G=>hf J (List.mem_cons_of_mem _ G));have e:(cs.drop off).take (s++A).length=(cs.drop off).take s.length++(cs.drop (off+s.length)).take A.length:=by rw[zE,List.take_add,List.drop_drop]
     rw[e];exact Jf H M
    .cases h
   .cases h
  .cases h
theorem QE(s:List (Option IntKind))(cs:List zz)(n:Nat)(h:∀i,i<n->uI s ((cs.drop (i*s.length)).take s.length)):uI (vF s n) (cs.take (n*s.length)):=by
 induction n with
 | zero=>simp[vF,uI]
 | succ n ih=>
  have e:cs.take ((n+1)*s.length)=cs.take (n*s.length)++(cs.drop (n*s.length)).take s.length:=by rw[Nat.succ_mul,List.take_add]
  rw[e];exact Jf (ih fun i hi=>h i (by omega)) (h n (by omega))
theorem Vo(s:List (Option IntKind))(n:Nat):(vF s n).length=n*s.length:=by
 induction n with
 | zero=>simp[vF]
 | succ n ih=>simp[vF,ih,Nat.succ_mul]
theorem vX:∀(f:Nat) (m:Nat) (t:TypeId) (sh:List (Option IntKind)) (cs:List zz) (x:DataW H×List MemPlace),vW P f t=zo sh->sh.length=P.cellsOf t->DataW.trod enc P w base spare held m t cs=zo x->uI sh cs
 | 0,_,_,_,_,_,h,_,_=>by simp[vW]at h
 | f+1,m,t,sh,cs,x,h,hl,ht=>by
  unfold vW at h;split at h
  .rename_i D;cases h;obtain⟨b,hb,_⟩:=DataW.trod_bool D ht;subst hb;exact⟨⟨b,rfl⟩,trivial⟩
  .rename_i k D;cases h;obtain⟨n,o,_,d⟩:=DataW.trod_int D ht;subst o;exact⟨⟨n,rfl,d⟩,trivial⟩
  .rename_i N D;obtain⟨Z,n,_,_,A,O,U⟩:=DataW.trod_struct D ht;have c:∀t s cs x,(fun t=>(vW P f t).bind fun s=>if s.length=P.cellsOf t then zo s else .none) t=zo s->DataW.trod enc P w base spare held n t cs=zo x->uI s cs:=by
    intro t s cs x hs p;simp only at hs;cases he:vW P f t with
    | none=>simp[he]at hs
    | some s'=>
     simp only[he,Option.bind_some]at hs;split at hs
     .rename_i R;cases hs;exact vX f n t s cs x he R p
     .cases hs
   have E:∀(l:List Field) (off:Nat) (sh:List (Option IntKind)),qe P (vW P f) l off=zo sh->qe P (fun t=>(vW P f t).bind fun s=>if s.length=P.cellsOf t then zo s else .none) l off=zo sh:=by
    intro l
    induction l with
    | nil=>intro off sh h;simpa[qe]using h
    | cons G r ih=>
     intro off sh h;unfold qe at h ⊢;split at h
     .rename_i g;rw[if_pos g];split at h
      .rename_i s hs;split at h
       .rename_i M;simp only[hs,Option.bind_some,if_pos M.symm];rw[if_pos M];obtain⟨s2,a,rfl⟩:=Option.map_eq_some_iff.1 h;rw[ih _ _ a];rfl
       .cases h
      .cases h
     .cases h
   have J:∀G∈N.toList,∃y,DataW.trod enc P w base spare held n G.type ((cs.drop G.offset).take (P.cellsOf G.type))=zo y:=by
    intro G X;obtain⟨i,V,rfl⟩:=List.mem_iff_getElem.1 X;have T:i<N.size:=by simpa using V
    have I:=U i N[i] (Array.getElem?_eq_getElem T);refine⟨Z[i]'(by omega),?_⟩;rw[zy (by omega)]at I;simpa using I
   have B:=Co _ n c cs N.toList 0 sh (E _ _ _ h) J;rw[List.drop_zero,hl,<-A,List.take_length]at B;exact B
  .rename_i n e D;split at h
   .rename_i s hs;split at h
    .rename_i M;cases h;obtain⟨Z,j,_,_,A,O,U⟩:=DataW.trod_array D ht;have B:=QE s cs n (fun i V=>by have Y:=U i V;rw[zy (by omega),M]at Y;exact vX f j e s _ _ hs M.symm Y);rw[<-Vo,hl,<-A,List.take_length]at B;exact B
    .cases h
   .cases h
  .cases h
theorem WP{r:Reach}{E:Nat}{t:TypeId}{v:zz}{d:DataW H}{ps:List MemPlace}{f:Nat}{sh:List (Option IntKind)}(hs:vW P f t=zo sh)(G:sh.length=P.cellsOf t)
 (D:(match P.underlying t with|some (.struct _)|some (.array _ _)=>zq|_=>zt)=zq)
 (A:Value.okWide P w r E t v) (hd:DataW.Trod enc P w base spare held t v d ps):∃cs,v=zg ⟨cs⟩/\uI sh cs:=by
 have J:∃cs:Array zz,v=zg cs:=by
  unfold Value.okWide at A;split at D
  .rename_i B;rw[B]at A;exact⟨_,A.choose_spec.1⟩
  .rename_i B;rw[B]at A;exact⟨_,A.choose_spec.1⟩
  .cases D
 obtain⟨cs,rfl⟩:=J;obtain⟨m,I⟩:=hd;exact⟨cs.toList,rfl,vX f m t sh _ _ hs G (by simpa[Value.cells]using I)⟩
end
theorem QF{w:zu}{a:Addr}{v:zz}(h:w.cell? a=zo v):a.block<w.heap.size:=by
 unfold zN at h;split at h
 .rename_i hb;exact(yx hb).1
 .cases h
def Wg(sh:List (Option IntKind))(w:zu)(a:Option Addr)(A:Nat):Prop:=
 A<=9223372036854775807/\∀i,i<A->∃(b off:Nat) (cs:List zz),a=zo ⟨b,off,.none⟩/\b<w.heap.size/\uI sh cs/\∀j,j<sh.length->w.cell? ⟨b,off+(i*sh.length+j),.none⟩=cs[j]?
section
variable {H : Type} {enc : TypeId × zz -> H} {P : Program} {w : zu} {base : Nat} {spare : Nat -> Bool} {held : Bool}
theorem Eg{t e:TypeId}{d:DataW H}{ps:List MemPlace}{f:Nat}{sh:List (Option IntKind)}{a:Option Addr}{R cap:Nat}(g:P.underlying t=zo (.slice e))(hs:vW P f e=zo sh)(X:sh.length=P.cellsOf e)(hp:0<sh.length)
 (hd:DataW.Trod enc P w base spare held t (zf a R cap) d ps):Wg sh w a R:=by
 obtain⟨m,l⟩:=hd;rcases open_slice g l with⟨A,_⟩|⟨k,h2,h1,m',n,D,Pl,A,_,h5,U,E,_,c⟩
 .simp[Value.cells]at A;obtain⟨rfl,rfl,rfl⟩:=A;exact⟨by omega,fun i h=>by omega⟩
 .simp[Value.cells]at A;obtain⟨rfl,rfl,rfl⟩:=A;refine⟨by unfold maxLen at U;omega,fun i h3=>?_⟩;obtain⟨O,o,Z⟩:=c i (by rw[E];split<;>omega);have Y:=vX f n e sh O _ hs X Z;obtain⟨_,RK,I⟩:=World.cells?_some o;obtain⟨b,off,J⟩:=k;have B:J=.none:=by obtain⟨V,T,M⟩:=c 0 (by rw[E];split<;>omega);have h4:=Cn (vX f n e sh V _ hs X M);have G:=(World.cells?_some T).2.2 0 (by omega);rw[zy (by omega)]at G;simpa[Addr.add]using World.cell?_spot G
  have G:=I 0 (by omega);rw[zy (by omega)]at G;subst B;refine⟨b,off,O,rfl,by simpa[add_plain]using QF G,Y,fun j hj=>?_⟩;have N:=I j (by omega);rw[add_plain,add_plain,<-X,Nat.add_assoc]at N;exact N
end
theorem Li{D A E B G:IntKind}{cs:List zz}(h:uI [zo D,zo A,zo E,zo B,zo G] cs):∃a b c d e:Int,cs= [zd D a,zd A b,zd E c,zd B d,zd G e]/\(Lit.int D a).wf=zq/\(Lit.int A b).wf=zq/\(Lit.int E c).wf=zq/\(Lit.int B d).wf=zq/\(Lit.int G e).wf=zq:=by
 match cs,h with
 | [_,_,_,_,_],h=>
  obtain⟨⟨a,rfl,I⟩,⟨b,rfl,hb⟩,⟨c,rfl,J⟩,⟨d,rfl,hd⟩,⟨e,rfl,H⟩,_⟩:=h;exact⟨a,b,c,d,e,rfl,I,hb,J,hd,H⟩
end Go.Proofs.YtmpdpmhpkgbepaaGreatDoor
namespace Go.Proofs.YtmpdpmhpkgbepaaGreatDoor
open Go Go.RowKit Go.ChangeShapes Go.WideShapes
theorem YY(a b:Int): -9223372036854775808<=Xg a b/\Xg a b<=9223372036854775807:=by
 unfold Xg Xy;simp only[decide_eq_true_eq];split
 .assumption
 .split<;>omega
theorem Rh(a b:Int): -9223372036854775808<=vN a b/\vN a b<=9223372036854775807:=by
 unfold vN Xy;simp only[decide_eq_true_eq];split
 .assumption
 .split<;>omega
theorem DW(n B A:Int)(h0: -9223372036854775808<=n/\n<=9223372036854775807)(h1: -9223372036854775808<=B/\B<=9223372036854775807)(h2: -9223372036854775808<=A/\A<=9223372036854775807): -9223372036854775808<=Ub n B A/\Ub n B A<=9223372036854775807:=by
 unfold Ub;split
 .assumption
 .split<;>assumption
theorem IF(a b:Int)(w:zu)(A: -9223372036854775808<=a/\a<=9223372036854775807)(hb: -9223372036854775808<=b/\b<=9223372036854775807)(h: -9223372036854775808<=a-b/\a-b<=9223372036854775807):
 zw prog 182 #[zd zj a,zd zj b] w fun e w'=>e=zm (zi #[zd zj (a-b),zh zt])/\Below w.heap.size w w':=by
 go_enter func182,ntmps182;go_wp2_with (first|(go_at_call 224;refine(YV _ _ _ A hb h).mono ?_;rintro e w' ⟨rfl,rfl⟩)|go_in);go_ret2;exact⟨rfl,by go_grown⟩
theorem MO(a b:Int)(w:zu)(A: -9223372036854775808<=a/\a<=9223372036854775807)(hb: -9223372036854775808<=b/\b<=9223372036854775807)(h:¬(-9223372036854775808<=a-b/\a-b<=9223372036854775807)):
 zw prog 182 #[zd zj a,zd zj b] w fun e w'=>e=zm (zi #[zd zj (vN a b),zh zq])/\Below w.heap.size w w':=by
 have H:=yw h;clear h;go_enter func182,ntmps182;go_wp2_with (first|(go_at_call 224;refine(QC _ _ _ A hb H.out).mono ?_;rintro e w' ⟨rfl,rfl⟩)|(go_at_call 188;refine(Vn _ _ _ A hb).mono ?_;rintro e w' ⟨rfl,rfl⟩)|go_in);go_ret2;exact⟨rfl,by go_grown⟩
theorem YZ(a b:Int)(w:zu)(A: -9223372036854775808<=a/\a<=9223372036854775807)(hb: -9223372036854775808<=b/\b<=9223372036854775807):
 zw prog 182 #[zd zj a,zd zj b] w fun e w'=>e=zm (zi #[zd zj (vN a b),zh (!Xy (a-b))])/\Below w.heap.size w w':=by
 by_cases h: -9223372036854775808<=a-b/\a-b<=9223372036854775807
 .rw[Xn h,Lg h];exact IF a b w A hb h
 .rw[Kq h];exact MO a b w A hb h
theorem MP(a b:Int)(w:zu)(A: -9223372036854775808<=a/\a<=9223372036854775807)(hb: -9223372036854775808<=b/\b<=9223372036854775807)(h: -9223372036854775808<=a+b/\a+b<=9223372036854775807):
 zw prog 183 #[zd zj a,zd zj b] w fun e w'=>e=zm (zi #[zd zj (a+b),zh zt])/\Below w.heap.size w w':=by
 go_enter func183,ntmps183;go_wp2_with (first|(go_at_call 202;refine(Vl _ _ _ A hb h).mono ?_;rintro e w' ⟨rfl,rfl⟩)|go_in);go_ret2;exact⟨rfl,by go_grown⟩
theorem NM(a b:Int)(w:zu)(A: -9223372036854775808<=a/\a<=9223372036854775807)(hb: -9223372036854775808<=b/\b<=9223372036854775807)(h:¬(-9223372036854775808<=a+b/\a+b<=9223372036854775807)):
 zw prog 183 #[zd zj a,zd zj b] w fun e w'=>e=zm (zi #[zd zj (Xg a b),zh zq])/\Below w.heap.size w w':=by
 have H:=yw h;clear h;go_enter func183,ntmps183;go_wp2_with (first|(go_at_call 202;refine(Nn _ _ _ A hb H.out).mono ?_;rintro e w' ⟨rfl,rfl⟩)|(go_at_call 153;refine(No _ _ _ A hb).mono ?_;rintro e w' ⟨rfl,rfl⟩)|go_in);go_ret2;exact⟨rfl,by go_grown⟩
theorem DX(a b:Int)(w:zu)(A: -9223372036854775808<=a/\a<=9223372036854775807)(hb: -9223372036854775808<=b/\b<=9223372036854775807):
 zw prog 183 #[zd zj a,zd zj b] w fun e w'=>e=zm (zi #[zd zj (Xg a b),zh (!Xy (a+b))])/\Below w.heap.size w w':=by
 by_cases h: -9223372036854775808<=a+b/\a+b<=9223372036854775807
 .rw[Xn h,Rd h];exact MP a b w A hb h
 .rw[Kq h];exact NM a b w A hb h
def uP(v A to:Int):Int:=Xg (vN v A) to
def Ri(v A to:Int):Bool:=!Xy (v-A) || !Xy (vN v A+to)
theorem Lh(v f t:Int)(w:zu)(G: -9223372036854775808<=v/\v<=9223372036854775807)(E: -9223372036854775808<=f/\f<=9223372036854775807)(H: -9223372036854775808<=t/\t<=9223372036854775807):
 zw prog 130 #[zd zj v,zd zj f,zd zj t] w fun e w'=>e=zm (zi #[zd zj (uP v f t),zh (Ri v f t)])/\Below w.heap.size w w':=by
 cases hB:Xy (v-f)
 .have B:Ri v f t=zq:=by simp[Ri,hB]
  rw[B];go_enter func130,ntmps130;go_wp2_with fail;refine(YZ _ _ _ G E).mono ?_;rintro e w1 ⟨rfl,A⟩;rw[hB];have I:=yw hB;clear hB;go_wp2_with fail;refine(DX _ _ _ (Rh _ _) H).mono ?_;rintro e J ⟨rfl,D⟩;go_wp2;go_ret2;exact⟨rfl,yC A D A.size⟩
 .have B:Ri v f t=!Xy (vN v f+t):=by simp[Ri,hB]
  rw[B];clear B;go_enter func130,ntmps130;go_wp2_with fail;refine(YZ _ _ _ G E).mono ?_;rintro e w1 ⟨rfl,A⟩;rw[hB];have I:=yw hB;clear hB;go_wp2_with fail;refine(DX _ _ _ (Rh _ _) H).mono ?_;rintro e J ⟨rfl,D⟩;go_wp2;go_ret2;exact⟨rfl,yC A D A.size⟩
def Je(own m c:Int):Int:=if vN m (Ub c 0 1099511627776) <own then own else vN m (Ub c 0 1099511627776)
theorem Rj(own m c:Int)(w:zu)(A: -9223372036854775808<=m/\m<=9223372036854775807)(D: -9223372036854775808<=c/\c<=9223372036854775807):
 zw prog 137 #[zd zj own,zd zj m,zd zj c] w fun e w'=>e=zm (zd zj (Je own m c))/\Below w.heap.size w w':=by
 have B:=DW c 0 1099511627776 D (by omega) (by omega);unfold Je;rcases Int.lt_trichotomy (vN m (Ub c 0 1099511627776)) own with k|k|k
 .rw[if_pos k];go_enter func137,ntmps137;go_wp2_with (first|(go_at_call 189;refine(Vm _ _ _ _).mono ?_;rintro e w' ⟨rfl,rfl⟩)|(go_at_call 188;refine(Vn _ _ _ A B).mono ?_;rintro e w' ⟨rfl,rfl⟩));go_ret;exact⟨rfl,by go_grown⟩
 .rw[if_neg (by omega)];have K:=yw k;have k1:=Int.le_of_eq k;have k2:=Int.le_of_eq k.symm;have k3:¬vN m (Ub c 0 1099511627776) <own:=by omega
  clear k;go_enter func137,ntmps137;go_wp2_with (first|(go_at_call 189;refine(Vm _ _ _ _).mono ?_;rintro e w' ⟨rfl,rfl⟩)|(go_at_call 188;refine(Vn _ _ _ A B).mono ?_;rintro e w' ⟨rfl,rfl⟩));go_ret;exact⟨by first|rfl|(rw[K.out];rfl),by go_grown⟩
 .rw[if_neg (by omega)];go_enter func137,ntmps137;go_wp2_with (first|(go_at_call 189;refine(Vm _ _ _ _).mono ?_;rintro e w' ⟨rfl,rfl⟩)|(go_at_call 188;refine(Vn _ _ _ A B).mono ?_;rintro e w' ⟨rfl,rfl⟩));go_ret;exact⟨rfl,by go_grown⟩
end Go.Proofs.YtmpdpmhpkgbepaaGreatDoor
namespace Go.Proofs.YtmpdpmhpkgbepaaGreatDoor
namespace Vr
open Go Go.RowKit Go.ChangeShapes Go.WideShapes
theorem CD(w rem:Int)(W:zu)(h1:2<=w)(h2:w<=262144)(h3:rem<w):
 zw prog 234 #[zd zk w,zd zk rem] W fun e A=>e=zm (zd zj 0)/\W=A:=by
 go_enter func234,ntmps234;go_wp2;go_ret;exact⟨rfl,rfl⟩
theorem TS(w rem ns:Int)(W:zu)(B:2<=w)(A:w<=262144)(D:rem<w)(h4:0<=rem)(h5:0<=ns)(h6:ns<=1000000000):
 zw prog 200 #[zd zk w,zd zk rem,zd zk ns] W fun e E=>e=zm (zi #[zd zj ((rem+ns*1024) /w),zd zk ((rem+ns*1024) %w),zd zj 0])/\∃n,W.drewN n=E:=by
 have q0:0<=(rem+ns*1024) /w:=Int.ediv_nonneg (by omega) (by omega);have q1:(rem+ns*1024) /w<=rem+ns*1024:=Int.ediv_le_self _ (by omega);go_enter func200,ntmps200;go_wp2_with fail;go_step3;go_wp2_with (go_at_call 234;refine(CD _ _ _ B A D).mono ?_;rintro e w' ⟨rfl,rfl⟩);go_step3;go_wp2;go_quiet (fail);go_wp2;rw[Exit.noGoto_ret];go_ret3;exact⟨rfl,_,rfl⟩
end Vr
end Go.Proofs.YtmpdpmhpkgbepaaGreatDoor
namespace Go.Proofs.YtmpdpmhpkgbepaaGreatDoor
open Go Go.RowKit Go.ChangeShapes Go.WideShapes
variable {w w':zu}{v:zz}{n p g cap k:Nat}
theorem xC{base:Nat}{e:TypeId}{A:Nat}{E:List zz}{b:Nat}{o:Nat}{u:zz}(h:w.ownsRow base e A v n E)(B:v.ownBlock≠zo b):(w.setCell ⟨b,o,zp⟩ u).ownsRow base e A v n E:=by
 refine⟨h.1,?_⟩;rcases h.2 with I|⟨g,cap,cur,D,hb,G,H⟩
 .exact .inl I
 .refine .inr ⟨g,cap,cur,D,hb,?_,H⟩;rw[zR _ _ _ _ (by rintro rfl;exact B (by rw[D];rfl))];exact G
structure SZ where
 x:Int
 ui:Int
 ug:Int
 dp:Int
def SZ.zero:SZ:=⟨0,0,0,0⟩
abbrev yU(x:SZ):Array zz:=#[zd zj x.ui,zd zj x.ug,zd zj x.dp]
structure Pl where
 x:SZ
 gen:Int
 used:Bool
 next:Int
def Pl.cells(s:Pl):List zz:= [zd zj s.x.ui,zd zj s.x.ug,zd zj s.x.dp,zd zj s.gen,zh s.used,zd zj s.next]
theorem Pl.PG(s:Pl):s.cells.length=6:=rfl
def RP(l:List Pl):List zz:=l.flatMap Pl.cells
def cN(l:List Pl)(i:Nat)(c:List zz):List zz:=RP (l.take i)++c++RP (l.drop (i+1))
theorem Qs(l:List Pl):(RP l).length=l.length*6:=by
 induction l with
 | nil=>rfl
 | cons a r ih=>
  have e:RP (a::r)=a.cells++RP r:=by simp[RP]
  rw[e,zE,Pl.PG,ih,List.length_cons];omega
theorem qJ(a b:List Pl):RP (a++b)=RP a++RP b:=by simp[RP]
theorem Jn(l:List Pl)(i:Nat)(h:i<l.length):cN l i (l[i].cells)=RP l:=by
 have e:l=l.take i++ [l[i]]++l.drop (i+1):=by simp
 have A:RP l=RP (l.take i++ [l[i]]++l.drop (i+1)):=congrArg RP e;rw[A,qJ,qJ];simp[cN,RP]
theorem Ob(l:List Pl)(i:Nat)(q:Pl)(h:i<l.length):cN l i q.cells=RP (l.set i q):=by rw[List.set_eq_take_append_cons_drop,if_pos h,qJ];simp[cN,RP]
theorem Dn(l:List Pl)(i:Nat)(c:List zz)(j:Nat)(u:zz)(h:i<l.length)(B:j<c.length):(cN l i c).set (i*6+j) u=cN l i (c.set j u):=by
 have A:(RP (l.take i)).length=i*6:=by rw[Qs,List.length_take,Nat.min_eq_left (by omega)]
 unfold cN;rw[List.append_assoc,List.set_append_right _ _ (by omega),A,Nat.add_sub_cancel_left,List.set_append_left _ _ B,<-List.append_assoc]
theorem Oc(l:List Pl)(i:Nat)(c:List zz)(j:Nat)(h:i<l.length)(B:j<c.length):(cN l i c)[i*6+j]?=c[j]?:=by
 have A:(RP (l.take i)).length=i*6:=by rw[Qs,List.length_take,Nat.min_eq_left (by omega)]
 unfold cN;rw[List.append_assoc,zV (by omega),A,Nat.add_sub_cancel_left,zF B]
theorem Od(l:List Pl)(i j:Nat)(h:i<l.length)(A:j<6):(RP l)[i*6+j]?=(l[i].cells)[j]?:=by rw[<-Jn l i h,Oc l i _ j h (by simpa[Pl.PG]using A)]
structure yF(w:zu)(base p:Nat)(v:zz)(room many free:Int)(l:List Pl):Prop where
 RO:w.heap[p]?=zo (zn #[zd zj room,zd zj many,v,zd zj free] 209 (0,0))
 own:w.ownsRow base 211 6 v l.length (RP l)
 ne:v.ownBlock≠zo p
 lo:base<=p
theorem yF.lt{base:Nat}{room A B:Int}{l:List Pl}(h:yF w base p v room A B l):p<w.heap.size:=(yx h.RO).1
theorem yF.cell{base:Nat}{room A B:Int}{l:List Pl}(h:yF w base p v room A B l):
 w.cell? ⟨p,0,zp⟩=zo (zd zj room)/\w.cell? ⟨p,1,zp⟩=zo (zd zj A)/\w.cell? ⟨p,2,zp⟩=zo v/\w.cell? ⟨p,3,zp⟩=zo (zd zj B):=by
 have hb:=h.RO;refine⟨?_,?_,?_,?_⟩<;>simp[zN,hb]
theorem yF.free{base:Nat}{room A B:Int}{l:List Pl}(h:yF w base p v room A B l)(i:Nat):w.frozen? ⟨p,i,zp⟩=zt:=by have hb:=h.RO;simp[zY,hb]
theorem yF.row{base:Nat}{room B A:Int}{l:List Pl}(h:yF w base p v room B A l):
 (v=zf zp 0 0/\l= [])∨∃g cap,v=zf (zo ⟨g,0,zp⟩) l.length cap/\base<=g/\g<w.heap.size/\g≠p/\l.length<=cap/\cap<=maxLen:=by
 rcases h.own.2 with⟨D,J⟩|⟨g,cap,cur,D,H,G,I,E,_,_⟩
 .exact .inl ⟨D,List.eq_nil_of_length_eq_zero J⟩
 .refine .inr ⟨g,cap,D,H,(yx G).1,?_,I,E⟩;have:=h.ne;rw[D]at this;simpa[zX]using this
theorem yF.place{base:Nat}{room A B:Int}{l:List Pl}(h:yF w base p (zf (zo ⟨g,0,zp⟩) l.length cap) room A B l)(i j:Nat)(E:i<l.length)(D:j<6):
 w.cell? ⟨g,i*6+j,zp⟩=(l[i].cells)[j]?:=by
 rw[h.own.cellAt (i*6+j) (by omega),Od l i j E D]
theorem yF.OE{base:Nat}{room A B:Int}{l:List Pl}(h:yF w base p (zf (zo ⟨g,0,zp⟩) l.length cap) room A B l)(j:Nat):w.frozen? ⟨g,j,zp⟩=zt:=h.own.frozenAt j
theorem yF.alloc{base:Nat}{room A B:Int}{l:List Pl}(h:yF w base p v room A B l)(o:Obj):yF (w.alloc o) base p v room A B l:=
 ⟨by rw[zZ w o p h.lt];exact h.RO,h.own.alloc o,h.ne,h.lo⟩
theorem yF.drewN{base:Nat}{room A B:Int}{l:List Pl}(h:yF w base p v room A B l)(n:Nat):yF (w.drewN n) base p v room A B l:=⟨h.RO,h.own,h.ne,h.lo⟩
theorem yF.kept{base:Nat}{room A B:Int}{l:List Pl}(h:yF w base p v room A B l)(E:w'.heap[p]?=w.heap[p]?)(I:∀g,v.ownBlock=zo g->w'.heap[g]?=w.heap[g]?):yF w' base p v room A B l:=by
 refine⟨by rw[E];exact h.RO,⟨h.own.1,?_⟩,h.ne,h.lo⟩;rcases h.own.2 with J|⟨g,cap,cur,D,hb,G,H⟩
 .exact .inl J
 .exact .inr ⟨g,cap,cur,D,hb,by rw[I g (by rw[D];rfl)];exact G,H⟩
theorem yF.gD{base:Nat}{room B A:Int}{l:List Pl}(h:yF w base p (zf (zo ⟨g,0,zp⟩) n cap) room B A l):g<w.heap.size:=by
 rcases h.row with⟨D,_⟩|⟨b',h0,D,_,hb,_⟩
 .cases D
 .cases D;exact hb
theorem yF.len{base:Nat}{room B A:Int}{l:List Pl}(h:yF w base p (zf (zo ⟨g,0,zp⟩) n cap) room B A l):n=l.length:=by
 rcases h.row with⟨D,_⟩|⟨b',h0,D,_⟩
 .cases D
 .cases D;rfl
theorem yF.store{base:Nat}{room B A:Int}{l:List Pl}(h:yF w base p (zf (zo ⟨g,0,zp⟩) n cap) room B A l)(k j:Nat)(u:zz)(q q':Pl)(hk:l[k]?=zo q)(I:j<6)(H:q.cells.set j u=q'.cells):
 yF (w.setCell ⟨g,k*6+j,zp⟩ u) base p (zf (zo ⟨g,0,zp⟩) n cap) room B A (l.set k q'):=by
 obtain rfl:=h.len;obtain⟨D,rfl⟩:=yy hk;have E:g≠p:=by have:=h.ne;simpa[zX]using this
 refine⟨?_,?_,h.ne,h.lo⟩
 .rw[zR _ _ _ _ (by exact fun e=>E e.symm)];exact h.RO
 .have G:=(h.own.stored (k*6+j) u).1;have e:(RP l).set (k*6+j) u=RP (l.set k q'):=by have:=Dn l k (l[k].cells) j u D (by simpa[Pl.PG]using I);rw[Jn l k D]at this;rw[this,H,Ob l k q' D]
  rw[e]at G;rw[zD];exact G
theorem yF.iB{base:Nat}{room A B:Int}{l:List Pl}(h:yF w base p (zf (zo ⟨g,0,zp⟩) n cap) room A B l)(k:Nat)(q q':Pl)(hk:l[k]?=zo q):
 yF ((((((w.setCell ⟨g,k*6,zp⟩ (zd zj q'.x.ui)).setCell ⟨g,k*6+1,zp⟩ (zd zj q'.x.ug)).setCell ⟨g,k*6+2,zp⟩ (zd zj q'.x.dp)).setCell ⟨g,k*6+3,zp⟩ (zd zj q'.gen)).setCell ⟨g,k*6+4,zp⟩ (zh q'.used)).setCell ⟨g,k*6+5,zp⟩ (zd zj q'.next)) base p (zf (zo ⟨g,0,zp⟩) n cap) room A B (l.set k q'):=by
 have D:=(yy hk).1;have I:=h.store k 0 (zd zj q'.x.ui) q ⟨⟨q'.x.x,q'.x.ui,q.x.ug,q.x.dp⟩,q.gen,q.used,q.next⟩ hk (by omega) rfl;have G:=I.store k 1 (zd zj q'.x.ug) _ ⟨⟨q'.x.x,q'.x.ui,q'.x.ug,q.x.dp⟩,q.gen,q.used,q.next⟩ (zT D) (by omega) rfl;have M:=G.store k 2 (zd zj q'.x.dp) _ ⟨q'.x,q.gen,q.used,q.next⟩ (zT (by simpa using D)) (by omega) rfl;have H:=M.store k 3 (zd zj q'.gen) _ ⟨q'.x,q'.gen,q.used,q.next⟩ (zT (by simpa using D)) (by omega) rfl;have J:=H.store k 4 (zh q'.used) _ ⟨q'.x,q'.gen,q'.used,q.next⟩ (zT (by simpa using D)) (by omega) rfl
 have E:=J.store k 5 (zd zj q'.next) _ q' (zT (by simpa using D)) (by omega) rfl;simp only[List.set_set,Nat.add_zero]at E;exact E
theorem yF.eZ{base:Nat}{room B A:Int}{l:List Pl}(h:yF w base p (zf (zo ⟨g,0,zp⟩) n cap) room B A l)(k:Nat)(q q':Pl)(hk:l[k]?=zo q)(I:q'.gen=q.gen)(J:q'.used=q.used)(M:q'.next=q.next):
 yF (((w.setCell ⟨g,k*6,zp⟩ (zd zj q'.x.ui)).setCell ⟨g,k*6+1,zp⟩ (zd zj q'.x.ug)).setCell ⟨g,k*6+2,zp⟩ (zd zj q'.x.dp)) base p (zf (zo ⟨g,0,zp⟩) n cap) room B A (l.set k q'):=by
 have E:=(yy hk).1;have H:=h.store k 0 (zd zj q'.x.ui) q ⟨⟨q'.x.x,q'.x.ui,q.x.ug,q.x.dp⟩,q.gen,q.used,q.next⟩ hk (by omega) rfl;have G:=H.store k 1 (zd zj q'.x.ug) _ ⟨⟨q'.x.x,q'.x.ui,q'.x.ug,q.x.dp⟩,q.gen,q.used,q.next⟩ (zT E) (by omega) rfl;have D:=G.store k 2 (zd zj q'.x.dp) _ ⟨q'.x,q.gen,q.used,q.next⟩ (zT (by simpa using E)) (by omega) rfl;simp only[List.set_set,Nat.add_zero]at D;have e:(⟨q'.x,q.gen,q.used,q.next⟩:Pl)=q':=by rw[<-I,<-J,<-M]
 rw[e]at D;exact D
theorem yF.bK{base:Nat}{room B A:Int}{l:List Pl}(h:yF w base p v room B A l)(m:Int):yF (w.setCell ⟨p,1,zp⟩ (zd zj m)) base p v room m A l:=by refine⟨by rw[yD h.RO];rfl,?_,h.ne,h.lo⟩;exact(xC h.own h.ne)
theorem yF.AY{base:Nat}{room A B:Int}{l:List Pl}(h:yF w base p v room A B l)(m:Int):yF (w.setCell ⟨p,3,zp⟩ (zd zj m)) base p v room A m l:=
 ⟨by rw[yD h.RO];rfl,xC h.own h.ne,h.ne,h.lo⟩
theorem yF.PR{base:Nat}{room B A:Int}{l:List Pl}(h:yF w base p v room B A l){c o:Nat}{u:zz}(E:c≠p)(D:v.ownBlock≠zo c):yF (w.setCell ⟨c,o,zp⟩ u) base p v room B A l:=
 ⟨by rw[zR _ _ _ _ (by exact fun e=>E e.symm)];exact h.RO,xC h.own D,h.ne,h.lo⟩
theorem yF.fB{base:Nat}{room B A:Int}{l:List Pl}(h:yF w base p (zf (zo ⟨g,0,zp⟩) n cap) room B A l)(k:Nat)(q q':Pl)(hk:l[k]?=zo q)(H:q'.gen=q.gen):
 yF (((((w.setCell ⟨g,k*6,zp⟩ (zd zj q'.x.ui)).setCell ⟨g,k*6+1,zp⟩ (zd zj q'.x.ug)).setCell ⟨g,k*6+2,zp⟩ (zd zj q'.x.dp)).setCell ⟨g,k*6+4,zp⟩ (zh q'.used)).setCell ⟨g,k*6+5,zp⟩ (zd zj q'.next)) base p (zf (zo ⟨g,0,zp⟩) n cap) room B A (l.set k q'):=by
 have E:=(yy hk).1;have I:=h.eZ k q ⟨q'.x,q.gen,q.used,q.next⟩ hk rfl rfl rfl;have G:=I.store k 4 (zh q'.used) _ ⟨q'.x,q.gen,q'.used,q.next⟩ (zT E) (by omega) rfl;have D:=G.store k 5 (zd zj q'.next) _ ⟨q'.x,q.gen,q'.used,q'.next⟩ (zT (by simpa using E)) (by omega) rfl;simp only[List.set_set]at D;have e:(⟨q'.x,q.gen,q'.used,q'.next⟩:Pl)=q':=by rw[<-H]
 rw[e]at D;exact D
theorem yF.grow{w0 w1:zu}{base:Nat}{v':zz}{room B A:Int}{l:List Pl}(h:yF w0 base p v room B A l)(q:Pl)(G:w0.grownBy w1 v.ownBlock)(E:w1.ownsRow base 211 6 v' (l.length+1) (RP l++q.cells))(D:v'.ownBlock≠zo p):
 yF (w1.setCell ⟨p,2,zp⟩ v') base p v' room B A (l++ [q]):=by
 have hb:w1.heap[p]?=zo (zn #[zd zj room,zd zj B,v,zd zj A] 209 (0,0)):=by rw[G.block p h.lt (fun e=>h.ne e.symm)];exact h.RO
 refine⟨by rw[yD hb];rfl,?_,D,h.lo⟩;have e:RP (l++ [q])=RP l++q.cells:=by rw[qJ];simp[RP]
 rw[e,zE];exact xC E D
theorem Fz{w0 w1:zu}{base:Nat}{v':zz}{J:List zz}{e:TypeId}{A:Nat}(B:v.ownBlock≠zo p)(H:w0.grownBy w1 v.ownBlock)(I:w1.ownsRow base e A v' n J){o:Obj}(hb:w0.heap[p]?=zo o)(G:∀cs z,o≠zn cs e z):v'.ownBlock≠zo p:=by
 rcases I.2 with⟨rfl,_⟩|⟨g,cap,cur,rfl,_,E,_⟩
 .simp[zX]
 .intro D;simp[zX]at D;subst D;have:=H.block g (yx hb).1 (fun e=>B e.symm);rw[hb]at this;rw[this]at E;exact G cur (0,0) (by simpa using E)
theorem QU(i g:Int)(w:zu)(p:Nat)(hi:i<0):
 zw prog 177 #[ze (zo ⟨p,0,zp⟩),zg #[zd zj i,zd zj g]] w fun e w'=>e=zm (ze zp)/\∃n,(w.alloc (zn #[zd zj i,zd zj g] 78)).drewN n=w':=by
 go_enter func177,ntmps177;go_wp2;go_quiet (fail);go_wp2;go_ret;exact⟨rfl,_,rfl⟩
theorem Ga(i g:Int)(w:zu)(p:Nat)(a:Option Addr)(A cap:Nat)(hp:p<w.heap.size)(hc:w.cell? ⟨p,2,zp⟩=zo (zf a A cap))(hi:(A:Int)<=i)(h0:0<=i):
 zw prog 177 #[ze (zo ⟨p,0,zp⟩),zg #[zd zj i,zd zj g]] w fun e w'=>e=zm (ze zp)/\∃n,(w.alloc (zn #[zd zj i,zd zj g] 78)).drewN n=w':=by
 go_enter func177,ntmps177;go_wp2;go_quiet (fail);go_wp2;go_ret;exact⟨rfl,_,rfl⟩
theorem Si(k:Nat)(g:Int)(w:zu)(p b:Nat)(A cap:Nat)(q:Pl)(hp:p<w.heap.size)(hb:b<w.heap.size)(hc:w.cell? ⟨p,2,zp⟩=zo (zf (zo ⟨b,0,zp⟩) A cap))(hk:k<A)(h0:A<=4096)
 (h1:w.cell? ⟨b,k*6+3,zp⟩=zo (zd zj q.gen)) (D:w.cell? ⟨b,k*6+4,zp⟩=zo (zh q.used)):
 zw prog 177 #[ze (zo ⟨p,0,zp⟩),zg #[zd zj k,zd zj g]] w fun e w'=>e=zm (if q.used=zq/\q.gen=g then ze (zo ⟨b,k*6,zp⟩)else ze zp)/\∃n,(w.alloc (zn #[zd zj k,zd zj g] 78)).drewN n=w':=by
 cases hu:q.used
 .rw[if_neg (by simp)];rw[hu]at D;clear hu;go_enter func177,ntmps177;go_wp2;go_quiet (fail);go_wp2;go_quiet (fail);go_wp2;go_quiet (fail);go_wp2;go_ret;refine⟨rfl,?_⟩;simp only[World.drewN_drewN];exact⟨_,rfl⟩
 .by_cases B:q.gen=g
  .rw[if_pos ⟨rfl,B⟩];have E:(q.gen == g)=zq:=beq_iff_eq.2 B;rw[hu]at D;clear hu B;go_enter func177,ntmps177;go_wp2;go_quiet (fail);go_wp2;go_quiet (fail);go_wp2;go_quiet (fail);go_wp2;go_ret;refine⟨rfl,?_⟩;simp only[World.drewN_drewN];exact⟨_,rfl⟩
  .rw[if_neg (by simp[B])];have E:(q.gen == g)=zt:=beq_eq_false_iff_ne.2 B;rw[hu]at D;clear hu B;go_enter func177,ntmps177;go_wp2;go_quiet (fail);go_wp2;go_quiet (fail);go_wp2;go_quiet (fail);go_wp2;go_ret;refine⟨rfl,?_⟩;simp only[World.drewN_drewN];exact⟨_,rfl⟩
def Qv(l:List Pl)(i g:Int)(k:Nat)(q:Pl):Prop:=i=(k:Int)/\l[k]?=zo q/\q.used=zq/\q.gen=g
def vk(l:List Pl)(i g:Int):Prop:=∀k q,¬Qv l i g k q
def bL(w:zu)(z:Nat):Prop:=∃cs fr,w.heap[z]?=zo (zn cs 211 fr)
def PK(w:zu)(p z:Nat):Prop:=∃v,w.cell? ⟨p,2,zp⟩=zo v/\v.ownBlock=zo z
def PF(p:Nat)(w:zu)(z:Nat):Prop:=z=p∨(bL w z/\PK w p z)
structure OB(base p:Nat)(w w':zu):Prop where
 RB:OA (PF p w) w w'
 below:Below base w w'
 row:p<w.heap.size->∀z,z<w.heap.size->PK w' p z->PK w p z
theorem OB.trans{base:Nat}{a b c:zu}(h:OB base p a b)(k:OB base p b c)(B:p<a.heap.size):OB base p a c:=
 ⟨h.RB.trans k.RB (fun x H=>by
  by_cases A:x<a.heap.size
  .left;rcases H with rfl|⟨⟨cs,fr,hb⟩,D⟩
   .exact .inl rfl
   .by_cases G:PF p a x
    .exact G
    .rw[h.RB.block x A G]at hb;exact .inr ⟨⟨cs,fr,hb⟩,h.row B x A D⟩
  .right;omega),h.below.trans k.below,fun _ z E D=>h.row B z E (k.row (yz B h.RB.size) z (yz E h.RB.size) D)⟩
theorem PK.same{z:Nat}(h:PK w' p z)(A:w'.heap[p]?=w.heap[p]?):PK w p z:=by obtain⟨v,D,B⟩:=h;refine⟨v,?_,B⟩;rw[<-D];simp[zN,A]
theorem OB.NZ{base:Nat}(h:Below w.heap.size w w')(hb:base<=w.heap.size):OB base p w w':=⟨OA.NZ h,Fb h hb,fun A z _ B=>B.same (h.block p A)⟩
theorem yF.rowOf{base:Nat}{room A B:Int}{l:List Pl}(h:yF w base p (zf (zo ⟨g,0,zp⟩) n cap) room A B l):PK w p g:=⟨_,h.cell.2.2.1,rfl⟩
theorem yF.rowIs{base:Nat}{room A B:Int}{l:List Pl}(h:yF w base p v room A B l){z:Nat}(G:PK w p z):v.ownBlock=zo z:=by obtain⟨u,D,E⟩:=G;rw[h.cell.2.2.1]at D;cases D;exact E
theorem yF.cE{base n' G:Nat}{room E H A D B:Int}{l J:List Pl}(h:yF w base p (zf (zo ⟨g,0,zp⟩) n cap) room E H l)(I:yF w' base p (zf (zo ⟨g,0,zp⟩) n' G) A D B J):∀z,PK w' p z->PK w p z:=fun z M=>by have:=I.rowIs M;simp[zX]at this;exact this▸h.rowOf
theorem yF.bL{w:zu}{base p g cap n:Nat}{room B A:Int}{l:List Pl}(h:yF w base p (zf (zo ⟨g,0,zp⟩) n cap) room B A l):bL w g:=by
 rcases h.own.2 with⟨D,_⟩|⟨g',h0,cur,D,_,E,_⟩
 .cases D
 .cases D;exact⟨_,_,E⟩
theorem yF.OS{base:Nat}{room B A:Int}{l:List Pl}(h:yF w base p (zf (zo ⟨g,0,zp⟩) n cap) room B A l):base<=g:=by
 rcases h.row with⟨D,_⟩|⟨b',h0,D,hb,_⟩
 .cases D
 .cases D;exact hb
theorem yF.step{base:Nat}{room D B:Int}{l:List Pl}(h:yF w base p (zf (zo ⟨g,0,zp⟩) n cap) room D B l)(hb:base<=w.heap.size)(A:OA (fun z=>z=g∨z=p) w w')(G:∀z,PK w' p z->PK w p z):OB base p w w':=
 ⟨⟨A.os,A.tape,A.output,A.size,fun k hk E=>A.block k hk (fun e=>E (by rcases e with rfl|rfl;exact .inr ⟨h.bL,h.rowOf⟩;exact .inl rfl))⟩,
  A.below hb (fun k hk=>by rcases hk with rfl|rfl;exact h.OS;exact h.lo),fun _ z _=>G z⟩
theorem OB.same{base:Nat}(h:OB base p w w'){cs:Array zz}{t:TypeId}{fr:Nat×Nat}(hk:w.heap[k]?=zo (zn cs t fr))(A:k≠p)(B:t≠211):w'.heap[k]?=zo (zn cs t fr):=by
 rw[h.RB.block k (yx hk).1 ?_]
 .exact hk
 .rintro(e|⟨⟨h0,h1,hb⟩,_⟩)
  .exact A e
  .rw[hk]at hb;simp only[Option.some.injEq,Obj.cells.injEq]at hb;exact B hb.2.1
theorem Gb(i g:Int)(k:Nat)(q:Pl)(w:zu)(base p b cap:Nat)(room B A:Int)(l:List Pl)(h:yF w base p (zf (zo ⟨b,0,zp⟩) l.length cap) room B A l)(J:l.length<=4096)(N:Qv l i g k q):
 zw prog 177 #[ze (zo ⟨p,0,zp⟩),zg #[zd zj i,zd zj g]] w fun e w'=>e=zm (ze (zo ⟨b,k*6,zp⟩))/\∃n,(w.alloc (zn #[zd zj i,zd zj g] 78)).drewN n=w':=by
 obtain⟨rfl,I,M,H⟩:=N;obtain⟨hk,D⟩:=yy I;have hb:b<w.heap.size:=h.gD;have G:=h.place k 3 hk (by omega);have E:=h.place k 4 hk (by omega);rw[D]at G E;have c:=Si k g w p b l.length cap q h.lt hb h.cell.2.2.1 hk J G E;rwa[if_pos ⟨M,H⟩]at c
theorem Vx(i g:Int)(w:zu)(base p:Nat)(v:zz)(room B A:Int)(l:List Pl)(h:yF w base p v room B A l)(I:l.length<=4096)(J:vk l i g):
 zw prog 177 #[ze (zo ⟨p,0,zp⟩),zg #[zd zj i,zd zj g]] w fun e w'=>e=zm (ze zp)/\∃n,(w.alloc (zn #[zd zj i,zd zj g] 78)).drewN n=w':=by
 by_cases D:i<0
 .exact QU i g w p D
 .by_cases E:(l.length:Int)<=i
  .rcases h.row with⟨rfl,rfl⟩|⟨b,cap,rfl,_⟩
   .exact Ga i g w p _ 0 0 h.lt h.cell.2.2.1 (by simpa using E) (by omega)
   .exact Ga i g w p _ _ cap h.lt h.cell.2.2.1 E (by omega)
  .obtain⟨k,rfl⟩:=Int.eq_ofNat_of_zero_le (Int.not_lt.1 D);have hk:k<l.length:=by omega
   rcases h.row with⟨_,rfl⟩|⟨b,cap,rfl,_,hb,_⟩
   .simp at hk
   .have M:=h.place k 3 hk (by omega);have H:=h.place k 4 hk (by omega);have c:=Si k g w p b l.length cap l[k] h.lt hb h.cell.2.2.1 hk I M H;rwa[if_neg (fun G=>J k l[k] ⟨rfl,zy hk,G.1,G.2⟩)]at c
theorem CU(i g:Int)(w:zu)(base p:Nat)(v:zz)(room B A:Int)(l:List Pl)(h:yF w base p v room B A l)(H:l.length<=4096)(E:vk l i g):
 zw prog 119 #[ze (zo ⟨p,0,zp⟩),zg #[zd zj i,zd zj g]] w fun e w'=>e=zm (zi #[zg (yU .zero),zd zj 2])/\Below w.heap.size w w':=by
 have G:=yw (fun o D=>Vx i g ((w.alloc o).alloc D) base p v room B A l ((h.alloc o).alloc D) H E);clear h E;go_enter func119,ntmps119;go_wp2_with (go_at_call 177;refine(G.out _ _).mono ?_;rintro e w1 ⟨rfl,n,rfl⟩);refine bodyPost_ret (v:=zi #[zg (yU .zero),zd zj 2]) (by simp[results,results119,go_sem,SZ.zero]) rfl ⟨rfl,?_⟩;exact((((yH ((((zU _ _).alloc (yA _) _).alloc (by simp) _).alloc (by simp;omega) _) _).setCell (by simp) _).setCell (by simp) _).setCell (by simp) _)
theorem IJ(i g:Int)(k:Nat)(q:Pl)(w:zu)(base p b cap:Nat)(room B A:Int)(l:List Pl)(h:yF w base p (zf (zo ⟨b,0,zp⟩) l.length cap) room B A l)(N:l.length<=4096)(I:Qv l i g k q):
 zw prog 119 #[ze (zo ⟨p,0,zp⟩),zg #[zd zj i,zd zj g]] w fun e w'=>e=zm (zi #[zg (yU q.x),zd zj 0])/\Below w.heap.size w w':=by
 have M:=yw (fun o J=>Gb i g k q ((w.alloc o).alloc J) base p b cap room B A l ((h.alloc o).alloc J) N I);have hb:=h.gD;obtain⟨hk,H⟩:=yy I.2.1;have D:=h.place k 0 hk (by omega);have E:=h.place k 1 hk (by omega);have G:=h.place k 2 hk (by omega);rw[H]at D E G;have h2:w.cell? ⟨b,k*6,zp⟩=zo (zd zj q.x.ui):=D;have h1:w.cell? ⟨b,k*6+1,zp⟩=zo (zd zj q.x.ug):=E;have h0:w.cell? ⟨b,k*6+2,zp⟩=zo (zd zj q.x.dp):=G;have h4:b<w.heap.size+1:=by omega
 have h3:b<w.heap.size+1+1:=by omega
 clear h I D E G H;go_enter func119,ntmps119;go_wp2_with (go_at_call 177;refine(M.out _ _).mono ?_;rintro e w1 ⟨rfl,n,rfl⟩);refine bodyPost_ret (v:=zi #[zg (yU q.x),zd zj 0]) (by simp[results,results119,go_sem]) rfl ⟨rfl,?_⟩;exact((((yH ((((zU _ _).alloc (yA _) _).alloc (by simp) _).alloc (by simp;omega) _) _).setCell (by simp) _).setCell (by simp) _).setCell (by simp) _)
theorem CV(i g:Int)(x:SZ)(w:zu)(base p:Nat)(v:zz)(room B A:Int)(l:List Pl)(h:yF w base p v room B A l)(H:l.length<=4096)(E:vk l i g):
 zw prog 128 #[ze (zo ⟨p,0,zp⟩),zg #[zd zj i,zd zj g],zg (yU x)] w fun e w'=>e=zm (zd zj 2)/\Below w.heap.size w w':=by
 have G:=yw (fun o D=>Vx i g ((w.alloc o).alloc D) base p v room B A l ((h.alloc o).alloc D) H E);clear h E;go_enter func128,ntmps128;go_wp2_with (go_at_call 177;refine(G.out _ _).mono ?_;rintro e w1 ⟨rfl,n,rfl⟩);go_ret;exact⟨rfl,yH ((((zU _ _).alloc (yA _) _).alloc (by simp) _).alloc (by simp;omega) _) _⟩
theorem IK(i g:Int)(x:SZ)(k:Nat)(q:Pl)(w:zu)(base p b cap:Nat)(room B A:Int)(l:List Pl)(h:yF w base p (zf (zo ⟨b,0,zp⟩) l.length cap) room B A l)(R:l.length<=4096)(J:Qv l i g k q):
 zw prog 128 #[ze (zo ⟨p,0,zp⟩),zg #[zd zj i,zd zj g],zg (yU x)] w fun e w'=>e=zm (zd zj 0)/\yF w' base p (zf (zo ⟨b,0,zp⟩) l.length cap) room B A (l.set k ⟨x,q.gen,q.used,q.next⟩)/\OA (· =b) w w':=by
 have O:=yw (fun o M=>Gb i g k q ((w.alloc o).alloc M) base p b cap room B A l ((h.alloc o).alloc M) R J);have hb:=h.gD;have h7:b<w.heap.size+1:=by omega
 have h4:b<w.heap.size+1+1:=by omega
 have I:=J.2.1;obtain⟨hk,H⟩:=yy I;have D:=h.place k 0 hk (by omega);have E:=h.place k 1 hk (by omega);have G:=h.place k 2 hk (by omega);rw[H]at D E G;have h2:w.cell? ⟨b,k*6,zp⟩=zo (zd zj q.x.ui):=D;have h1:w.cell? ⟨b,k*6+1,zp⟩=zo (zd zj q.x.ug):=E;have h0:w.cell? ⟨b,k*6+2,zp⟩=zo (zd zj q.x.dp):=G;have h3:=h.OE (k*6);have h6:=h.OE (k*6+1);have h5:=h.OE (k*6+2);have N:=yw I;have T:=yw h;clear h J D E G H I;go_enter func128,ntmps128;go_wp2_with (go_at_call 177;refine(O.out _ _).mono ?_;rintro e w1 ⟨rfl,n,rfl⟩);go_ret
 exact⟨rfl,((((T.out.alloc _).alloc _).alloc _).drewN n).eZ k q ⟨x,q.gen,q.used,q.next⟩ N.out rfl rfl rfl,OA.setCell (F:=(· =b)) (OA.setCell (F:=(· =b)) (OA.setCell (F:=(· =b)) (((((OA.refl _ _).alloc _).alloc _).alloc _).drewN n) (.inl rfl) _) (.inl rfl) _) (.inl rfl) _⟩
theorem Dp(i g:Int)(w:zu)(base p:Nat)(v:zz)(room B A:Int)(l:List Pl)(h:yF w base p v room B A l)(H:l.length<=4096)(E:vk l i g):
 zw prog 125 #[ze (zo ⟨p,0,zp⟩),zg #[zd zj i,zd zj g]] w fun e w'=>e=zm (zi #[zg (yU .zero),zd zj 2])/\Below w.heap.size w w':=by
 have G:=yw (fun o D=>Vx i g ((w.alloc o).alloc D) base p v room B A l ((h.alloc o).alloc D) H E);clear h E;go_enter func125,ntmps125;go_wp2_with (go_at_call 177;refine(G.out _ _).mono ?_;rintro e w1 ⟨rfl,n,rfl⟩);refine bodyPost_ret (v:=zi #[zg (yU .zero),zd zj 2]) (by simp[results,results125,go_sem,SZ.zero]) rfl ⟨rfl,?_⟩;exact((((yH ((((zU _ _).alloc (yA _) _).alloc (by simp) _).alloc (by simp;omega) _) _).setCell (by simp) _).setCell (by simp) _).setCell (by simp) _)
theorem Gc(i g:Int)(k:Nat)(q:Pl)(w:zu)(base p b cap:Nat)(room A B:Int)(l:List Pl)(h:yF w base p (zf (zo ⟨b,0,zp⟩) l.length cap) room A B l)(Y:l.length<=4096)(I:Qv l i g k q)
 (hg:0<=q.gen/\q.gen<=1000000) (hm: -1000000<=A/\A<=4096):
 zw prog 125 #[ze (zo ⟨p,0,zp⟩),zg #[zd zj i,zd zj g]] w fun e w'=>e=zm (zi #[zg (yU q.x),zd zj 0])/\yF w' base p (zf (zo ⟨b,0,zp⟩) l.length cap) room (A-1) k (l.set k ⟨.zero,q.gen+1,zt,B⟩)/\OA (fun z=>z=b∨z=p) w w':=by
 have X:=yw (fun o U=>Gb i g k q ((w.alloc o).alloc U) base p b cap room A B l ((h.alloc o).alloc U) Y I);have hb:=h.gD;have hv:b<w.heap.size+1:=by omega
 have hr:b<w.heap.size+1+1:=by omega
 have hp:=h.lt;have h7:b≠p:=by have:=h.ne;simpa[zX]using this
 have M:=I.2.1;obtain rfl:=I.1;obtain⟨hk,H⟩:=yy M;have D:=h.place k 0 hk (by omega);have E:=h.place k 1 hk (by omega);have G:=h.place k 2 hk (by omega);have N:=h.place k 3 hk (by omega);have J:=h.place k 4 hk (by omega);have R:=h.place k 5 hk (by omega);rw[H]at D E G N J R;have h5:w.cell? ⟨b,k*6,zp⟩=zo (zd zj q.x.ui):=D;have h4:w.cell? ⟨b,k*6+1,zp⟩=zo (zd zj q.x.ug):=E;have h0:w.cell? ⟨b,k*6+2,zp⟩=zo (zd zj q.x.dp):=G;have hj:w.cell? ⟨b,k*6+3,zp⟩=zo (zd zj q.gen):=N;have hh:w.cell? ⟨b,k*6+4,zp⟩=zo (zh q.used):=J;have ho:w.cell? ⟨b,k*6+5,zp⟩=zo (zd zj q.next):=R
 have ha:=h.OE (k*6);have hu:=h.OE (k*6+3);have ht:=h.OE (k*6+4);have h8:=h.OE (k*6+5);have hi:=h.OE (k*6+1);have he:=h.OE (k*6+2);obtain⟨c0,c1,c2,c3⟩:=h.cell;have hc:=h.free 1;have h9:=h.free 3;have V:=yw M;have Z:=yw h;clear h I D E G N J R H M;go_enter func125,ntmps125;go_wp2_with (go_at_call 177;refine(X.out _ _).mono ?_;rintro e w1 ⟨rfl,n,rfl⟩);have h6:p<w.heap.size+1:=by omega
 have hf:p<w.heap.size+1+1:=by omega
 go_region;go_wp2;refine bodyPost_ret (v:=zi #[zg (yU q.x),zd zj 0]) (by simp[results,results125,go_sem]) rfl ⟨rfl,?_⟩;have T:w.heap.size+1≠p:=by omega
 have O:(zf (zo ⟨b,0,zp⟩) l.length cap).ownBlock≠zo (w.heap.size+1):=by simp[zX];omega
 exact⟨((((((((((((Z.out.alloc _).alloc _).alloc _).drewN n).iB k q ⟨.zero,q.gen+1,zt,B⟩ V.out).AY k).bK (A-1)).PR T O).PR T O).PR T O).alloc _).drewN 1),
  (((((((((((((((((OA.refl (fun z=>z=b∨z=p) w).alloc _).alloc _).alloc _).drewN n).setCell (.inl (.inl rfl)) _).setCell (.inl (.inl rfl)) _).setCell (.inl (.inl rfl)) _).setCell (.inl (.inl rfl)) _).setCell (.inl (.inl rfl)) _).setCell (.inl (.inl rfl)) _).setCell (.inl (.inr rfl)) _).setCell (.inl (.inr rfl)) _).setCell (.inr (by simp)) _).setCell (.inr (by simp)) _).setCell (.inr (by simp)) _).alloc _).drew⟩
theorem AJ(room:Int)(w:zu)(h:1<=room/\room<=4096):
 zw prog 67 #[zd zj room] w fun e w'=>e=zm (zi #[ze (zo ⟨w.heap.size,0,zp⟩),zd zj 0])/\
  w.alloc (zn #[zd zj room,zd zj 0,zf zp 0 0,zd zj (-1)] 209)=w':=by
 go_enter func67,ntmps67;go_wp2;go_ret2;exact⟨rfl,rfl⟩
theorem yF.made(w:zu)(room:Int)(base:Nat)(h:base<=w.heap.size):yF (w.alloc (zn #[zd zj room,zd zj 0,zf zp 0 0,zd zj (-1)] 209)) base w.heap.size (zf zp 0 0) room 0 (-1) []:=
 ⟨heap_alloc_new w _,World.ownsRow_nil _ _ _ _,by simp[zX],h⟩
theorem Gd(x:SZ)(w:zu)(base p:Nat)(v:zz)(room A B:Int)(l:List Pl)(h:yF w base p v room A B l)(D:A=room):
 zw prog 68 #[ze (zo ⟨p,0,zp⟩),zg (yU x)] w fun e w'=>e=zm (zi #[zg #[zd zj 0,zd zj 0],zd zj 3])/\Below w.heap.size w w':=by
 subst D;have h1:=h.lt;obtain⟨c0,c1,c2,c3⟩:=h.cell;clear h;go_enter func68,ntmps68;go_wp2;go_quiet (fail);go_wp2;refine bodyPost_ret (v:=zi #[zg #[zd zj 0,zd zj 0],zd zj 3]) (by simp[results,results68,go_sem]) rfl ⟨rfl,?_⟩;exact((yH (((zU _ _).alloc (yA _) _).alloc (by simp) _) _).setCell (by simp) _).setCell (by simp) _
theorem Dq(x:SZ)(k:Nat)(q:Pl)(w:zu)(base p b cap:Nat)(room A:Int)(l:List Pl)(h:yF w base p (zf (zo ⟨b,0,zp⟩) l.length cap) room A k l)(hl:l.length<=4096)(I:l[k]?=zo q)(hm: -1000000<=A/\A<=4096)(hr:A<room):
 zw prog 68 #[ze (zo ⟨p,0,zp⟩),zg (yU x)] w fun e w'=>e=zm (zi #[zg #[zd zj k,zd zj q.gen],zd zj 0])/\
  yF w' base p (zf (zo ⟨b,0,zp⟩) l.length cap) room (A+1) q.next (l.set k ⟨x,q.gen,zq,-1⟩)/\OA (fun z=>z=b∨z=p) w w':=by
 have hb:=h.gD;have hv:b<w.heap.size+1:=by omega
 have ho:b<w.heap.size+1+1:=by omega
 have hp:=h.lt;have h7:p<w.heap.size+1:=by omega
 have hg:p<w.heap.size+1+1:=by omega
 have h8:b≠p:=by have:=h.ne;simpa[zX]using this
 obtain⟨hk,G⟩:=yy I;have B:=h.place k 0 hk (by omega);have D:=h.place k 1 hk (by omega);have E:=h.place k 2 hk (by omega);have J:=h.place k 3 hk (by omega);have H:=h.place k 4 hk (by omega);have M:=h.place k 5 hk (by omega);rw[G]at B D E J H M;have h5:w.cell? ⟨b,k*6,zp⟩=zo (zd zj q.x.ui):=B;have h4:w.cell? ⟨b,k*6+1,zp⟩=zo (zd zj q.x.ug):=D;have h0:w.cell? ⟨b,k*6+2,zp⟩=zo (zd zj q.x.dp):=E;have hj:w.cell? ⟨b,k*6+3,zp⟩=zo (zd zj q.gen):=J;have hh:w.cell? ⟨b,k*6+4,zp⟩=zo (zh q.used):=H;have hn:w.cell? ⟨b,k*6+5,zp⟩=zo (zd zj q.next):=M;have hc:=h.OE (k*6)
 have ht:=h.OE (k*6+4);have h9:=h.OE (k*6+5);have hi:=h.OE (k*6+1);have hf:=h.OE (k*6+2);obtain⟨c0,c1,c2,c3⟩:=h.cell;have he:=h.free 1;have ha:=h.free 3;have hu:(A == room)=zt:=beq_eq_false_iff_ne.2 (by omega);have h6:((k:Int) == -1)=zt:=beq_eq_false_iff_ne.2 (by omega);have R:=yw I;have T:=yw h;clear h B D E J H M G I;go_enter func68,ntmps68;go_wp2;go_quiet (fail);go_wp2;refine bodyPost_ret (v:=zi #[zg #[zd zj k,zd zj q.gen],zd zj 0]) (by simp[results,results68,go_sem]) rfl ⟨rfl,?_⟩;have O:w.heap.size+1≠p:=by omega
 have N:(zf (zo ⟨b,0,zp⟩) l.length cap).ownBlock≠zo (w.heap.size+1):=by simp[zX];omega
 exact⟨((((((((T.out.alloc _).alloc _).drewN _).bK (A+1)).AY q.next).fB k q ⟨x,q.gen,zq,-1⟩ R.out rfl).PR O N).PR O N),
  ((((((((((((OA.refl (fun z=>z=b∨z=p) w).alloc _).alloc _).drewN _).setCell (.inl (.inr rfl)) _).setCell (.inl (.inr rfl)) _).setCell (.inl (.inl rfl)) _).setCell (.inl (.inl rfl)) _).setCell (.inl (.inl rfl)) _).setCell (.inl (.inl rfl)) _).setCell (.inl (.inl rfl)) _).setCell (.inr (by simp)) _).setCell (.inr (by simp)) _⟩
def gE:Pl:=⟨.zero,0,zt,0⟩
def TA(l:List Pl)(k:Nat):Nat:=(l.getD k gE).x.ui.toNat
theorem xD{l:List Pl}{q:Pl}(h:l[k]?=zo q):l.getD k gE=q:=by rw[List.getD_eq_getElem?_getD,h];rfl
def bM(l:List Pl)(k:Nat):Prop:=∃q,l[k]?=zo q/\q.used=zq
def dep(l:List Pl)(k:Nat):Nat:=(l.getD k gE).x.dp.toNat
structure Tr(l:List Pl):Prop where
 root:∃q,l[0]?=zo q/\q.used=zq/\q.gen=0/\q.x=⟨-1,0,0,0⟩
 fW:∀(k:Nat) (q:Pl),l[k]?=zo q->q.used=zq->k≠0->∃(j:Nat) (p:Pl),l[j]?=zo p/\p.used=zq/\q.x=⟨j,j,p.gen,p.x.dp+1⟩/\1<=q.x.dp/\q.x.dp<=8
theorem Tr.gF{l:List Pl}(h:Tr l):bM l 0:=by obtain⟨q,A,B,_⟩:=h.root;exact⟨q,A,B⟩
theorem Tr.dp{l:List Pl}(h:Tr l){q:Pl}(B:l[k]?=zo q)(D:q.used=zq):0<=q.x.dp/\q.x.dp<=8/\(q.x.dp=0↔k=0)/\q.x.dp=(dep l k:Nat):=by
 have hd:dep l k=q.x.dp.toNat:=by unfold dep;rw[xD B]
 by_cases hk:k=0
 .subst hk;obtain⟨q',A,_,_,E⟩:=h.root;rw[B]at A;cases A;rw[hd,E];simp
 .obtain⟨j,p,_,_,_,h1,h2⟩:=h.fW k q B D hk;rw[hd];omega
theorem Tr.up{l:List Pl}(h:Tr l)(B:bM l k)(hk:k≠0):bM l (TA l k)/\dep l k=dep l (TA l k)+1:=by
 obtain⟨q,D,B⟩:=B;obtain⟨j,p,E,A,H,h1,h2⟩:=h.fW k q D B hk;have I:TA l k=j:=by unfold TA;rw[xD D,H];simp
 rw[I];have G:=(h.dp D B).2.2.2;have e2:=(h.dp E A).2.2.2;refine⟨⟨p,E,A⟩,?_⟩;rw[H]at G;simp only at G;omega
theorem Tr.bZ{l:List Pl}(h:Tr l)(A:bM l k):dep l k<=8/\(dep l k=0↔k=0):=by obtain⟨q,B,A⟩:=A;obtain⟨h1,h2,h3,h4⟩:=h.dp B A;omega
def Eh(l:List Pl):Nat->Nat->List Nat
 | 0,k=> [k]
 | n+1,k=>if k=0 then [0]else k::Eh l n (TA l k)
def SP(l:List Pl)(k:Nat):List Nat:=Eh l 8 k
theorem uo(l:List Pl):∀n,Eh l n 0= [0]
 | 0=>rfl
 | n+1=>by simp[Eh]
theorem Sk{l:List Pl}(h:Tr l):∀(n m k:Nat),bM l k->dep l k<=n->dep l k<=m->Eh l n k=Eh l m k
 | 0,m,k,hu,hn,hm=>by have hk:k=0:=(h.bZ hu).2.1 (by omega);subst hk;rw[uo,uo]
 | n+1,0,k,hu,hn,hm=>by have hk:k=0:=(h.bZ hu).2.1 (by omega);subst hk;rw[uo,uo]
 | n+1,m+1,k,hu,hn,hm=>by
  by_cases hk:k=0
  .subst hk;rw[uo,uo]
  .obtain⟨A,h2⟩:=h.up hu hk;simp only[Eh,if_neg hk];rw[Sk h n m (TA l k) A (by omega) (by omega)]
theorem Bb(l:List Pl):SP l 0= [0]:=uo l 8
theorem Bc{l:List Pl}(h:Tr l)(A:bM l k)(hk:k≠0):SP l k=k::SP l (TA l k):=by obtain⟨B,h2⟩:=h.up A hk;have h3:=(h.bZ A).1;show Eh l 8 k=k::Eh l 8 (TA l k);rw[show Eh l 8 k=if k=0 then [0]else k::Eh l 7 (TA l k)from rfl,if_neg hk,Sk h 7 8 (TA l k) B (by omega) (by omega)]
theorem Tr.induct{l:List Pl}(h:Tr l){P:Nat->Prop}(B:P 0)(hs:∀k,bM l k->k≠0->P (TA l k)->P k):∀k,bM l k->P k:=by
 have D:∀n k,dep l k<=n->bM l k->P k:=by
  intro n
  induction n with
  | zero=>intro k G A;rw[(h.bZ A).2.1 (by omega)];exact B
  | succ n ih=>
   intro k G A;by_cases hk:k=0
   .rw[hk];exact B
   .obtain⟨E,h2⟩:=h.up A hk;exact hs k A hk (ih _ (by omega) E)
 exact fun k A=>D _ k (yA _) A
theorem Sl{l:List Pl}(h:Tr l)(A:bM l k):k∈SP l k:=by
 by_cases hk:k=0
 .subst hk;rw[Bb];simp
 .rw[Bc h A hk];simp
theorem IL{l:List Pl}(h:Tr l):∀k,bM l k->∀j∈SP l k,dep l j<=dep l k/\(dep l j=dep l k->j=k):=
 h.induct (by rw[Bb];intro j A;rw[List.mem_singleton.1 A];simp) (fun k B hk ih=>by
  rw[Bc h B hk];obtain⟨h1,h2⟩:=h.up B hk;intro j A;rcases List.mem_cons.1 A with rfl|A
  .simp
  .obtain⟨h3,h4⟩:=ih j A;constructor
   .omega
   .intro e;omega)
def RI(l:List Pl)(a b:Nat):Bool:=decide (b∈SP l a)
theorem vA{l:List Pl}{b:Nat}:RI l 0 b=decide (b=0):=by unfold RI;rw[Bb];simp
theorem SC{l:List Pl}(h:Tr l){a:Nat}(B:bM l a)(A:a≠0)(b:Nat):RI l a b=(decide (b=a) || RI l (TA l a) b):=by unfold RI;rw[Bc h B A];simp[Bool.decide_or]
def AF(l:List Pl)(k:Nat):List Nat:=(SP l k).dropLast.reverse
theorem Jp(l:List Pl):AF l 0= []:=by unfold AF;rw[Bb];rfl
theorem MV(l:List Pl)(k:Nat):SP l k≠ []:=by unfold SP Eh;split<;>simp
theorem Jq{l:List Pl}(h:Tr l)(A:bM l k)(hk:k≠0):AF l k=AF l (TA l k)++ [k]:=by unfold AF;rw[Bc h A hk,List.dropLast_cons_of_ne_nil (MV l _),List.reverse_cons]
theorem Gf{l:List Pl}(h:Tr l):∀k,bM l k->(AF l k).length=dep l k:=
 h.induct (by rw[Jp];exact((h.bZ h.gF).2.2 rfl).symm) (fun k A hk ih=>by rw[Jq h A hk,zE,ih,(h.up A hk).2];rfl)
end Go.Proofs.YtmpdpmhpkgbepaaGreatDoor
namespace Go.Proofs.YtmpdpmhpkgbepaaGreatDoor
namespace Pi
open Go Go.RowKit Go.ChangeShapes Go.WideShapes
theorem xC{w:zu}{base:Nat}{e:TypeId}{A:Nat}{v:zz}{n:Nat}{D:List zz}{b:Nat}{o:Nat}{u:zz}(h:w.ownsRow base e A v n D)(B:v.ownBlock≠zo b):(w.setCell ⟨b,o,zp⟩ u).ownsRow base e A v n D:=by
 refine⟨h.1,?_⟩;rcases h.2 with I|⟨g,cap,cur,E,hb,G,H⟩
 .exact .inl I
 .refine .inr ⟨g,cap,cur,E,hb,?_,H⟩;rw[zR _ _ _ _ (by rintro rfl;exact B (by rw[E];rfl))];exact G
structure Pl where
 x:Int
 gen:Int
 used:Bool
 next:Int
def Pl.cells(s:Pl):List zz:= [zd zj s.x,zd zj s.gen,zh s.used,zd zj s.next]
theorem Pl.PG(s:Pl):s.cells.length=4:=rfl
def RP(l:List Pl):List zz:=l.flatMap Pl.cells
def cN(l:List Pl)(i:Nat)(c:List zz):List zz:=RP (l.take i)++c++RP (l.drop (i+1))
theorem Qs(l:List Pl):(RP l).length=l.length*4:=by
 induction l with
 | nil=>rfl
 | cons a r ih=>
  have e:RP (a::r)=a.cells++RP r:=by simp[RP]
  rw[e,zE,Pl.PG,ih,List.length_cons];omega
theorem qJ(a b:List Pl):RP (a++b)=RP a++RP b:=by simp[RP]
theorem Jn(l:List Pl)(i:Nat)(h:i<l.length):cN l i (l[i].cells)=RP l:=by
 have e:l=l.take i++ [l[i]]++l.drop (i+1):=by simp
 have A:RP l=RP (l.take i++ [l[i]]++l.drop (i+1)):=congrArg RP e;rw[A,qJ,qJ];simp[cN,RP]
theorem Ob(l:List Pl)(i:Nat)(q:Pl)(h:i<l.length):cN l i q.cells=RP (l.set i q):=by rw[List.set_eq_take_append_cons_drop,if_pos h,qJ];simp[cN,RP]
theorem Dn(l:List Pl)(i:Nat)(c:List zz)(j:Nat)(u:zz)(h:i<l.length)(B:j<c.length):(cN l i c).set (i*4+j) u=cN l i (c.set j u):=by
 have A:(RP (l.take i)).length=i*4:=by rw[Qs,List.length_take,Nat.min_eq_left (by omega)]
 unfold cN;rw[List.append_assoc,List.set_append_right _ _ (by omega),A,Nat.add_sub_cancel_left,List.set_append_left _ _ B,<-List.append_assoc]
theorem Oc(l:List Pl)(i:Nat)(c:List zz)(j:Nat)(h:i<l.length)(B:j<c.length):(cN l i c)[i*4+j]?=c[j]?:=by
 have A:(RP (l.take i)).length=i*4:=by rw[Qs,List.length_take,Nat.min_eq_left (by omega)]
 unfold cN;rw[List.append_assoc,zV (by omega),A,Nat.add_sub_cancel_left,zF B]
theorem Od(l:List Pl)(i j:Nat)(h:i<l.length)(A:j<4):(RP l)[i*4+j]?=(l[i].cells)[j]?:=by rw[<-Jn l i h,Oc l i _ j h (by simpa[Pl.PG]using A)]
structure yF(w:zu)(base p:Nat)(v:zz)(room many free:Int)(l:List Pl):Prop where
 RO:w.heap[p]?=zo (zn #[zd zj room,zd zj many,v,zd zj free] 147 (0,0))
 own:w.ownsRow base 233 4 v l.length (RP l)
 ne:v.ownBlock≠zo p
 lo:base<=p
theorem yF.lt{w:zu}{base p:Nat}{v:zz}{room A B:Int}{l:List Pl}(h:yF w base p v room A B l):p<w.heap.size:=(yx h.RO).1
theorem yF.cell{w:zu}{base p:Nat}{v:zz}{room A B:Int}{l:List Pl}(h:yF w base p v room A B l):
 w.cell? ⟨p,0,zp⟩=zo (zd zj room)/\w.cell? ⟨p,1,zp⟩=zo (zd zj A)/\w.cell? ⟨p,2,zp⟩=zo v/\w.cell? ⟨p,3,zp⟩=zo (zd zj B):=by
 have hb:=h.RO;refine⟨?_,?_,?_,?_⟩<;>simp[zN,hb]
theorem yF.free{w:zu}{base p:Nat}{v:zz}{room A B:Int}{l:List Pl}(h:yF w base p v room A B l)(i:Nat):w.frozen? ⟨p,i,zp⟩=zt:=by have hb:=h.RO;simp[zY,hb]
theorem yF.row{w:zu}{base p:Nat}{v:zz}{room B A:Int}{l:List Pl}(h:yF w base p v room B A l):
 (v=zf zp 0 0/\l= [])∨∃g cap,v=zf (zo ⟨g,0,zp⟩) l.length cap/\base<=g/\g<w.heap.size/\g≠p/\l.length<=cap/\cap<=maxLen:=by
 rcases h.own.2 with⟨D,H⟩|⟨g,cap,cur,D,E,G,J,I,_,_⟩
 .exact .inl ⟨D,List.eq_nil_of_length_eq_zero H⟩
 .refine .inr ⟨g,cap,D,E,(yx G).1,?_,J,I⟩;have:=h.ne;rw[D]at this;simpa[zX]using this
theorem yF.place{w:zu}{base p g cap:Nat}{room A B:Int}{l:List Pl}(h:yF w base p (zf (zo ⟨g,0,zp⟩) l.length cap) room A B l)(i j:Nat)(E:i<l.length)(D:j<4):
 w.cell? ⟨g,i*4+j,zp⟩=(l[i].cells)[j]?:=by
 rw[h.own.cellAt (i*4+j) (by omega),Od l i j E D]
theorem yF.OE{w:zu}{base p g cap:Nat}{room A B:Int}{l:List Pl}(h:yF w base p (zf (zo ⟨g,0,zp⟩) l.length cap) room A B l)(j:Nat):w.frozen? ⟨g,j,zp⟩=zt:=h.own.frozenAt j
theorem yF.alloc{w:zu}{base p:Nat}{v:zz}{room A B:Int}{l:List Pl}(h:yF w base p v room A B l)(o:Obj):yF (w.alloc o) base p v room A B l:=
 ⟨by rw[zZ w o p h.lt];exact h.RO,h.own.alloc o,h.ne,h.lo⟩
theorem yF.drewN{w:zu}{base p:Nat}{v:zz}{room A B:Int}{l:List Pl}(h:yF w base p v room A B l)(n:Nat):yF (w.drewN n) base p v room A B l:=⟨h.RO,h.own,h.ne,h.lo⟩
theorem yF.kept{w w':zu}{base p:Nat}{v:zz}{room B A:Int}{l:List Pl}(h:yF w base p v room B A l)(G:w'.heap[p]?=w.heap[p]?)(E:∀g,v.ownBlock=zo g->w'.heap[g]?=w.heap[g]?):yF w' base p v room B A l:=by
 refine⟨by rw[G];exact h.RO,⟨h.own.1,?_⟩,h.ne,h.lo⟩;rcases h.own.2 with J|⟨g,cap,cur,D,hb,H,I⟩
 .exact .inl J
 .exact .inr ⟨g,cap,cur,D,hb,by rw[E g (by rw[D];rfl)];exact H,I⟩
theorem yF.gD{w:zu}{base p g cap n:Nat}{room B A:Int}{l:List Pl}(h:yF w base p (zf (zo ⟨g,0,zp⟩) n cap) room B A l):g<w.heap.size:=by
 rcases h.row with⟨D,_⟩|⟨b',h0,D,_,hb,_⟩
 .cases D
 .cases D;exact hb
theorem yF.len{w:zu}{base p g cap n:Nat}{room B A:Int}{l:List Pl}(h:yF w base p (zf (zo ⟨g,0,zp⟩) n cap) room B A l):n=l.length:=by
 rcases h.row with⟨D,_⟩|⟨b',h0,D,_⟩
 .cases D
 .cases D;rfl
theorem yF.store{w:zu}{base p g cap n:Nat}{room B A:Int}{l:List Pl}(h:yF w base p (zf (zo ⟨g,0,zp⟩) n cap) room B A l)(k j:Nat)(u:zz)(q q':Pl)(hk:l[k]?=zo q)(I:j<4)(H:q.cells.set j u=q'.cells):
 yF (w.setCell ⟨g,k*4+j,zp⟩ u) base p (zf (zo ⟨g,0,zp⟩) n cap) room B A (l.set k q'):=by
 obtain rfl:=h.len;obtain⟨D,rfl⟩:=yy hk;have E:g≠p:=by have:=h.ne;simpa[zX]using this
 refine⟨?_,?_,h.ne,h.lo⟩
 .rw[zR _ _ _ _ (by exact fun e=>E e.symm)];exact h.RO
 .have G:=(h.own.stored (k*4+j) u).1;have e:(RP l).set (k*4+j) u=RP (l.set k q'):=by have:=Dn l k (l[k].cells) j u D (by simpa[Pl.PG]using I);rw[Jn l k D]at this;rw[this,H,Ob l k q' D]
  rw[e]at G;rw[zD];exact G
theorem yF.iC{w:zu}{base p g cap n:Nat}{room B A:Int}{l:List Pl}(h:yF w base p (zf (zo ⟨g,0,zp⟩) n cap) room B A l)(k:Nat)(q q':Pl)(hk:l[k]?=zo q):
 yF ((((w.setCell ⟨g,k*4,zp⟩ (zd zj q'.x)).setCell ⟨g,k*4+1,zp⟩ (zd zj q'.gen)).setCell ⟨g,k*4+2,zp⟩ (zh q'.used)).setCell ⟨g,k*4+3,zp⟩ (zd zj q'.next)) base p (zf (zo ⟨g,0,zp⟩) n cap) room B A (l.set k q'):=by
 have D:=(yy hk).1;have H:=h.store k 0 (zd zj q'.x) q ⟨q'.x,q.gen,q.used,q.next⟩ hk (by omega) rfl;have G:=H.store k 1 (zd zj q'.gen) ⟨q'.x,q.gen,q.used,q.next⟩ ⟨q'.x,q'.gen,q.used,q.next⟩ (by rw[zT D]) (by omega) rfl;have I:=G.store k 2 (zh q'.used) ⟨q'.x,q'.gen,q.used,q.next⟩ ⟨q'.x,q'.gen,q'.used,q.next⟩ (by rw[zT (by simpa using D)]) (by omega) rfl;have E:=I.store k 3 (zd zj q'.next) ⟨q'.x,q'.gen,q'.used,q.next⟩ q' (by rw[zT (by simpa using D)]) (by omega) rfl;simp only[List.set_set,Nat.add_zero]at E;exact E
theorem yF.bK{w:zu}{base p:Nat}{v:zz}{room B A:Int}{l:List Pl}(h:yF w base p v room B A l)(m:Int):yF (w.setCell ⟨p,1,zp⟩ (zd zj m)) base p v room m A l:=by refine⟨by rw[yD h.RO];rfl,?_,h.ne,h.lo⟩;exact(xC h.own h.ne)
theorem yF.AY{w:zu}{base p:Nat}{v:zz}{room A B:Int}{l:List Pl}(h:yF w base p v room A B l)(m:Int):yF (w.setCell ⟨p,3,zp⟩ (zd zj m)) base p v room A m l:=
 ⟨by rw[yD h.RO];rfl,xC h.own h.ne,h.ne,h.lo⟩
theorem yF.PR{w:zu}{base p:Nat}{v:zz}{room B A:Int}{l:List Pl}(h:yF w base p v room B A l){c o:Nat}{u:zz}(E:c≠p)(D:v.ownBlock≠zo c):yF (w.setCell ⟨c,o,zp⟩ u) base p v room B A l:=
 ⟨by rw[zR _ _ _ _ (by exact fun e=>E e.symm)];exact h.RO,xC h.own D,h.ne,h.lo⟩
theorem yF.dX{w:zu}{base p g cap n:Nat}{room B A:Int}{l:List Pl}(h:yF w base p (zf (zo ⟨g,0,zp⟩) n cap) room B A l)(k:Nat)(q q':Pl)(hk:l[k]?=zo q)(G:q'.gen=q.gen):
 yF (((w.setCell ⟨g,k*4,zp⟩ (zd zj q'.x)).setCell ⟨g,k*4+2,zp⟩ (zh q'.used)).setCell ⟨g,k*4+3,zp⟩ (zd zj q'.next)) base p (zf (zo ⟨g,0,zp⟩) n cap) room B A (l.set k q'):=by
 have E:=(yy hk).1;have H:=h.store k 0 (zd zj q'.x) q ⟨q'.x,q.gen,q.used,q.next⟩ hk (by omega) rfl;have I:=H.store k 2 (zh q'.used) ⟨q'.x,q.gen,q.used,q.next⟩ ⟨q'.x,q.gen,q'.used,q.next⟩ (by rw[zT (by simpa using E)]) (by omega) rfl;have D:=I.store k 3 (zd zj q'.next) ⟨q'.x,q.gen,q'.used,q.next⟩ q' (by rw[zT (by simpa using E)]) (by omega) (by rw[Pl.cells,Pl.cells,G];rfl);simp only[List.set_set,Nat.add_zero]at D;exact D
theorem yF.grow{w0 w1:zu}{base p:Nat}{v v':zz}{room B A:Int}{l:List Pl}(h:yF w0 base p v room B A l)(q:Pl)(G:w0.grownBy w1 v.ownBlock)(E:w1.ownsRow base 233 4 v' (l.length+1) (RP l++q.cells))(D:v'.ownBlock≠zo p):
 yF (w1.setCell ⟨p,2,zp⟩ v') base p v' room B A (l++ [q]):=by
 have hb:w1.heap[p]?=zo (zn #[zd zj room,zd zj B,v,zd zj A] 147 (0,0)):=by rw[G.block p h.lt (fun e=>h.ne e.symm)];exact h.RO
 refine⟨by rw[yD hb];rfl,?_,D,h.lo⟩;have e:RP (l++ [q])=RP l++q.cells:=by rw[qJ];simp[RP]
 rw[e,zE];exact xC E D
theorem Fz{w0 w1:zu}{base p:Nat}{v v':zz}{n:Nat}{J:List zz}{e:TypeId}{A:Nat}(B:v.ownBlock≠zo p)(H:w0.grownBy w1 v.ownBlock)(I:w1.ownsRow base e A v' n J){o:Obj}(hb:w0.heap[p]?=zo o)(G:∀cs z,o≠zn cs e z):v'.ownBlock≠zo p:=by
 rcases I.2 with⟨rfl,_⟩|⟨g,cap,cur,rfl,_,E,_⟩
 .simp[zX]
 .intro D;simp[zX]at D;subst D;have:=H.block g (yx hb).1 (fun e=>B e.symm);rw[hb]at this;rw[this]at E;exact G cur (0,0) (by simpa using E)
end Pi
end Go.Proofs.YtmpdpmhpkgbepaaGreatDoor
namespace Go.Proofs.YtmpdpmhpkgbepaaGreatDoor
namespace Pi
open Go Go.RowKit Go.ChangeShapes Go.WideShapes
theorem QU(i g:Int)(w:zu)(p:Nat)(hi:i<0):
 zw prog 144 #[ze (zo ⟨p,0,zp⟩),zg #[zd zj i,zd zj g]] w fun e w'=>e=zm (ze zp)/\∃n,(w.alloc (zn #[zd zj i,zd zj g] 78)).drewN n=w':=by
 go_enter func144,ntmps144;go_wp2;go_quiet (fail);go_wp2;go_ret;exact⟨rfl,_,rfl⟩
theorem Ga(i g:Int)(w:zu)(p:Nat)(a:Option Addr)(A cap:Nat)(hp:p<w.heap.size)(hc:w.cell? ⟨p,2,zp⟩=zo (zf a A cap))(hi:(A:Int)<=i)(h0:0<=i):
 zw prog 144 #[ze (zo ⟨p,0,zp⟩),zg #[zd zj i,zd zj g]] w fun e w'=>e=zm (ze zp)/\∃n,(w.alloc (zn #[zd zj i,zd zj g] 78)).drewN n=w':=by
 go_enter func144,ntmps144;go_wp2;go_quiet (fail);go_wp2;go_ret;exact⟨rfl,_,rfl⟩
theorem Si(k:Nat)(g:Int)(w:zu)(p b:Nat)(A cap:Nat)(q:Pl)(hp:p<w.heap.size)(hb:b<w.heap.size)(hc:w.cell? ⟨p,2,zp⟩=zo (zf (zo ⟨b,0,zp⟩) A cap))(hk:k<A)(h0:A<=4096)
 (h1:w.cell? ⟨b,k*4+1,zp⟩=zo (zd zj q.gen)) (D:w.cell? ⟨b,k*4+2,zp⟩=zo (zh q.used)):
 zw prog 144 #[ze (zo ⟨p,0,zp⟩),zg #[zd zj k,zd zj g]] w fun e w'=>e=zm (if q.used=zq/\q.gen=g then ze (zo ⟨b,k*4,zp⟩)else ze zp)/\∃n,(w.alloc (zn #[zd zj k,zd zj g] 78)).drewN n=w':=by
 cases hu:q.used
 .rw[if_neg (by simp)];rw[hu]at D;clear hu;go_enter func144,ntmps144;go_wp2;go_quiet (fail);go_wp2;go_quiet (fail);go_wp2;go_quiet (fail);go_wp2;go_ret;refine⟨rfl,?_⟩;simp only[World.drewN_drewN];exact⟨_,rfl⟩
 .by_cases B:q.gen=g
  .rw[if_pos ⟨rfl,B⟩];have E:(q.gen == g)=zq:=beq_iff_eq.2 B;rw[hu]at D;clear hu B;go_enter func144,ntmps144;go_wp2;go_quiet (fail);go_wp2;go_quiet (fail);go_wp2;go_quiet (fail);go_wp2;go_ret;refine⟨rfl,?_⟩;simp only[World.drewN_drewN];exact⟨_,rfl⟩
  .rw[if_neg (by simp[B])];have E:(q.gen == g)=zt:=beq_eq_false_iff_ne.2 B;rw[hu]at D;clear hu B;go_enter func144,ntmps144;go_wp2;go_quiet (fail);go_wp2;go_quiet (fail);go_wp2;go_quiet (fail);go_wp2;go_ret;refine⟨rfl,?_⟩;simp only[World.drewN_drewN];exact⟨_,rfl⟩
end Pi
end Go.Proofs.YtmpdpmhpkgbepaaGreatDoor
namespace Go.Proofs.YtmpdpmhpkgbepaaGreatDoor
namespace Pi
open Go Go.RowKit Go.ChangeShapes Go.WideShapes
def Qv(l:List Pl)(i g:Int)(k:Nat)(q:Pl):Prop:=i=(k:Int)/\l[k]?=zo q/\q.used=zq/\q.gen=g
def vk(l:List Pl)(i g:Int):Prop:=∀k q,¬Qv l i g k q
def bL(w:zu)(z:Nat):Prop:=∃cs fr,w.heap[z]?=zo (zn cs 233 fr)
def PK(w:zu)(p z:Nat):Prop:=∃v,w.cell? ⟨p,2,zp⟩=zo v/\v.ownBlock=zo z
def PF(p:Nat)(w:zu)(z:Nat):Prop:=z=p∨(bL w z/\PK w p z)
structure OB(base p:Nat)(w w':zu):Prop where
 RB:OA (PF p w) w w'
 below:Below base w w'
 row:p<w.heap.size->∀z,z<w.heap.size->PK w' p z->PK w p z
theorem PK.same{w w':zu}{p z:Nat}(h:PK w' p z)(A:w'.heap[p]?=w.heap[p]?):PK w p z:=by obtain⟨v,D,B⟩:=h;refine⟨v,?_,B⟩;rw[<-D];simp[zN,A]
theorem OB.NZ{base p:Nat}{w w':zu}(h:Below w.heap.size w w')(hb:base<=w.heap.size):OB base p w w':=⟨OA.NZ h,Fb h hb,fun A z _ B=>B.same (h.block p A)⟩
theorem yF.rowOf{w:zu}{base p g cap n:Nat}{room A B:Int}{l:List Pl}(h:yF w base p (zf (zo ⟨g,0,zp⟩) n cap) room A B l):PK w p g:=⟨_,h.cell.2.2.1,rfl⟩
theorem yF.rowIs{w:zu}{base p:Nat}{v:zz}{room A B:Int}{l:List Pl}(h:yF w base p v room A B l){z:Nat}(G:PK w p z):v.ownBlock=zo z:=by obtain⟨u,D,E⟩:=G;rw[h.cell.2.2.1]at D;cases D;exact E
theorem yF.cE{w w':zu}{base p g cap n n' E:Nat}{room H G D B A:Int}{l M:List Pl}(h:yF w base p (zf (zo ⟨g,0,zp⟩) n cap) room H G l)(I:yF w' base p (zf (zo ⟨g,0,zp⟩) n' E) D B A M):∀z,PK w' p z->PK w p z:=fun z J=>by have:=I.rowIs J;simp[zX]at this;exact this▸h.rowOf
theorem yF.bL{w:zu}{base p g cap n:Nat}{room B A:Int}{l:List Pl}(h:yF w base p (zf (zo ⟨g,0,zp⟩) n cap) room B A l):bL w g:=by
 rcases h.own.2 with⟨D,_⟩|⟨g',h0,cur,D,_,E,_⟩
 .cases D
 .cases D;exact⟨_,_,E⟩
theorem yF.OS{w:zu}{base p g cap n:Nat}{room B A:Int}{l:List Pl}(h:yF w base p (zf (zo ⟨g,0,zp⟩) n cap) room B A l):base<=g:=by
 rcases h.row with⟨D,_⟩|⟨b',h0,D,hb,_⟩
 .cases D
 .cases D;exact hb
theorem yF.step{w w':zu}{base p g cap n:Nat}{room D B:Int}{l:List Pl}(h:yF w base p (zf (zo ⟨g,0,zp⟩) n cap) room D B l)(hb:base<=w.heap.size)(A:OA (fun z=>z=g∨z=p) w w')(G:∀z,PK w' p z->PK w p z):OB base p w w':=
 ⟨⟨A.os,A.tape,A.output,A.size,fun k hk E=>A.block k hk (fun e=>E (by rcases e with rfl|rfl;exact .inr ⟨h.bL,h.rowOf⟩;exact .inl rfl))⟩,
  A.below hb (fun k hk=>by rcases hk with rfl|rfl;exact h.OS;exact h.lo),fun _ z _=>G z⟩
theorem Gb(i g:Int)(k:Nat)(q:Pl)(w:zu)(base p b cap:Nat)(room B A:Int)(l:List Pl)(h:yF w base p (zf (zo ⟨b,0,zp⟩) l.length cap) room B A l)(J:l.length<=4096)(N:Qv l i g k q):
 zw prog 144 #[ze (zo ⟨p,0,zp⟩),zg #[zd zj i,zd zj g]] w fun e w'=>e=zm (ze (zo ⟨b,k*4,zp⟩))/\∃n,(w.alloc (zn #[zd zj i,zd zj g] 78)).drewN n=w':=by
 obtain⟨rfl,I,M,H⟩:=N;obtain⟨hk,D⟩:=yy I;have hb:b<w.heap.size:=h.gD;have G:=h.place k 1 hk (by omega);have E:=h.place k 2 hk (by omega);rw[D]at G E;have c:=Si k g w p b l.length cap q h.lt hb h.cell.2.2.1 hk J G E;rwa[if_pos ⟨M,H⟩]at c
theorem Vx(i g:Int)(w:zu)(base p:Nat)(v:zz)(room B A:Int)(l:List Pl)(h:yF w base p v room B A l)(I:l.length<=4096)(J:vk l i g):
 zw prog 144 #[ze (zo ⟨p,0,zp⟩),zg #[zd zj i,zd zj g]] w fun e w'=>e=zm (ze zp)/\∃n,(w.alloc (zn #[zd zj i,zd zj g] 78)).drewN n=w':=by
 by_cases D:i<0
 .exact QU i g w p D
 .by_cases E:(l.length:Int)<=i
  .rcases h.row with⟨rfl,rfl⟩|⟨b,cap,rfl,_⟩
   .exact Ga i g w p _ 0 0 h.lt h.cell.2.2.1 (by simpa using E) (by omega)
   .exact Ga i g w p _ _ cap h.lt h.cell.2.2.1 E (by omega)
  .obtain⟨k,rfl⟩:=Int.eq_ofNat_of_zero_le (Int.not_lt.1 D);have hk:k<l.length:=by omega
   rcases h.row with⟨_,rfl⟩|⟨b,cap,rfl,_,hb,_⟩
   .simp at hk
   .have M:=h.place k 1 hk (by omega);have H:=h.place k 2 hk (by omega);have c:=Si k g w p b l.length cap l[k] h.lt hb h.cell.2.2.1 hk I M H;rwa[if_neg (fun G=>J k l[k] ⟨rfl,zy hk,G.1,G.2⟩)]at c
end Pi
end Go.Proofs.YtmpdpmhpkgbepaaGreatDoor
namespace Go.Proofs.YtmpdpmhpkgbepaaGreatDoor
namespace Pi
open Go Go.RowKit Go.ChangeShapes Go.WideShapes
theorem Dp(i g:Int)(w:zu)(base p:Nat)(v:zz)(room B A:Int)(l:List Pl)(h:yF w base p v room B A l)(G:l.length<=4096)(D:vk l i g):
 zw prog 94 #[ze (zo ⟨p,0,zp⟩),zg #[zd zj i,zd zj g]] w fun e w'=>e=zm (zi #[zd zj 0,zd zj 2])/\Below w.heap.size w w':=by
 have E:=yw (fun o=>Vx i g (w.alloc o) base p v room B A l (h.alloc o) G D);clear h D;go_enter func94,ntmps94;go_wp2_with (go_at_call 144;refine(E.out _).mono ?_;rintro e w1 ⟨rfl,n,rfl⟩);go_ret2;exact⟨rfl,yH (((zU _ _).alloc (yA _) _).alloc (by simp) _) _⟩
theorem Gc(i g:Int)(k:Nat)(q:Pl)(w:zu)(base p b cap:Nat)(room A B:Int)(l:List Pl)(h:yF w base p (zf (zo ⟨b,0,zp⟩) l.length cap) room A B l)(R:l.length<=4096)(E:Qv l i g k q)
 (hg:0<=q.gen/\q.gen<=1000000) (hm: -1000000<=A/\A<=4096):
 zw prog 94 #[ze (zo ⟨p,0,zp⟩),zg #[zd zj i,zd zj g]] w fun e w'=>e=zm (zi #[zd zj q.x,zd zj 0])/\yF w' base p (zf (zo ⟨b,0,zp⟩) l.length cap) room (A-1) k (l.set k ⟨0,q.gen+1,zt,B⟩)/\OA (fun z=>z=b∨z=p) w w':=by
 have O:=yw (fun o=>Gb i g k q (w.alloc o) base p b cap room A B l (h.alloc o) R E);have hb:=h.gD;have hp:=h.lt;have h4:b≠p:=by have:=h.ne;simpa[zX]using this
 have I:=E.2.1;obtain rfl:=E.1;obtain⟨hk,D⟩:=yy I;have H:=h.place k 0 hk (by omega);have J:=h.place k 1 hk (by omega);have G:=h.place k 2 hk (by omega);have M:=h.place k 3 hk (by omega);rw[D]at H J G M;have hh:w.cell? ⟨b,k*4,zp⟩=zo (zd zj q.x):=H;have ha:w.cell? ⟨b,k*4+1,zp⟩=zo (zd zj q.gen):=J;have h9:w.cell? ⟨b,k*4+2,zp⟩=zo (zh q.used):=G;have hc:w.cell? ⟨b,k*4+3,zp⟩=zo (zd zj q.next):=M;have h7:=h.OE (k*4);have hf:=h.OE (k*4+1);have he:=h.OE (k*4+2);have h5:=h.OE (k*4+3);obtain⟨c0,c1,c2,c3⟩:=h.cell;have h8:=h.free 1;have h6:=h.free 3;have N:=yw I;have T:=yw h
 clear h E H J G M D I;go_enter func94,ntmps94;go_wp2_with (go_at_call 144;refine(O.out _).mono ?_;rintro e w1 ⟨rfl,n,rfl⟩);go_region;go_wp2;go_ret2;exact⟨rfl,(((((T.out.alloc _).alloc _).drewN (n+1)).iC k q ⟨0,q.gen+1,zt,B⟩ N.out).AY k).bK (A-1),
  OA.setCell (F:=fun z=>z=b∨z=p) (OA.setCell (F:=fun z=>z=b∨z=p) (OA.setCell (F:=fun z=>z=b∨z=p) (OA.setCell (F:=fun z=>z=b∨z=p) (OA.setCell (F:=fun z=>z=b∨z=p) (OA.setCell (F:=fun z=>z=b∨z=p) ((((OA.refl _ _).alloc _).alloc _).drewN (n+1)) (.inl (.inl rfl)) _) (.inl (.inl rfl)) _) (.inl (.inl rfl)) _) (.inl (.inl rfl)) _) (.inl (.inr rfl)) _) (.inl (.inr rfl)) _⟩
end Pi
end Go.Proofs.YtmpdpmhpkgbepaaGreatDoor
namespace Go.Proofs.YtmpdpmhpkgbepaaGreatDoor
namespace Pi
open Go Go.RowKit Go.ChangeShapes Go.WideShapes
theorem AJ(room:Int)(w:zu)(h:1<=room/\room<=4096):
 zw prog 35 #[zd zj room] w fun e w'=>e=zm (zi #[ze (zo ⟨w.heap.size,0,zp⟩),zd zj 0])/\
  w.alloc (zn #[zd zj room,zd zj 0,zf zp 0 0,zd zj (-1)] 147)=w':=by
 go_enter func35,ntmps35;go_wp2;go_ret2;exact⟨rfl,rfl⟩
theorem Gd(x:Int)(w:zu)(base p:Nat)(v:zz)(room A B:Int)(l:List Pl)(h:yF w base p v room A B l)(D:A=room):
 zw prog 87 #[ze (zo ⟨p,0,zp⟩),zd zj x] w fun e w'=>e=zm (zi #[zg #[zd zj 0,zd zj 0],zd zj 3])/\Below w.heap.size w w':=by
 subst D;have h1:=h.lt;obtain⟨c0,c1,c2,c3⟩:=h.cell;clear h;go_enter func87,ntmps87;go_wp2;go_quiet (fail);go_wp2;refine bodyPost_ret (v:=zi #[zg #[zd zj 0,zd zj 0],zd zj 3]) (by simp[results,results87,go_sem]) rfl ⟨rfl,?_⟩;exact((yH ((zU _ _).alloc (yA _) _) _).setCell (yA _) _).setCell (yA _) _
theorem Dq(x:Int)(k:Nat)(q:Pl)(w:zu)(base p b cap:Nat)(room A:Int)(l:List Pl)(h:yF w base p (zf (zo ⟨b,0,zp⟩) l.length cap) room A k l)(hl:l.length<=4096)(G:l[k]?=zo q)(hm: -1000000<=A/\A<=4096)(hr:A<room):
 zw prog 87 #[ze (zo ⟨p,0,zp⟩),zd zj x] w fun e w'=>e=zm (zi #[zg #[zd zj k,zd zj q.gen],zd zj 0])/\
  yF w' base p (zf (zo ⟨b,0,zp⟩) l.length cap) room (A+1) q.next (l.set k ⟨x,q.gen,zq,-1⟩)/\OA (fun z=>z=b∨z=p) w w':=by
 have hb:=h.gD;have hp:=h.lt;have h5:b≠p:=by have:=h.ne;simpa[zX]using this
 obtain⟨hk,B⟩:=yy G;have E:=h.place k 0 hk (by omega);have H:=h.place k 1 hk (by omega);have D:=h.place k 2 hk (by omega);have I:=h.place k 3 hk (by omega);rw[B]at E H D I;have hh:w.cell? ⟨b,k*4,zp⟩=zo (zd zj q.x):=E;have hc:w.cell? ⟨b,k*4+1,zp⟩=zo (zd zj q.gen):=H;have ha:w.cell? ⟨b,k*4+2,zp⟩=zo (zh q.used):=D;have he:w.cell? ⟨b,k*4+3,zp⟩=zo (zd zj q.next):=I;have h8:=h.OE (k*4);have hf:=h.OE (k*4+2);have h6:=h.OE (k*4+3);obtain⟨c0,c1,c2,c3⟩:=h.cell;have h9:=h.free 1;have h7:=h.free 3;have hg:(A == room)=zt:=beq_eq_false_iff_ne.2 (by omega)
 have h4:((k:Int) == -1)=zt:=beq_eq_false_iff_ne.2 (by omega);have J:=yw G;have M:=yw h;clear h E H D I B G;go_enter func87,ntmps87;go_wp2;go_quiet (fail);go_wp2;refine bodyPost_ret (v:=zi #[zg #[zd zj k,zd zj q.gen],zd zj 0]) (by simp[results,results87,go_sem]) rfl ⟨rfl,?_⟩;exact⟨((((((M.out.alloc _).drewN _).bK (A+1)).AY q.next).dX k q ⟨x,q.gen,zq,-1⟩ J.out rfl).PR (by omega) (by simp[zX];omega)).PR (by omega) (by simp[zX];omega),
  OA.setCell (F:=fun z=>z=b∨z=p) (OA.setCell (F:=fun z=>z=b∨z=p) (OA.setCell (F:=fun z=>z=b∨z=p) (OA.setCell (F:=fun z=>z=b∨z=p) (OA.setCell (F:=fun z=>z=b∨z=p) (OA.setCell (F:=fun z=>z=b∨z=p) (OA.setCell (F:=fun z=>z=b∨z=p) (((OA.refl _ _).alloc _).drewN _) (.inl (.inr rfl)) _) (.inl (.inr rfl)) _) (.inl (.inl rfl)) _) (.inl (.inl rfl)) _) (.inl (.inl rfl)) _) (.inr (yA _)) _) (.inr (yA _)) _⟩
end Pi
end Go.Proofs.YtmpdpmhpkgbepaaGreatDoor
