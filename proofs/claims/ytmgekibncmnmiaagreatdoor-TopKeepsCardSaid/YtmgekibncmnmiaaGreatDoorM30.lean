/- Parts of the proof of the law TopKeeps: contracts of the functions that it reaches, and plain laws of what they compute. Conditions: those in each statement. -/
import Derived.Deep.RegionHeld3
import Derived.Test.YtmgekibncmnmiaaGreatDoorM28
set_option linter.unusedVariables false
set_option maxRecDepth 100000
set_option maxHeartbeats 4000000
open Go.Proofs.Tryz
namespace Go.Proofs.YtmgekibncmnmiaaGreatDoor
open Go Go.RowKit Go.ChangeShapes Go.WideShapes
def ztz(cs:Array Value):List (Nat×Value)->Array Value
 | []=>cs
 | x::r=>ztz (cs.setIfInBounds x.1 x.2) r
theorem zhv(x:Nat×Value):∀(l:List (Nat×Value)) (cs:Array Value),ztz cs (l++ [x])=(ztz cs l).setIfInBounds x.1 x.2
 | [],cs=>rfl
 | y::r,cs=>zhv x r _
theorem zeX(w:World):Calls prog 116 #[] w fun z w'=>∃V,z=.returned (.slice (some ⟨V,0,none⟩) 15 15)/\w.heap.size<=V/\w'.heap[V]?=some (.cells (qK.map Value.string).toArray 9 (0,0))/\Below w.heap.size w w':=
 (znf w).mono fun z w' ⟨A,hw⟩=>⟨_,A,zg _,by rw[hw];exact heap_alloc_new w _,by rw[hw];exact zk w _⟩
theorem zd9{w:World}{V:Nat}(h:w.heap[V]?=some (.cells (qK.map Value.string).toArray 9 (0,0))):∀j,j<qK.length->w.cell? ⟨V,0+j,none⟩=some (.string (qK.getD j ByteArray.empty)):=fun j A=>by
 have B:(qK.map Value.string)[j]?=some (.string (qK.getD j ByteArray.empty)):=by rw[List.getElem?_map,List.getElem?_eq_getElem A,List.getD_eq_getElem?_getD,List.getElem?_eq_getElem A];rfl
 simp only[World.cell?,h,Nat.zero_add];rw[List.getElem?_toArray];exact B
theorem zea(s:ByteArray)(parts:List ByteArray)(word:ByteArray)(k:Int)(fl:Nat->List Value)(us:List (Nat×Value))(m:Nat)(C g r h o:Int)(w:World)(hs:s.size<4294967281)
 (hc:Lib.countB s ⟨#[32]⟩+1=parts.length) (hp:Lib.splitB ⟨#[32]⟩ 0 (Lib.countB s ⟨#[32]⟩) s=parts) (hm:parts.length=m+1) (k0:m<=3) (h0:parts[0]?=some word) (hl:Lib.idxOfS (qK.take 15) word=k-1) (hk:1<=k/\k<=15)
 (H0:∀B,(fl B).length=m) (H8:us.length=m) (S:ztz #[.int .i64 k,.int .i64 0,.int .i64 0,.int .i64 0,.int .i64 0,.int .u64 0] us=#[.int .i64 k,.int .i64 C,.int .i64 g,.int .i64 r,.int .i64 h,.int .u64 o])
 (hF:∀B W,Below w.heap.size w W->W.heap[B]?=some (.cells #[.int .i64 k,.int .i64 0,.int .i64 0,.int .i64 0,.int .i64 0,.int .u64 0] 35 (0,0))->Calls prog 117 #[.pointer (some ⟨B,0,none⟩)] W (vT W (fl B)))
 (hR:∀B W i f t x,Below w.heap.size w W->W.heap[B]?=some (.cells (ztz #[.int .i64 k,.int .i64 0,.int .i64 0,.int .i64 0,.int .i64 0,.int .u64 0] (us.take i)) 35 (0,0))->(fl B)[i]?=some f->parts[1+i]?=some t->us[i]?=some x->Calls prog 118 #[f,.string t] W (zcC W B x.1 x.2)):
 Calls prog 63 #[.string s] w fun z w'=>z=.returned (.tuple #[.agg #[.int .i64 k,.int .i64 C,.int .i64 g,.int .i64 r,.int .i64 h,.int .u64 o],.int .i64 0])/\Below w.heap.size w w':=by
 obtain⟨w1,d⟩:=zh (w.alloc (.cells #[.int .i64 0,.int .i64 0,.int .i64 0,.int .i64 0,.int .i64 0,.int .u64 0] 35))
 have Ha:Below w.heap.size w w1:=by rw[d];exact zk w _
 have H9:w1.heap[w.heap.size]?=some (.cells #[.int .i64 0,.int .i64 0,.int .i64 0,.int .i64 0,.int .i64 0,.int .u64 0] 35 (0,0)):=by rw[d];exact heap_alloc_new w _
 have Hf:=zc (zeV s 32 parts w1 hs hc hp);obtain⟨D,Y⟩:=zh w.heap.size
 have H1:=zc (And.intro Ha (And.intro (Y▸H9) Y));have HF:=zc hF;have HR:=zc hR;have c:=zc (And.intro hm (And.intro h0 (And.intro hl (And.intro H0 (And.intro H8 S)))));clear hs hc hp Ha H9 hF hR hm h0 hl H0 H8 S;go_enter func63,ntmps63;go_wp2_with fail;rw[show w.alloc (.cells #[.int .i64 0,.int .i64 0,.int .i64 0,.int .i64 0,.int .i64 0,.int .u64 0] 35)=w1 from d.symm,<-Y];clear d Y;refine Hf.out.mono ?_;rintro z E ⟨rfl,h3⟩;obtain⟨R,hR⟩:=zh w1.heap.size
 have b:E.heap[R]?=some (.cells (parts.map Value.string).toArray 9 (0,0)):=by rw[h3,hR];exact heap_alloc_new w1 _
 have h7:Below w1.heap.size w1 E:=by rw[h3];exact zk w1 _
 have n:=zc (zj H1.out.1 h7 H1.out.1.size);have a:E.cell? ⟨R,0,none⟩=some (.string word):=by simp[World.cell?,b,c.out.2.1]
 have T:R<E.heap.size:=(zd b).1;have Z:=zc (And.intro b (And.intro h7 hR));rw[<-hR,c.out.1];clear h3 b h7 hR;have Hc:1+(k-1)=k:=by omega
 have Hd:Hid (Value.int .i64 (IntKind.i64.wrap k)=.int .i64 k):=zc (by rw[IntWalk.i64_in k (by omega)]);go_upto_region 2 with(fail)
 go_cut [5]from 13 to 19 (fun v5 wx=>∃B,v5=.pointer (some ⟨B,0,none⟩)/\E.heap.size<=B/\wx.heap[B]?=some (.cells #[.int .i64 k,.int .i64 0,.int .i64 0,.int .i64 0,.int .i64 0,.int .u64 0] 35 (0,0))/\Below E.heap.size E wx)
 case first=>
  go_region_held3 (fun w'=>w'.cell? ⟨R,0,none⟩=some (.string word)) (go_keep)
   (first
    | (
     go_at_call 116;refine(zeX _).mono ?_;rintro z N ⟨V,rfl,hV,M,A⟩;have G:Hid (Below E.heap.size E N):=zc ⟨A.os,A.tape,A.output,A.size,A.block⟩;have Hs:=zc A;have h2:=zc (And.intro M (And.intro hV (zd M).1));have H5:=zc (zd9 M);replace a:=(G.out.cell (p:=⟨R,0,none⟩) T).trans a;replace T:=zf T G.out.size;clear hV M A)
    | (
     go_at_call 116;refine(zeX _).mono ?_;rintro z N ⟨V,rfl,hV,M,A⟩;have h4:Below (E.alloc (.cells #[.int .i64 0,.int .i64 0,.int .i64 0,.int .i64 0,.int .i64 0,.int .u64 0] 35)).heap.size (E.alloc (.cells #[.int .i64 0,.int .i64 0,.int .i64 0,.int .i64 0,.int .i64 0,.int .u64 0] 35)) N:=⟨A.os,A.tape,A.output,A.size,A.block⟩
     have G:Hid (Below E.heap.size E N):=zc (zj (zk E _) h4 (by simp));have I:N.heap[E.heap.size]?=some (.cells #[.int .i64 0,.int .i64 0,.int .i64 0,.int .i64 0,.int .i64 0,.int .u64 0] 35 (0,0)):=(h4.block _ (by simp)).trans (heap_alloc_new E _);have Hr:=zc I;have x0:N.cell? ⟨E.heap.size,0,none⟩=some (.int .i64 0):=by simp[World.cell?,I]
     have C:N.cell? ⟨E.heap.size,1,none⟩=some (.int .i64 0):=by simp[World.cell?,I]
     have g:N.cell? ⟨E.heap.size,2,none⟩=some (.int .i64 0):=by simp[World.cell?,I]
     have r:N.cell? ⟨E.heap.size,3,none⟩=some (.int .i64 0):=by simp[World.cell?,I]
     have h:N.cell? ⟨E.heap.size,4,none⟩=some (.int .i64 0):=by simp[World.cell?,I]
     have o:N.cell? ⟨E.heap.size,5,none⟩=some (.int .u64 0):=by simp[World.cell?,I]
     have xf:∀j,N.frozen? ⟨E.heap.size,j,none⟩=false:=by intro j;simp[World.frozen?,I]
     have xl:E.heap.size<N.heap.size:=(zd I).1;have Hn:R≠E.heap.size:=Nat.ne_of_lt T;have Hy:E.heap.size≠R:=fun e=>Hn e.symm;clear I h4;have Hs:=zc A;have h2:=zc (And.intro M (And.intro hV (zd M).1));have H5:=zc (zd9 M);replace a:=(G.out.cell (p:=⟨R,0,none⟩) T).trans a;replace T:=zf T G.out.size;clear hV M A)
    | (
     go_at_call 115;refine(Tryz.slices_Index_string V 0 15 15 qK word _ (by decide) (by decide) ?hcx).mono ?_
     case hcx=>first | exact H5.out | exact zd9 ((Below.heap_alloc N _ V h2.out.2.2).trans h2.out.1)
     rintro z w4 ⟨rfl,Hb⟩;rw[c.out.2.2.1];obtain rfl:=Hb.symm))
  all_goals
   go_wp2_with fail;go_meet
   case rel=>
    have hw:=Hd.out
    first
     | exact⟨_,rfl,G.out.size,by rw[hw];exact heap_alloc_new N _,zj G.out (zk N _) G.out.size⟩
     | exact⟨_,rfl,zg _,by rw[hw];exact zi (zi (zi (zi (zi (zi Hr.out))))),(((((G.out.setCell (p:=⟨E.heap.size,0,none⟩) (zg _) _).setCell (p:=⟨E.heap.size,1,none⟩) (zg _) _).setCell (p:=⟨E.heap.size,2,none⟩) (zg _) _).setCell (p:=⟨E.heap.size,3,none⟩) (zg _) _).setCell (p:=⟨E.heap.size,4,none⟩) (zg _) _).setCell (p:=⟨E.heap.size,5,none⟩) (zg _) _⟩
 case rest=>
  obtain⟨B,rfl,hv,h5,A⟩:=hcut
  rename World=>N
  have G:=zc (zj n.out A n.out.size);have H:=zc (And.intro hv (And.intro h5 A));have Ho:=zc (HF.out B N G.out h5);clear hv A a T Hc h5;go_wp2_with fail;refine Ho.out.mono ?_;rintro z w4 ⟨Q,rfl,hQ,hy,F⟩;have l:=(F.block B (zd H.out.2.1).1).trans H.out.2.1;have hg:=(zd l).1;have Hj:w4.cell? ⟨B,0,none⟩=some (.int .i64 k):=by simp[World.cell?,l]
  have y:=zc (zj G.out F G.out.size);have X:=zc (And.intro hQ (And.intro hy (And.intro l F)));rw[c.out.2.2.2.1];have Hv:(k == 0)=false:=by simp;omega
  have Hz:((m:Int)+1 != 1+(m:Int))=false:=by simp;omega
  clear hQ hy F l;go_wp2_with fail;go_loopw [7,8,9,10,35] (fun v7 _ _ _ i wr=>∃q:Nat,q<=m/\v7=.int .i64 0/\i=.int .i64 q/\wr.heap[B]?=some (.cells (ztz #[.int .i64 k,.int .i64 0,.int .i64 0,.int .i64 0,.int .i64 0,.int .u64 0] (us.take q)) 35 (0,0))/\zo8 (fun j=>j=B) w4 wr) (fun _ _ _ _ i _=>m-(intOf i).toNat)
  case atStart=>exact⟨0,by omega,rfl,rfl,X.out.2.2.1,.refl _ _⟩
  case round=>
   obtain⟨q,hq,rfl,rfl,hx,ht⟩:=hrel;have K:=zc (And.intro hx ht);clear hx ht Hj hg;by_cases hr:q<m
   ·have Hw:(q:Int) <(m:Int):=by omega
    obtain⟨f,hf⟩:∃f,(fl B)[q]?=some f:=⟨_,List.getElem?_eq_getElem (by rw[c.out.2.2.2.1];exact hr)⟩
    obtain⟨t,ht⟩:∃t,parts[1+q]?=some t:=⟨_,List.getElem?_eq_getElem (by rw[c.out.1];omega)⟩
    obtain⟨x,hx⟩:∃x,us[q]?=some x:=⟨_,List.getElem?_eq_getElem (by rw[c.out.2.2.2.2.1];exact hr)⟩
    have hh:=(zd H.out.2.1).1;have H7:Q≠B:=by have:=X.out.1;omega
    have H3:R<E.heap.size:=(zd Z.out.1).1;have H6:R≠B:=by have:=H.out.1;omega
    have h8:wr.heap[Q]?=some (.cells (fl B).toArray 20 (0,0)):=(K.out.2.block Q (zd X.out.2.1).1 H7).trans X.out.2.1;have ha:w4.heap[R]?=some (.cells (parts.map Value.string).toArray 9 (0,0)):=((zj H.out.2.2 X.out.2.2.2 H.out.2.2.size).block R H3).trans Z.out.1;have h9:wr.heap[R]?=some (.cells (parts.map Value.string).toArray 9 (0,0)):=(K.out.2.block R (zd ha).1 H6).trans ha;have Hh:wr.cell? ⟨Q,q,none⟩=some f:=by simp[World.cell?,h8,hf]
    have Ht:wr.cell? ⟨R,1+q,none⟩=some (.string t):=by simp[World.cell?,h9,ht]
    have Hg:=(zd h8).1;have hi:=(zd h9).1;have hz:Below w.heap.size w wr:=y.out.trans (K.out.2.below y.out.size (fun j hj=>by rw[hj];have:=n.out.size;have:=H.out.1;omega));have Hk:=zc (HR.out B wr q f t x hz K.out.1 hf ht hx);have Hq:=zc hx;clear hf ht hx H7 H6 h8 ha h9 hz H3 hh;go_wp2_with fail;refine Hk.out.mono ?_;rintro z w5 ⟨rfl,hn,ho⟩;have H2:=zc (And.intro (ho _ _ _ K.out.1) (K.out.2.trans hn fun j hj=>.inl hj));clear hn ho Hh Ht Hg hi;go_wp2_with fail;go_roundw
    case rel=>
     refine⟨q+1,by omega,rfl,by go_num,?_,H2.out.2⟩;rw[List.take_add_one,Hq.out];show _=some (Obj.cells (ztz _ (us.take q++ [x])) _ _);rw[zhv];exact H2.out.1
    case measure=>simp[intOf];omega
   ·have Hp:q=m:=by omega
    subst Hp;have O:wr.heap[B]?=some (.cells #[.int .i64 k,.int .i64 C,.int .i64 g,.int .i64 r,.int .i64 h,.int .u64 o] 35 (0,0)):=by have h1:=K.out.1;rw[<-c.out.2.2.2.2.1,List.take_length,c.out.2.2.2.2.2]at h1;exact h1
    have Hl:D≠B:=by have:=H1.out.2.2;have:=Z.out.2.1.size;have:=H.out.1;have:=H1.out.1.size;have:=(zd H1.out.2.1).1;omega
    have P:=(zd H1.out.2.1).1;have L:Below w1.heap.size w1 w4:=zj Z.out.2.1 (zj H.out.2.2 X.out.2.2.2 H.out.2.2.size) Z.out.2.1.size;have h6:=(L.block D P).trans H1.out.2.1;have J:wr.heap[D]?=some (.cells #[.int .i64 0,.int .i64 0,.int .i64 0,.int .i64 0,.int .i64 0,.int .u64 0] 35 (0,0)):=(K.out.2.block D (zd h6).1 Hl).trans h6;have b0:wr.cell? ⟨B,0,none⟩=some (.int .i64 k):=by simp[World.cell?,O]
    have b1:wr.cell? ⟨B,1,none⟩=some (.int .i64 C):=by simp[World.cell?,O]
    have b2:wr.cell? ⟨B,2,none⟩=some (.int .i64 g):=by simp[World.cell?,O]
    have b3:wr.cell? ⟨B,3,none⟩=some (.int .i64 r):=by simp[World.cell?,O]
    have b4:wr.cell? ⟨B,4,none⟩=some (.int .i64 h):=by simp[World.cell?,O]
    have b5:wr.cell? ⟨B,5,none⟩=some (.int .u64 o):=by simp[World.cell?,O]
    have d0:wr.cell? ⟨D,0,none⟩=some (.int .i64 0):=by simp[World.cell?,J]
    have d1:wr.cell? ⟨D,1,none⟩=some (.int .i64 0):=by simp[World.cell?,J]
    have d2:wr.cell? ⟨D,2,none⟩=some (.int .i64 0):=by simp[World.cell?,J]
    have d3:wr.cell? ⟨D,3,none⟩=some (.int .i64 0):=by simp[World.cell?,J]
    have d4:wr.cell? ⟨D,4,none⟩=some (.int .i64 0):=by simp[World.cell?,J]
    have d5:wr.cell? ⟨D,5,none⟩=some (.int .u64 0):=by simp[World.cell?,J]
    have dl:=(zd J).1;have bl:=(zd O).1;have df:∀j,wr.frozen? ⟨D,j,none⟩=false:=by intro j;simp[World.frozen?,J]
    have He:=zc J;have Hu:Hid (Below w.heap.size w wr):=zc (y.out.trans (K.out.2.below y.out.size (fun j hj=>by rw[hj];have:=n.out.size;have:=H.out.1;omega)));clear O J h6 L P;go_wp2;have U:=zi (i:=5) (u:=.int .u64 o) (zi (i:=4) (u:=.int .i64 h) (zi (i:=3) (u:=.int .i64 r) (zi (i:=2) (u:=.int .i64 g) (zi (i:=1) (u:=.int .i64 C) (zi (i:=0) (u:=.int .i64 k) He.out)))))
    obtain⟨wf,H4⟩:=zh (((((((wr.setCell ⟨D,0,none⟩ (.int .i64 k)).setCell ⟨D,1,none⟩ (.int .i64 C)).setCell ⟨D,2,none⟩ (.int .i64 g)).setCell ⟨D,3,none⟩ (.int .i64 r)).setCell ⟨D,4,none⟩ (.int .i64 h)).setCell ⟨D,5,none⟩ (.int .u64 o)))
    have Hi:Below w.heap.size w wf:=by have Y:=H1.out.2.2;rw[H4];exact(((((Hu.out.setCell (p:=⟨D,0,none⟩) (Nat.le_of_eq Y.symm) _).setCell (p:=⟨D,1,none⟩) (Nat.le_of_eq Y.symm) _).setCell (p:=⟨D,2,none⟩) (Nat.le_of_eq Y.symm) _).setCell (p:=⟨D,3,none⟩) (Nat.le_of_eq Y.symm) _).setCell (p:=⟨D,4,none⟩) (Nat.le_of_eq Y.symm) _).setCell (p:=⟨D,5,none⟩) (Nat.le_of_eq Y.symm) _
    rw[<-H4]at U ⊢;have g0:wf.cell? ⟨D,0,none⟩=some (.int .i64 k):=by simp[World.cell?,U]
    have g1:wf.cell? ⟨D,1,none⟩=some (.int .i64 C):=by simp[World.cell?,U]
    have g2:wf.cell? ⟨D,2,none⟩=some (.int .i64 g):=by simp[World.cell?,U]
    have g3:wf.cell? ⟨D,3,none⟩=some (.int .i64 r):=by simp[World.cell?,U]
    have g4:wf.cell? ⟨D,4,none⟩=some (.int .i64 h):=by simp[World.cell?,U]
    have g5:wf.cell? ⟨D,5,none⟩=some (.int .u64 o):=by simp[World.cell?,U]
    refine bodyPost_ret (v:=.tuple #[.agg #[.int .i64 k,.int .i64 C,.int .i64 g,.int .i64 r,.int .i64 h,.int .u64 o],.int .i64 0]) ?_ rfl ⟨rfl,Hi⟩;simp[results,results63,go_sem,g0,g1,g2,g3,g4,g5]
end Go.Proofs.YtmgekibncmnmiaaGreatDoor
