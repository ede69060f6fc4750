/- Parts of the proof of the law TopKeeps: contracts of the functions that it reaches, and plain laws of what they compute. Conditions: those in each statement. -/
import Derived.Lib.OthersKept
import Derived.WalkSmall
import Derived.Test.YtmgekibncmnmiaaGreatDoorM15
set_option linter.unusedVariables false
set_option maxRecDepth 100000
set_option maxHeartbeats 4000000
open Go.Proofs.Tryz
namespace Go.Proofs.YtmgekibncmnmiaaGreatDoor
open Go Go.RowKit Go.ChangeShapes Go.WideShapes
def zrE(w:World)(r:Nat)(set from_ n zsh:Int)(d o:Bool):Prop:=w.heap[r]?=some (.cells #[.int .u64 set,.int .i64 from_,.int .i64 n,.int .i64 zsh,.bool d,.bool o] 323 (0,0))
theorem zrE.c6{w:World}{r:Nat}{set from_ n zsh:Int}{d o:Bool}(h:zrE w r set from_ n zsh d o):w.cell? ⟨r,0,none⟩=some (.int .u64 set)/\w.cell? ⟨r,1,none⟩=some (.int .i64 from_)/\w.cell? ⟨r,2,none⟩=some (.int .i64 n)/\w.cell? ⟨r,3,none⟩=some (.int .i64 zsh)/\w.cell? ⟨r,4,none⟩=some (.bool d)/\w.cell? ⟨r,5,none⟩=some (.bool o):=by unfold zrE at h;refine⟨?_,?_,?_,?_,?_,?_⟩ <;> simp[World.cell?,h]
theorem zrE.zpe{w:World}{r:Nat}{set from_ n zsh:Int}{d o:Bool}(h:zrE w r set from_ n zsh d o):∀j,w.frozen? ⟨r,j,none⟩=false:=by intro j;unfold zrE at h;simp[World.frozen?,h]
theorem zrE.lt{w:World}{r:Nat}{set from_ n zsh:Int}{d o:Bool}(h:zrE w r set from_ n zsh d o):r<w.heap.size:=(zd h).1
theorem zln(w:World)(r:Nat)(h:zrE w r 0 0 0 0 false false):
 Calls prog 244 #[.pointer (some ⟨r,0,none⟩),.int .i32 48] w fun z w'=>z=.returned (.bool true)/\zrE w' r 0 0 0 1 false false/\zo8 (fun k=>k=r) w w':=by
 obtain⟨c0,c1,c2,c3,c4,c5⟩:=h.c6;have hl:=h.lt;have hf:=h.zpe;have A:=zc h;clear h;go_enter func244,ntmps244;go_wp2;go_ret;exact⟨rfl,zi (i:=3) (u:=.int .i64 1) (zi (i:=2) (u:=.int .i64 0) A.out),((zo8.refl (fun k=>k=r) w).setCell (p:=⟨r,_,none⟩) (.inl rfl) _).setCell (p:=⟨r,_,none⟩) (.inl rfl) _⟩
theorem zlo(w:World)(r:Nat)(h:zrE w r 0 0 0 1 false false):
 Calls prog 245 #[.pointer (some ⟨r,0,none⟩)] w fun z w'=>z=.returned (.bool true)/\zrE w' r 0 0 0 0 false false/\zo8 (fun k=>k=r) w w':=by
 obtain⟨c0,c1,c2,c3,c4,c5⟩:=h.c6;have hl:=h.lt;have hf:=h.zpe;have A:=zc h;clear h;go_enter func245,ntmps245;go_wp2;go_ret;exact⟨rfl,zi (i:=3) (u:=.int .i64 0) (zi (i:=5) (u:=.bool false) A.out),((zo8.refl (fun k=>k=r) w).setCell (p:=⟨r,_,none⟩) (.inl rfl) _).setCell (p:=⟨r,_,none⟩) (.inl rfl) _⟩
theorem zoa(w:World)(r:Nat)(h:zrE w r 0 0 0 0 false false):
 Calls prog 218 #[.pointer (some ⟨r,0,none⟩),.int .i32 48] w fun z w'=>z=.returned (.bool true)/\zrE w' r 0 0 0 1 false false/\zo8 (fun k=>k=r) w w':=by
 have E:=zc (zln w r h);clear h;go_enter func218,ntmps218;go_wp2_with fail;refine E.out.mono ?_;rintro z w1 ⟨rfl,D,B⟩;have A:=zc (And.intro D B);clear D B;go_wp2;go_ret;exact⟨rfl,A.out.1,A.out.2⟩
theorem zob(w:World)(r:Nat)(h:zrE w r 0 0 0 1 false false):
 Calls prog 219 #[.pointer (some ⟨r,0,none⟩)] w fun z w'=>z=.returned (.bool true)/\zrE w' r 1 0 0 0 false false/\zo8 (fun k=>k=r) w w':=by
 have Y:=zc (zlo w r h);clear h;go_enter func219,ntmps219;go_wp2_with fail;refine Y.out.mono ?_;rintro z w1 ⟨rfl,H,X⟩;obtain⟨c0,I,c2,c3,c4,c5⟩:=H.c6;have M:=H.lt;have J:=H.zpe;have V:=zc (And.intro H X);clear H X;go_upto_region 5 with(fail)
 obtain⟨N,G⟩:=zh (w1.setCell ⟨r,1,none⟩ (.int .i64 0))
 have B:zrE N r 0 0 0 0 false false:=by rw[G];exact zi V.out.1
 have U:Hid (zo8 (fun k=>k=r) w N):=zc (by rw[G];exact V.out.2.setCell (p:=⟨r,1,none⟩) (.inl rfl) _);have R:=zc B;rw[<-G];clear G c0 I c2 c3 c4 c5 M J V;obtain⟨c0,I,c2,c3,c4,c5⟩:=B.c6;have M:=B.lt;have J:=B.zpe;clear B;go_quiet (fail);go_wp2_with fail;go_loopw [3] (fun i wr=>(i=.int .i64 0/\zrE wr r 0 0 0 0 false false/\zo8 (fun k=>k=r) w wr)∨(i=.int .i64 1/\zrE wr r 1 0 0 0 false false/\zo8 (fun k=>k=r) w wr)) (fun i _=>1-(intOf i).toNat)
 case atStart=>exact .inl ⟨rfl,R.out,U.out.drewN _⟩
 case round=>
  rcases hrel with⟨rfl,A,E⟩ | ⟨rfl,A,E⟩
  ·obtain⟨d0,d1,d2,d3,d4,d5⟩:=A.c6;have T:=A.lt;have O:=A.zpe;have D:=zc (And.intro A E);clear A E c0 I c2 c3 c4 c5 M J;go_wp2;go_roundw
   case rel=>exact .inr ⟨rfl,zi (i:=0) (u:=.int .u64 1) D.out.1,D.out.2.setCell (p:=⟨r,0,none⟩) (.inl rfl) _⟩
   case measure=>simp[intOf]
  ·obtain⟨d0,d1,d2,d3,d4,d5⟩:=A.c6;have T:=A.lt;have O:=A.zpe;have D:=zc (And.intro A E);clear A E c0 I c2 c3 c4 c5 M J;go_wp2;go_ret;exact⟨rfl,zi (i:=2) (u:=.int .i64 0) (zi (i:=4) (u:=.bool false) D.out.1),(D.out.2.setCell (p:=⟨r,4,none⟩) (.inl rfl) _).setCell (p:=⟨r,2,none⟩) (.inl rfl) _⟩
theorem zhu(w:World):Calls prog 175 #[.string ⟨#[48]⟩] w fun z w'=>z=.returned (.tuple #[.int .u64 1,.int .i64 0])/\Below w.heap.size w w':=by
 obtain⟨w1,E⟩:=zh (w.alloc (.cells #[.int .u64 0,.int .i64 0,.int .i64 0,.int .i64 0,.bool false,.bool false] 323))
 have b:Below w.heap.size w w1:=by rw[E];exact zk w _
 have Z:zrE w1 w.heap.size 0 0 0 0 false false:=by rw[E];exact heap_alloc_new w _
 have R:=zc (And.intro Z b);clear Z b;obtain⟨K,m⟩:=zh w1.heap.size
 have c:w.heap.size+1=K:=by rw[m,E];simp
 have h:=zc (And.intro m c);clear m c;go_enter func175,ntmps175;go_wp2_with fail;rw[h.out.2,show w.alloc (.cells #[.int .u64 0,.int .i64 0,.int .i64 0,.int .i64 0,.bool false,.bool false] 323)=w1 from E.symm];clear E;obtain⟨r,n⟩:=zh w.heap.size
 have f:=zc n;rw[<-n];clear n;go_loopw [6] (fun _ wr=>∃(q:Nat) (g:Int),((q=0/\g=0)∨(q=1/\g=1))/\wr.heap[K]?=some (.stringIter ⟨#[48]⟩ q)/\zrE wr r 0 0 0 g false false/\Below w.heap.size w wr) (fun _ wr=>1-wr.iterPos K)
 case atStart=>
  refine⟨0,0,.inl ⟨rfl,rfl⟩,by rw[h.out.1];exact World.iter_heap _ _ _,?_,?_⟩
  ·have N:=R.out.1;rw[f.out];have:(w1.iter ⟨#[48]⟩ 0).heap[w.heap.size]?=w1.heap[w.heap.size]?:=(zk w1 _).block _ (zd N).1;exact this.trans N
  ·exact zj R.out.2 (zk w1 _) R.out.2.size
 case round=>
  obtain⟨q,g,j,H,N,hb⟩:=hrel;have Y:r≠K:=by have:=f.out;have:=h.out.2;omega
  rcases j with⟨rfl,rfl⟩ | ⟨rfl,rfl⟩
  ·have M:∀ty,(Instr.next (.pointer (some ⟨K,0,none⟩)) true ty).run prog wr=.ok (.tuple #[.bool true,.int .i64 0,.int .i32 48]) (wr.iterAt K ⟨#[48]⟩ 1):=fun ty=>Lib.run_next_ascii_at wr K ⟨#[48]⟩ 0 ty H (by decide) (by decide);have J:zrE (wr.iterAt K ⟨#[48]⟩ 1) r 0 0 0 0 false false:=(Lib.iterAt_other wr K r ⟨#[48]⟩ 1 Y).trans N;have a:Below w.heap.size w (wr.iterAt K ⟨#[48]⟩ 1):=Lib.below_iterAt hb (by have:=h.out.2;omega) _ _;have U:=Lib.iterAt_heap wr K ⟨#[48]⟩ 0 1 H;have X:wr.iterPos K=0:=iterPos_of H;have T:=zc (And.intro J (And.intro a (And.intro U X)));have t:=zc (zoa _ r J);clear J a U X N hb H;go_wp2_with fail
   refine t.out.mono ?_;rintro z V ⟨rfl,A,D⟩;have p:=T.out.2.1.size;have O:V.heap[K]?=some (.stringIter ⟨#[48]⟩ 1):=(D.block K (zd T.out.2.2.1).1 (fun e=>Y e.symm)).trans T.out.2.2.1;have G:Below w.heap.size w V:=zj T.out.2.1 (D.below (B:=w.heap.size) T.out.2.1.size (fun k H=>by rw[H];exact Nat.le_of_eq f.out.symm)) (zg _);have I:V.iterPos K=1:=iterPos_of O;have d:=zc (And.intro O (And.intro A (And.intro G I)));clear O A G I D M p;go_wp2_with fail;go_roundw
   case rel=>exact⟨1,1,.inr ⟨rfl,rfl⟩,d.out.1,d.out.2.1,d.out.2.2.1⟩
   case measure=>rw[d.out.2.2.2,T.out.2.2.2];omega
  ·have M:∀ty,(Instr.next (.pointer (some ⟨K,0,none⟩)) true ty).run prog wr=_:=fun ty=>Lib.run_next_end_at wr K ⟨#[48]⟩ 1 ty H (by decide);have s:=zc (zob _ r N);have o:=zc hb;clear N hb H;go_wp2_with fail;refine s.out.mono ?_;rintro z V ⟨rfl,A,D⟩;have G:Below w.heap.size w V:=zj o.out (D.below (B:=w.heap.size) o.out.size (fun k H=>by rw[H];exact Nat.le_of_eq f.out.symm)) (zg _);obtain⟨c0,c1,c2,c3,c4,c5⟩:=A.c6;have h0:=A.lt;have l:=zc G;clear A D G M;go_wp2;go_ret2;exact⟨rfl,l.out⟩
end Go.Proofs.YtmgekibncmnmiaaGreatDoor
