/- Parts of the proof of the law TopKeeps: contracts of the functions that it reaches, and plain laws of what they compute. Conditions: those in each statement. -/
import Derived.Deep.LoopGhost
import Derived.Test.YtmgekibncmnmiaaGreatDoorM14
import Derived.Test.YtmgekibncmnmiaaGreatDoorM15
set_option linter.unusedVariables false
set_option maxRecDepth 100000
set_option maxHeartbeats 4000000
open Go.Proofs.Tryz
namespace Go.Proofs.YtmgekibncmnmiaaGreatDoor
open Go Go.RowKit Go.ChangeShapes Go.WideShapes
section
attribute [local go_sem ↓] Go.wp_at_zero Go.wp_at_succ
theorem zj4(v i:Int)(b:Nat)(x j L:Int)(l r:Tt)(w:World)(h:(Tt.node b x j L l r).In w)(hn:(Tt.node b x j L l r).bl.Nodup)(hA:(Tt.node b x j L l r).AA)(hs:L<=100000)(t:xY (v,i) (x,j)= -1)(hi:uf (v,i) l=true)
 (ih:∀w,l.In w->Calls prog 237 #[.pointer l.pt,.agg #[.int .i64 v,.int .i64 i]] w (zc2 v i l w)):
 Calls prog 237 #[.pointer (some ⟨b,0,none⟩),.agg #[.int .i64 v,.int .i64 i]] w (zc2 v i (.node b x j L l r) w):=by
 have F:Hid (∀n,zW n (v,i) (.node b x j L l r)=zH (zC (.node b x j L (zW n (v,i) l) r))):=zc (by intro n;simp only[zW,t];rfl);have hg:=zc h;obtain⟨W,h2,h3⟩:=h;obtain⟨c0,Z,c2,c3,c4⟩:=W.c5;have B:=W.lt;have HB:=zc W;have HL:=zc h2;have HR:=zc h3;have HN:=zc hn;have HA:=zc hA;have HI:=zc ih;have HK:=zc t;have HW:=zc hi;have HS:=zc hs;obtain⟨lp,p⟩:=zh l.pt
 obtain⟨rp,d⟩:=zh r.pt
 have J:=zc p;have z:=zc d;rw[<-p]at c3;rw[<-d]at c4;clear W h2 h3 hn hA ih t hi p d hs;go_enter func237,ntmps237;go_wp2;obtain⟨O,I⟩:=zh ((w.alloc (yg v i)).drew)
 have c:Below w.heap.size w O:=by rw[I];exact zv (zk w _)
 have a:=zc (HB.out.behind c);have K2:Kx O w.heap.size v i:=by rw[I];exact Kx.new w v i
 obtain⟨m,hm⟩:=zh w.heap.size
 rw[<-hm]at K2 ⊢;have HM:=zc hm;have f:=zc K2;have V:=zc c;clear hm c c0 Z c2 c3 c4 K2 B;obtain⟨c0,Z,c2,c3,c4⟩:=a.out.c5;obtain⟨Q,K⟩:=f.out.c2;have B:=a.out.lt;have D:=f.out.lt;refine zI 5 (by kernel_rfl) (by kernel_rfl) O I ?_;clear I;simp only[List.take_succ_cons,List.take_zero,List.drop_succ_cons,List.drop_zero]
 repeat still_step
 refine wpStill_nil ?_;go_wp2_with fail;refine(yM _ _ _ _ _).mono ?_;rintro e w3 ⟨rfl,rfl⟩;rw[HK.out];go_wp2_with fail;obtain⟨S,X⟩:=zh ((O.alloc (yg v i)).alloc (yg x j))
 have N:Below O.heap.size O S:=by rw[X];exact(zk O _).alloc (by simp) _
 rw[<-X];have M:=zc (a.out.behind N);have g:=zc (f.out.behind N);have H:=zc (zj V.out N V.out.size);clear X N c0 Z c2 c3 c4 Q K B D;obtain⟨c0,Z,c2,c3,c4⟩:=M.out.c5;have fb:=M.out.zpe;obtain⟨Q,K⟩:=g.out.c2;have B:=M.out.lt;have D:=g.out.lt;have h5:=zc (HL.out.behind H.out);have h0:=zc (HR.out.behind H.out);rw[<-J.out]at c3;rw[<-z.out]at c4;go_region_with
  ((
   go_at_call 237;rw[J.out];refine(HI.out S.drew h5.out.drew).mono ?_;rintro e w5 ⟨n,y,rfl,U,G⟩;have h4:=zc y;have hj:=zc U;have ha:=zc G;have E:=M.out.of (G.block b B (zu HN.out).1);have Y:=g.out.of (G.block m D (fun hm=>Nat.lt_irrefl m (by have:=HL.out.lt m hm;rw[<-HM.out]at this;exact this)));have h6:=zc (h0.out.of (w':=w5) fun k t hl=>G.block k hl (fun h7=>(zu HN.out).2.2.2.2 k h7 t));clear y U G c0 Z c2 c3 c4 fb Q K B D;have hh:=zc E;rw[<-J.out,<-z.out]at E;obtain⟨c0,Z,c2,c3,c4⟩:=E.c5;have fb:=E.zpe;obtain⟨Q,K⟩:=Y.c2;have B:=E.lt;have D:=Y.lt;clear E Y
   rw[<-J.out]))
 all_goals
  have A:=zc (zf5.left HN.out HA.out HS.out HW.out (zv H.out) hg.out h4.out hj.out ha.out hh.out h6.out);clear c0 Z c2 c3 c4 fb Q K B D;go_wp2_with fail;obtain⟨w6,s⟩:=zh (w5.setCell ⟨b,3,none⟩ (.pointer (zW n (v,i) l).pt))
  rw[<-s]at A ⊢;clear s;obtain⟨q,o⟩:=zh (Tt.node b x j L (zW n (v,i) l) r)
  have HF:=zc (F.out n);rw[<-o]at A HF;have u:some (⟨b,0,none⟩:Addr)=q.pt:=by rw[o];rfl
  rw[u];clear u o;refine(zac q _ A.out.inn A.out.nd (.inl A.out.ht)).mono ?_;rintro e w7 ⟨rfl,T,P⟩;have h8:=zc T;have hf:=zc P;clear T P;go_wp2_with fail;refine(qS (zC q) _ h8.out (((yt q).nodup_iff).2 A.out.nd) (.inl A.out.zpZ) A.out.rt).mono ?_;rintro e w8 ⟨rfl,R,C⟩;have hc:=zc R;have h9:=zc C;clear R C;go_wp2;go_ret2;exact A.out.close HF.out hf.out h9.out hc.out
theorem zhX(v i:Int)(b:Nat)(x j L:Int)(l r:Tt)(w:World)(h:(Tt.node b x j L l r).In w)(hn:(Tt.node b x j L l r).bl.Nodup)(hA:(Tt.node b x j L l r).AA)(hs:L<=100000)(t:xY (v,i) (x,j)=1)(hi:uf (v,i) r=true)
 (ih:∀w,r.In w->Calls prog 237 #[.pointer r.pt,.agg #[.int .i64 v,.int .i64 i]] w (zc2 v i r w)):
 Calls prog 237 #[.pointer (some ⟨b,0,none⟩),.agg #[.int .i64 v,.int .i64 i]] w (zc2 v i (.node b x j L l r) w):=by
 have F:Hid (∀n,zW n (v,i) (.node b x j L l r)=zH (zC (.node b x j L l (zW n (v,i) r)))):=zc (by intro n;simp only[zW,t];rfl);have hg:=zc h;obtain⟨W,h2,h3⟩:=h;obtain⟨c0,Z,c2,c3,c4⟩:=W.c5;have B:=W.lt;have HB:=zc W;have HL:=zc h2;have HR:=zc h3;have HN:=zc hn;have HA:=zc hA;have HI:=zc ih;have HK:=zc t;have HW:=zc hi;have HS:=zc hs;obtain⟨lp,p⟩:=zh l.pt
 obtain⟨rp,d⟩:=zh r.pt
 have z:=zc p;have J:=zc d;rw[<-p]at c3;rw[<-d]at c4;clear W h2 h3 hn hA ih t hi p d hs;go_enter func237,ntmps237;go_wp2;obtain⟨O,I⟩:=zh ((w.alloc (yg v i)).drew)
 have c:Below w.heap.size w O:=by rw[I];exact zv (zk w _)
 have a:=zc (HB.out.behind c);have K2:Kx O w.heap.size v i:=by rw[I];exact Kx.new w v i
 obtain⟨m,hm⟩:=zh w.heap.size
 rw[<-hm]at K2 ⊢;have HM:=zc hm;have f:=zc K2;have V:=zc c;clear hm c c0 Z c2 c3 c4 K2 B;obtain⟨c0,Z,c2,c3,c4⟩:=a.out.c5;obtain⟨Q,K⟩:=f.out.c2;have B:=a.out.lt;have D:=f.out.lt;refine zI 5 (by kernel_rfl) (by kernel_rfl) O I ?_;clear I;simp only[List.take_succ_cons,List.take_zero,List.drop_succ_cons,List.drop_zero]
 repeat still_step
 refine wpStill_nil ?_;go_wp2_with fail;refine(yM _ _ _ _ _).mono ?_;rintro e w3 ⟨rfl,rfl⟩;rw[HK.out];go_wp2_with fail;obtain⟨S,X⟩:=zh ((O.alloc (yg v i)).alloc (yg x j))
 have N:Below O.heap.size O S:=by rw[X];exact(zk O _).alloc (by simp) _
 rw[<-X];have M:=zc (a.out.behind N);have g:=zc (f.out.behind N);have H:=zc (zj V.out N V.out.size);clear X N c0 Z c2 c3 c4 Q K B D;obtain⟨c0,Z,c2,c3,c4⟩:=M.out.c5;have fb:=M.out.zpe;obtain⟨Q,K⟩:=g.out.c2;have B:=M.out.lt;have D:=g.out.lt;have h5:=zc (HL.out.behind H.out);have h0:=zc (HR.out.behind H.out);rw[<-z.out]at c3;rw[<-J.out]at c4;go_region_with
  ((
   go_at_call 237;rw[J.out];refine(HI.out S.drew h0.out.drew).mono ?_;rintro e w5 ⟨n,y,rfl,U,G⟩;have h4:=zc y;have hj:=zc U;have ha:=zc G;have E:=M.out.of (G.block b B (zu HN.out).2.1);have Y:=g.out.of (G.block m D (fun hm=>Nat.lt_irrefl m (by have:=HR.out.lt m hm;rw[<-HM.out]at this;exact this)));have h6:=zc (h5.out.of (w':=w5) fun k t hl=>G.block k hl (fun h7=>(zu HN.out).2.2.2.2 k t h7));clear y U G c0 Z c2 c3 c4 fb Q K B D;have hh:=zc E;rw[<-z.out,<-J.out]at E;obtain⟨c0,Z,c2,c3,c4⟩:=E.c5;have fb:=E.zpe;obtain⟨Q,K⟩:=Y.c2;have B:=E.lt;have D:=Y.lt;clear E Y
   rw[<-J.out]))
 all_goals
  have A:=zc (zf5.right HN.out HA.out HS.out HW.out (zv H.out) hg.out h4.out hj.out ha.out hh.out h6.out);clear c0 Z c2 c3 c4 fb Q K B D;go_wp2_with fail;obtain⟨w6,s⟩:=zh (w5.setCell ⟨b,4,none⟩ (.pointer (zW n (v,i) r).pt))
  rw[<-s]at A ⊢;clear s;obtain⟨q,o⟩:=zh (Tt.node b x j L l (zW n (v,i) r))
  have HF:=zc (F.out n);rw[<-o]at A HF;have u:some (⟨b,0,none⟩:Addr)=q.pt:=by rw[o];rfl
  rw[u];clear u o;refine(zac q _ A.out.inn A.out.nd (.inl A.out.ht)).mono ?_;rintro e w7 ⟨rfl,T,P⟩;have h8:=zc T;have hf:=zc P;clear T P;go_wp2_with fail;refine(qS (zC q) _ h8.out (((yt q).nodup_iff).2 A.out.nd) (.inl A.out.zpZ) A.out.rt).mono ?_;rintro e w8 ⟨rfl,R,C⟩;have hc:=zc R;have h9:=zc C;clear R C;go_wp2;go_ret2;exact A.out.close HF.out hf.out h9.out hc.out
theorem zlE(v i:Int)(t:Tt):∀w,t.In w->t.bl.Nodup->t.AA->t.size<=100000->uf (v,i) t=true->Calls prog 237 #[.pointer t.pt,.agg #[.int .i64 v,.int .i64 i]] w (zc2 v i t w):=by
 induction t with
 | nil=>intro w _ _ _ _ _;exact zlD v i w
 | node b x j L l r ihl ihr=>
  intro w h G D hs A;obtain⟨n1,n2,H,I,n5⟩:=zu G;have E:=D.size;rw[ztQ]at E;simp only[Tt.size]at hs E;simp only[uf]at A;rcases vd (v,i) (x,j)with⟨_,e⟩ | ⟨_,e⟩ | ⟨_,e⟩
  ·rw[if_pos e]at A;exact zj4 v i b x j L l r w h G D (by omega) e A (fun w' B=>ihl w' B H D.1 (by omega) A)
  ·rw[if_neg (by omega),if_neg (by omega)]at A;cases A
  ·rw[if_neg (by omega),if_pos e]at A;exact zhX v i b x j L l r w h G D (by omega) e A (fun w' B=>ihr w' B I D.2.1 (by omega) A)
def Tt.zrV(B:Int):Tt->Prop
 | .nil=>True
 | .node _ _ _ L l r=>1<=L/\L<=B/\l.zrV B/\r.zrV B
theorem Tt.zrV.mono{B C:Int}(hC:B<=C):∀{t:Tt},t.zrV B->t.zrV C
 | .nil,_=>trivial
 | .node _ _ _ _ _ _,⟨h1,h2,h3,h4⟩=>⟨h1,by omega,h3.mono hC,h4.mono hC⟩
theorem Tt.AA.lev:∀{t:Tt},t.AA->t.zrV t.ht
 | .nil,_=>trivial
 | .node b v i L l r,⟨h1,h2,h3,h4,h5⟩=>⟨h3,Int.le_refl _,h1.lev.mono (by rw[ztQ];omega),h2.lev.mono (by rw[ztQ];omega)⟩
theorem zbZ{B:Int}{t:Tt}(h:t.zrV B):(zC t).zrV B:=by
 cases t with
 | nil=>trivial
 | node b v i L l r=>
  cases l with
  | nil=>exact h
  | node c x j M p q=>
   obtain⟨G,D,⟨J,E,I,A⟩,H⟩:=h;simp only[zC];split
   ·exact⟨J,E,I,G,D,A,H⟩
   ·exact⟨G,D,⟨J,E,I,A⟩,H⟩
theorem zc4{B:Int}{t:Tt}(h:t.zrV B):(zH t).zrV (B+1):=by
 have A:=h.mono (show B<=B+1 by omega);cases t with
 | nil=>trivial
 | node b v i L l r=>
  cases r with
  | nil=>exact A
  | node c x j M p q=>
   cases q with
   | nil=>exact A
   | node d y k N s u=>
    simp only[zH];split
    ·obtain⟨G,E,I,h4,h5,D,H⟩:=A;obtain⟨g1,g2,g3,g4,g5,g6,g7⟩:=h;exact⟨by omega,by omega,⟨G,E,I,D⟩,H⟩
    ·exact A
theorem qF{B:Int}{t:Tt}(h:t.zrV B):(t.ht≠0∨t=.nil)/\0<=t.ht/\(0<=B->t.ht<=B):=by
 cases t with
 | nil=>exact⟨.inr rfl,Int.le_refl _,fun h=>h⟩
 | node b v i L l r=>obtain⟨h1,A,h3,h4⟩:=h;exact⟨.inl (by rw[ztQ];omega),by rw[ztQ];omega,fun _=>by rw[ztQ];exact A⟩
theorem zlJ{B:Int}{t:Tt}(h:t.zrV B):(xK t).zrV B:=by
 cases t with
 | nil=>trivial
 | node b v i L l r=>
  obtain⟨H,G,E,A⟩:=h;have hl:=(qF E).2;have hr:=(qF A).2;simp only[xK];split
  ·rename_i hm;have D:1<=uW l r:=by unfold uW;omega
   refine⟨D,by omega,E,?_⟩;split
   ·cases r with
    | nil=>trivial
    | node c x j M p q=>exact⟨D,by omega,A.2.2.1,A.2.2.2⟩
   ·exact A
  ·exact⟨H,G,E,A⟩
theorem uB{w w':World}{b:Nat}{x j L:Int}{l r r':Tt}(h:(Tt.node b x j L l r).In w)(B:(Tt.node b x j L l r).bl.Nodup)(hp:r'.bl.Perm r.bl)(H:r'.In w')(A:zo8 (fun k=>k∈r.bl) w w'):
 (Tt.node b x j L l r').In (w'.setCell ⟨b,4,none⟩ (.pointer r'.pt))/\(Tt.node b x j L l r').bl.Nodup/\zo8 (fun k=>k∈(Tt.node b x j L l r).bl) w (w'.setCell ⟨b,4,none⟩ (.pointer r'.pt)):=by
 obtain⟨I,D,n3,n4,E⟩:=zu B;have hb:b∉r'.bl:=fun e=>D (hp.mem_iff.1 e);refine⟨zbX (h.1.of (A.block b h.1.lt D)) (h.2.1.zpW A E) H I hb,((List.Perm.cons b (hp.append_left l.bl)).nodup_iff).2 B,?_⟩;exact(A.mono fun k G=>by simp[Tt.bl,G]).setCell (.inl (by simp[Tt.bl])) _
theorem zhY{w w':World}{b:Nat}{x j L:Int}{l r r':Tt}(h:(Tt.node b x j L l r).In w)(D:(Tt.node b x j L l r).bl.Nodup)(hp:r'.bl.Perm r.bl)(H:r'.In w')(B:r'.pt=r.pt)(A:zo8 (fun k=>k∈r.bl) w w'):
 (Tt.node b x j L l r').In w'/\(Tt.node b x j L l r').bl.Nodup/\zo8 (fun k=>k∈(Tt.node b x j L l r).bl) w w':=by
 obtain⟨n1,I,n3,n4,E⟩:=zu D;refine⟨⟨?_,h.2.1.zpW A E,H⟩,((List.Perm.cons b (hp.append_left l.bl)).nodup_iff).2 D,A.mono fun k G=>by simp[Tt.bl,G]⟩;rw[B];exact h.1.of (A.block b h.1.lt I)
theorem ze6(t:Tt)(h:t.isNil=false):∃b x j L l r,zC t=.node b x j L l r:=by
 cases t with
 | nil=>cases h
 | node b v i L l r=>
  cases l with
  | nil=>exact⟨_,_,_,_,_,_,rfl⟩
  | node c x j M p q=>simp only[zC];split <;> exact⟨_,_,_,_,_,_,rfl⟩
theorem zaX(t:Tt)(h:t.isNil=false):∃b x j L l r,zH t=.node b x j L l r:=by
 cases t with
 | nil=>cases h
 | node b v i L l r=>
  cases r with
  | nil=>exact⟨_,_,_,_,_,_,rfl⟩
  | node c x j M p q=>
   cases q with
   | nil=>exact⟨_,_,_,_,_,_,rfl⟩
   | node d y k N s u=>simp only[zH];split <;> exact⟨_,_,_,_,_,_,rfl⟩
theorem zee(t:Tt){B:Nat}{H D G:Int}{E A:Tt}(I:zC (xK t)=.node B H D G E A):
 zL t=(zH (.node B H D G E ((zC A).zpA (zC (zC A).right)))).zpA (zH (zH (.node B H D G E ((zC A).zpA (zC (zC A).right)))).right):=by
 unfold zL;simp only[I,zt,qr]
theorem ze7{B:Int}{t:Tt}(h:t.zrV B)(hB:B<=900001):0<=t.right.ht/\t.right.ht<=1000000:=by
 cases t with
 | nil=>exact⟨Int.le_refl _,by rw[xZ,xj];omega⟩
 | node b v i L l r=>
  have A:=(qF h.2.2.2).2;have h3:=A.2 (by have:=h.1;have:=h.2.1;omega);rw[zt];omega
def zlK(b:Nat)(t:Tt)(w w':World):Prop:=(xK t).In w'/\(xK t).pt=some ⟨b,0,none⟩/\zo8 (fun k=>k∈t.bl) w w'
def zlF(w:World)(k:Int×Int)(e:Ending)(w':World):Prop:=∃c L l r,e=.returned (.pointer (some ⟨c,0,none⟩))/\Nx w c k.1 k.2 L l r/\w'=w
theorem zlG(t:Tt)(w:World)(h:t.In w)(D:t.isNil=false):Calls prog 257 #[.pointer t.pt] w (zlF w (xh t)):=by
 obtain⟨O,B⟩:=zh t.pt
 rw[<-B];have I:=zc (And.intro h (And.intro D B));obtain⟨k,H⟩:=zh (xh t)
 rw[<-H];have T:=zc H;clear h D B H;go_enter func257,ntmps257;go_wp2;go_loopg [0] t.size (fun n v wr=>∃s:Tt,v=.pointer s.pt/\s.isNil=false/\s.In w/\xh s=k/\s.size<=n/\wr=w)
 case atStart=>exact⟨t,by rw[I.out.2.2],I.out.2.1,I.out.1,T.out.symm,zg _,rfl⟩
 case round=>
  obtain⟨s,rfl,D,A,G,E,rfl⟩:=hrel;cases s with
  | nil=>cases D
  | node b x j L l r=>
   have J:=zc A;have R:=zc G;have U:=zc E;obtain⟨c0,c1,c2,c3,c4⟩:=A.1.c5;have h1:=A.1.lt;clear A G E D;rw[show Value.pointer (Tt.node b x j L l r).pt=.pointer (some ⟨b,0,none⟩)from rfl];cases r with
   | nil=>
    rw[show(Tt.nil).pt=none from rfl]at c4;go_wp2;go_ret;have N:=R.out;simp only[xh]at N;subst N;exact⟨b,L,l.pt,none,rfl,J.out.1,rfl⟩
   | node c y k2 M p q=>
    rw[show(Tt.node c y k2 M p q).pt=some ⟨c,0,none⟩from rfl]at c4;go_wp2;go_roundg (Tt.node c y k2 M p q).size
    case measure=>have:=U.out;simp only[Tt.size]at this ⊢;omega
    case rel=>exact⟨.node c y k2 M p q,rfl,rfl,J.out.2.2,R.out,zg _,rfl⟩
theorem zeq(t:Tt)(w:World)(h:t.In w)(D:t.isNil=false):Calls prog 251 #[.pointer t.pt] w (zlF w (yk t)):=by
 obtain⟨O,B⟩:=zh t.pt
 rw[<-B];have I:=zc (And.intro h (And.intro D B));obtain⟨k,H⟩:=zh (yk t)
 rw[<-H];have T:=zc H;clear h D B H;go_enter func251,ntmps251;go_wp2;go_loopg [0] t.size (fun n v wr=>∃s:Tt,v=.pointer s.pt/\s.isNil=false/\s.In w/\yk s=k/\s.size<=n/\wr=w)
 case atStart=>exact⟨t,by rw[I.out.2.2],I.out.2.1,I.out.1,T.out.symm,zg _,rfl⟩
 case round=>
  obtain⟨s,rfl,D,A,G,E,rfl⟩:=hrel;cases s with
  | nil=>cases D
  | node b x j L l r=>
   have J:=zc A;have R:=zc G;have U:=zc E;obtain⟨c0,c1,c2,c3,c4⟩:=A.1.c5;have h1:=A.1.lt;clear A G E D;rw[show Value.pointer (Tt.node b x j L l r).pt=.pointer (some ⟨b,0,none⟩)from rfl];cases l with
   | nil=>
    rw[show(Tt.nil).pt=none from rfl]at c3;go_wp2;go_ret;have N:=R.out;simp only[yk]at N;subst N;exact⟨b,L,none,r.pt,rfl,J.out.1,rfl⟩
   | node c y k2 M p q=>
    rw[show(Tt.node c y k2 M p q).pt=some ⟨c,0,none⟩from rfl]at c3;go_wp2;go_roundg (Tt.node c y k2 M p q).size
    case measure=>have:=U.out;simp only[Tt.size]at this ⊢;omega
    case rel=>exact⟨.node c y k2 M p q,rfl,rfl,J.out.2.1,R.out,zg _,rfl⟩
def Rx(w:World)(t:Nat)(p:Option Addr)(m:Int):Prop:=w.heap[t]?=some (.cells #[.pointer p,.int .i64 m] 283 (0,0))
theorem Rx.lt{w:World}{t:Nat}{p:Option Addr}{m:Int}(h:Rx w t p m):t<w.heap.size:=(zd h).1
theorem Rx.c2{w:World}{t:Nat}{p:Option Addr}{m:Int}(h:Rx w t p m):w.cell? ⟨t,0,none⟩=some (.pointer p)/\w.cell? ⟨t,1,none⟩=some (.int .i64 m):=by unfold Rx at h;constructor <;> simp[World.cell?,h]
theorem Rx.zpe{w:World}{t:Nat}{p:Option Addr}{m:Int}(h:Rx w t p m):∀j,w.frozen? ⟨t,j,none⟩=false:=by intro j;unfold Rx at h;simp[World.frozen?,h]
theorem Rx.of{w w':World}{t:Nat}{p:Option Addr}{m:Int}(h:Rx w t p m)(hb:w'.heap[t]?=w.heap[t]?):Rx w' t p m:=hb.trans h
theorem Rx.zsD{w:World}{t:Nat}{p:Option Addr}{m:Int}(h:Rx w t p m)(q:Option Addr):Rx (w.setCell ⟨t,0,none⟩ (.pointer q)) t q m:=zi h
theorem Rx.zsR{w:World}{t:Nat}{p:Option Addr}{m:Int}(h:Rx w t p m)(n:Int):Rx (w.setCell ⟨t,1,none⟩ (.int .i64 n)) t p n:=zi h
theorem Kx.zpe{w:World}{b:Nat}{v i:Int}(h:Kx w b v i):∀j,w.frozen? ⟨b,j,none⟩=false:=by intro j;unfold Kx at h;simp[World.frozen?,h]
def zc3(w:World)(k:Option (Int×Int))(e:Ending)(w':World):Prop:=e=.returned (match k with
 | some k=>.tuple #[.agg #[.int .i64 k.1,.int .i64 k.2],.bool true]
 | none=>.tuple #[.agg #[.int .i64 0,.int .i64 0],.bool false])/\Below w.heap.size w w'
theorem yy{B b:Nat}{a w:World}{u v:Value}(h:Below B a w)(hb:B<=b):Below B a ((w.setCell ⟨b,0,none⟩ u).setCell ⟨b,1,none⟩ v):=(h.setCell (by exact hb) _).setCell (by exact hb) _
theorem zlH(t:Nat)(m:Int)(f:Value)(w:World)(h:Rx w t none m):Calls prog 250 #[.pointer (some ⟨t,0,none⟩),f] w (zc3 w none):=by
 obtain⟨c0,c1⟩:=h.c2;have A:=h.lt;clear h;have h1:(w.alloc (yg 0 0)).cell? ⟨t,0,none⟩=some (.pointer none):=by rw[(zk w (yg 0 0)).cell (p:=⟨t,0,none⟩) A];exact c0
 go_enter func250,ntmps250;go_wp2;refine bodyPost_ret (v:=.tuple #[.agg #[.int .i64 0,.int .i64 0],.bool false]) (by simp[results,results250,go_sem]) rfl ⟨rfl,?_⟩;exact(Below.refl _ w).alloc (zg _) _
theorem zlI(t:Nat)(T:Tt)(m:Int)(w:World)(h:Rx w t T.pt m)(V:T.In w)(R:T.isNil=false):Calls prog 250 #[.pointer (some ⟨t,0,none⟩),.func (.func 251) #[] #[]] w (zc3 w (some (yk T))):=by
 cases T with
 | nil=>cases R
 | node b x j L l r=>
  have f:=zc V;obtain⟨k,N⟩:=zh (yk (.node b x j L l r))
  rw[<-N];have d:=zc N;obtain⟨c0,a⟩:=h.c2;have hl:=h.lt;rw[show(Tt.node b x j L l r).pt=some ⟨b,0,none⟩from rfl]at c0;clear h V N R;go_enter func250,ntmps250;go_wp2_with fail;refine(zeq (.node b x j L l r) _ (f.out.behind (zk w (yg 0 0))) rfl).mono ?_;rw[<-d.out];rintro e w2 ⟨c,M,p,q,rfl,J,hw⟩;subst hw;obtain⟨d0,d1,d2,d3,d4⟩:=J.c5;have zre:=J.lt;have A:Kx (w.alloc (yg 0 0)) w.heap.size 0 0:=Kx.new w 0 0;obtain⟨O,X⟩:=A.c2;have H:=A.lt;have G:=A.zpe;obtain⟨m0,B⟩:=zh w.heap.size
  have U:=zc (zk w (yg 0 0));have D:=zc A;rw[<-B]at O X H G D ⊢;have Y:=zc B;clear B J A c0 a d2 d3 d4;obtain⟨I,E⟩:=zh (w.alloc (yg 0 0))
  rw[<-E]at d0 d1 O X H G zre U D ⊢;clear E;go_wp2;refine bodyPost_ret (v:=.tuple #[.agg #[.int .i64 k.1,.int .i64 k.2],.bool true]) ?_ rfl ⟨rfl,?_⟩
  ·have hs:Kx ((I.setCell ⟨m0,0,none⟩ (.int .i64 k.1)).setCell ⟨m0,1,none⟩ (.int .i64 k.2)) m0 k.1 k.2:=by have Z:(I.setCell ⟨m0,0,none⟩ (.int .i64 k.1)).heap[m0]?=_:=zi D.out;exact zi Z
   obtain⟨g0,g1⟩:=hs.c2;simp[results,results250,go_sem,g0,g1]
  ·exact yy U.out (by rw[Y.out];exact zg _)
theorem znC(w:World):Calls prog 121 #[] w fun e w'=>e=.returned (.pointer (some ⟨w.heap.size,0,none⟩))/\w'=w.alloc (.cells #[.pointer none,.int .i64 0] 283):=by go_enter func121,ntmps121;go_wp2;go_ret;exact⟨rfl,rfl⟩
theorem zj5(T:Tt):T.keys.head? =if T.isNil=true then none else some (yk T):=by
 cases h:T.isNil
 ·obtain⟨l,A⟩:=vJ T h;rw[A];simp
 ·rw[xd h];rfl
theorem zfc(t:Nat)(T:Tt)(m:Int)(w:World)(h:Rx w t T.pt m)(N:T.In w):Calls prog 229 #[.pointer (some ⟨t,0,none⟩)] w (zc3 w T.keys.head?):=by
 have hC:∀W,Below w.heap.size w W->Calls prog 250 #[.pointer (some ⟨t,0,none⟩),.func (.func 251) #[] #[]] W (zc3 W T.keys.head?):=by
  intro W E;rw[zj5];cases h0:T.isNil
  ·exact zlI t T m W (h.of (E.block t h.lt)) (N.behind E) h0
  ·have O:=xd h0;subst O;exact zlH t m _ W (h.of (E.block t h.lt))
 have H:=zc (hC (w.alloc (yg 0 0)) (zk w _));obtain⟨k,J⟩:=zh (T.keys.head? )
 rw[<-J]at H ⊢;clear h N hC J;go_enter func229,ntmps229;go_wp2_with fail;refine H.out.mono ?_;rintro e D ⟨rfl,hb⟩;have A:=zc ((Kx.new w 0 0).behind hb);have M:=zc (zj (zk w (yg 0 0)) hb (by simp));obtain⟨m0,B⟩:=zh w.heap.size
 rw[<-B]at A ⊢;have I:=zc B;clear B hb H;obtain⟨e0,e1⟩:=A.out.c2;have h3:=A.out.lt;have h2:=A.out.zpe;cases k with
 | none=>
  go_wp2;refine bodyPost_ret (v:=.tuple #[.agg #[.int .i64 0,.int .i64 0],.bool false]) ?_ rfl ⟨rfl,?_⟩
  ·have hs:Kx ((D.setCell ⟨m0,0,none⟩ (.int .i64 0)).setCell ⟨m0,1,none⟩ (.int .i64 0)) m0 0 0:=by have G:(D.setCell ⟨m0,0,none⟩ (.int .i64 0)).heap[m0]?=_:=zi A.out;exact zi G
   obtain⟨g0,g1⟩:=hs.c2;simp[results,results229,go_sem,g0,g1]
  ·exact yy M.out (by rw[I.out];exact zg _)
 | some k=>
  go_wp2;refine bodyPost_ret (v:=.tuple #[.agg #[.int .i64 k.1,.int .i64 k.2],.bool true]) ?_ rfl ⟨rfl,?_⟩
  ·have hs:Kx ((D.setCell ⟨m0,0,none⟩ (.int .i64 k.1)).setCell ⟨m0,1,none⟩ (.int .i64 k.2)) m0 k.1 k.2:=by have G:(D.setCell ⟨m0,0,none⟩ (.int .i64 k.1)).heap[m0]?=_:=zi A.out;exact zi G
   obtain⟨g0,g1⟩:=hs.c2;simp[results,results229,go_sem,g0,g1]
  ·exact yy M.out (by rw[I.out];exact zg _)
def vK(k:Int×Int):Tt->Option (Int×Int)
 | .nil=>none
 | .node _ v i _ l r=>if zqk k (v,i)then(match vK k l with | some x=>some x | none=>some (v,i))else vK k r
theorem uC(k:Int×Int):∀T:Tt,T.keys.Pairwise zqk->vK k T=T.keys.find? (fun a=>decide (zqk k a))
 | .nil,_=>rfl
 | .node b v i L l r,hs=>by
  simp only[Tt.keys]at hs ⊢;obtain⟨D,H,A⟩:=List.pairwise_append.1 hs;obtain⟨h0,B⟩:=List.pairwise_cons.1 H;rw[List.find?_append,<-uC k l D];simp only[vK];split
  ·rename_i h;rw[List.find?_cons_of_pos (by simpa using h)];cases vK k l <;> rfl
  ·rename_i h;rw[List.find?_cons_of_neg (by simpa using h),<-uC k r B];have:vK k l=none:=by rw[uC k l D,List.find?_eq_none];intro a G;simp only[decide_eq_true_eq];intro E;exact h (zbW E (A a G (v,i) (by simp)))
   rw[this];rfl
def za5(k:Int×Int)(s:Tt)(f:Option (Int×Int)):Option (Int×Int):=match vK k s with
 | some x=>some x
 | none=>f
def zfd(w:World)(f:Option (Int×Int))(p:Option Addr):Prop:=match f with
 | none=>p=none
 | some k=>∃c L l r,p=some ⟨c,0,none⟩/\Nx w c k.1 k.2 L l r
theorem zlL(t:Nat)(T:Tt)(m:Int)(v i:Int)(w:World)(h:Rx w t T.pt m)(hT:T.In w):Calls prog 230 #[.pointer (some ⟨t,0,none⟩),.agg #[.int .i64 v,.int .i64 i]] w (zc3 w (vK (v,i) T)):=by
 obtain⟨k,hk⟩:=zh (vK (v,i) T)
 rw[<-hk];have HK:=zc hk;have HT:=zc hT;have HR:=zc h;clear h hT hk;have o:Hid (Below w.heap.size w ((w.alloc (yg v i)).alloc (yg 0 0))):=zc (((Below.refl _ w).alloc (zg _) _).alloc (by simp) _);obtain⟨tp,q⟩:=zh T.pt
 have hR:=HR.out.of (o.out.block t HR.out.lt);rw[<-q]at hR;obtain⟨c0,c1⟩:=hR.c2;have hl:=hR.lt;have h9:=zc q;clear hR q;go_enter func230,ntmps230;go_wp2_with fail;obtain⟨m1,C⟩:=zh w.heap.size
 obtain⟨m2,a⟩:=zh (w.heap.size+1)
 rw[<-a,<-C];have hh:=zc C;have y:=zc a;clear C a;go_loopg [6,7] T.size (fun n vf vn wr=>∃(s:Tt) (f:Option (Int×Int)) (p:Option Addr),vn=.pointer s.pt/\vf=.pointer p/\zfd wr f p/\s.In wr/\za5 (v,i) s f=k/\s.size<=n/\Kx wr m1 v i/\Kx wr m2 0 0/\Below w.heap.size w wr)
 case atStart=>
  refine⟨T,none,none,by rw[h9.out],rfl,rfl,HT.out.behind o.out,?_,zg _,?_,?_,o.out⟩
  ·rw[HK.out];unfold za5;cases vK (v,i) T <;> rfl
  ·rw[hh.out];exact(Kx.new w v i).behind (zk _ _)
  ·rw[y.out];have:=Kx.new (w.alloc (yg v i)) 0 0;rw[show(w.alloc (yg v i)).heap.size=w.heap.size+1 by simp]at this;exact this
 case round=>
  obtain⟨s,f,p,rfl,rfl,hF,h5,hn,S,W,h4,hb⟩:=hrel;have HF:=zc hF;have HI:=zc h5;have HN:=zc hn;have HZ:=zc S;have J:=zc W;have A:=zc h4;have HB:=zc hb;clear hF h5 hn S W h4 hb c0 c1 hl;obtain⟨k0,k1⟩:=J.out.c2;have z:=J.out.lt;obtain⟨z0,z1⟩:=A.out.c2;have h7:=A.out.lt;have h8:=A.out.zpe;cases s with
  | nil=>
   have u:=HN.out;unfold za5 at u;simp only[vK]at u;subst u;rw[show Value.pointer Tt.nil.pt=.pointer none from rfl];cases f with
   | none=>
    have hp:p=none:=HF.out;subst hp;go_wp2;refine bodyPost_ret (v:=.tuple #[.agg #[.int .i64 0,.int .i64 0],.bool false]) ?_ rfl ⟨rfl,?_⟩
    ·have hs:Kx ((wr.setCell ⟨m2,0,none⟩ (.int .i64 0)).setCell ⟨m2,1,none⟩ (.int .i64 0)) m2 0 0:=by have h1:(wr.setCell ⟨m2,0,none⟩ (.int .i64 0)).heap[m2]?=_:=zi A.out;exact zi h1
     obtain⟨g0,g1⟩:=hs.c2;simp[results,results230,go_sem,g0,g1]
    ·exact yy HB.out (by rw[y.out];omega)
   | some k=>
    obtain⟨c,L,l,r,rfl,Q⟩:=HF.out;obtain⟨x0,x1,K,U,R⟩:=Q.c5;have G:=Q.lt;clear Q K U R;go_wp2;refine bodyPost_ret (v:=.tuple #[.agg #[.int .i64 k.1,.int .i64 k.2],.bool true]) ?_ rfl ⟨rfl,?_⟩
    ·have hs:Kx ((wr.setCell ⟨m2,0,none⟩ (.int .i64 k.1)).setCell ⟨m2,1,none⟩ (.int .i64 k.2)) m2 k.1 k.2:=by have h1:(wr.setCell ⟨m2,0,none⟩ (.int .i64 k.1)).heap[m2]?=_:=zi A.out;exact zi h1
     obtain⟨g0,g1⟩:=hs.c2;simp[results,results230,go_sem,g0,g1]
    ·exact yy HB.out (by rw[y.out];omega)
  | node b x j L l r=>
   rw[show Value.pointer (Tt.node b x j L l r).pt=.pointer (some ⟨b,0,none⟩)from rfl];obtain⟨x0,x1,K,U,R⟩:=HI.out.1.c5;have G:=HI.out.1.lt;obtain⟨lp,F⟩:=zh l.pt
   obtain⟨rp,g⟩:=zh r.pt
   have h2:=zc F;have h0:=zc g;rw[<-F]at U;rw[<-g]at R;clear F g;go_wp2_with fail;obtain⟨N,I⟩:=zh wr.drew
   have H:Below wr.heap.size wr N:=by rw[I];exact zv (Below.refl _ _)
   have d:=zc (zj HB.out H HB.out.size);have M:=zc (HI.out.behind H);have B:=zc (J.out.behind H);have O:=zc (A.out.behind H);have h6:Hid (zfd N f p):=zc (by rw[I];exact HF.out);clear H x0 x1 K U R G k0 k1 z z0 z1 h7 h8 HF HI J A HB;obtain⟨x0,x1,K,U,R⟩:=M.out.1.c5;have G:=M.out.1.lt;obtain⟨k0,k1⟩:=B.out.c2;have z:=B.out.lt;refine zI 5 (by kernel_rfl) (by kernel_rfl) N I ?_;clear I;simp only[List.take_succ_cons,List.take_zero,List.drop_succ_cons,List.drop_zero]
   repeat still_step
   refine wpStill_nil ?_;go_wp2_with fail;refine(yM _ _ _ _ _).mono ?_;rintro e w3 ⟨rfl,rfl⟩;obtain⟨w4,Y⟩:=zh ((N.alloc (yg x j)).alloc (yg v i))
   have D:Below N.heap.size N w4:=by rw[Y];exact(zk N _).alloc (by simp) _
   rw[<-Y];have h3:=zc (zj d.out D d.out.size);have E:=zc (M.out.behind D);have X:=zc (B.out.behind D);have V:=zc (O.out.behind D);have hf:Hid (zfd w4 f p):=zc (by
    have:=h6.out;cases f with
    | none=>exact this
    | some k=>obtain⟨c,L,l,r,hp,Q⟩:=this;exact⟨c,L,l,r,hp,Q.behind D⟩)
   clear Y D x0 x1 K U R G k0 k1 z h6 M B O d;obtain⟨x0,x1,K,U,R⟩:=E.out.1.c5;have G:=E.out.1.lt;rw[<-h2.out]at U;rw[<-h0.out]at R;by_cases P:zqk (v,i) (x,j)
   ·rw[zcK P];have hg:Hid (zfd w4 (some (x,j)) (some ⟨b,0,none⟩)):=zc ⟨b,L,_,_,rfl,E.out.1⟩;have Z:Hid (za5 (v,i) l (some (x,j))=k):=zc (by have:=HN.out;unfold za5 at this ⊢;simp only[vK]at this;rw[if_pos P]at this;cases hnl:vK (v,i) l <;> rw[hnl]at this <;> exact this);clear P;go_wp2_with fail;go_quiet (fail);go_wp2;rw[h2.out];go_roundg l.size
    case measure=>have:=HZ.out;simp only[Tt.size]at this;omega
    case rel=>exact⟨l,some (x,j),some ⟨b,0,none⟩,rfl,rfl,hg.out,E.out.2.1.drewN _,Z.out,zg _,X.out,V.out,zp h3.out _⟩
   ·have ha:xY (x,j) (v,i)= -1∨xY (x,j) (v,i)=0:=by
     rcases vd (x,j) (v,i)with⟨_,e⟩ | ⟨_,e⟩ | ⟨h,_⟩
     ·exact .inl e
     ·exact .inr e
     ·exact absurd h P
    have Z:Hid (za5 (v,i) r f=k):=zc (by have:=HN.out;unfold za5 at this ⊢;simp only[vK]at this;rw[if_neg P]at this;exact this);clear P;rcases ha with e | e
    all_goals
     rw[e];clear e;go_wp2;rw[h0.out];go_roundg r.size
     case measure=>have:=HZ.out;simp only[Tt.size]at this;omega
     case rel=>exact⟨r,f,p,rfl,rfl,hf.out,E.out.2.2,Z.out,zg _,X.out,V.out,h3.out⟩
end
end Go.Proofs.YtmgekibncmnmiaaGreatDoor
