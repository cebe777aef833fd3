/- A pack of texts. Conditions: those that each names. -/
import Derived.Test.YtgdhaaokolfdoaaGreatDoorNAL
set_option maxHeartbeats 16000000
set_option maxRecDepth 100000
set_option linter.all false
namespace Go.Sg
structure Lay where
 region:Int
 page:Int
 pages:Int
 per:Int
 slots:Int
 tree:Int
 Mw:Int
abbrev Lay.val (x:Lay):Value:=.agg #[iI 2,iI x.region,iI x.page,iI x.pages,iI x.per,iI x.slots,iI x.tree,iI x.Mw]
abbrev Gk:Value:=.agg #[iI 0,iI 0,iI 0,iI 0,iI 0,iI 0,iI 0,iI 0]
def S6 (p:R8):Lay:=
 let room:=p.size-19
 let per:=room/12
 let region:=2+p.log
 let page:=region+p.regions*p.T2
 let many:Int:=2^p.depth.toNat
 ⟨region,page,p.C0-page,per,(room-10)/20,1+(many+per-1)/per+many,p.T2*room⟩
def eS (p:R8):Bool:=gX p && decide ((2:Int)^p.depth.toNat<=(S6 p).per*(S6 p).per/\3*(S6 p).tree+4<=(S6 p).pages)
end Go.Sg
namespace Go.Proofs.YtgdhaaokolfdoaaGreatDoor
open Go.RowKit Go.Sg Tryz
def yE0 (p:R8)(h:gX p=false)(w:w9):cP 91 #[p.val] w fun e w'=>e = rT (tU #[Gk,iI 12])/\Fq w w':=by
 obtain⟨a,b,c,d,f,g,hh,s⟩:=p;have HB:=hid fun W=>mK0 ⟨a,b,c,d,f,g,hh,s⟩ W;rw[h] at HB;clear h;obtain⟨w1,I0⟩:=eX ((w.alloc (.cells #[iI a,iI b,iI c,iI d,iI f,iI g,iI hh,iU s] 31)).alloc (.cells #[iI 0,iI 0,iI 0,iI 0,iI 0,iI 0,iI 0,iI 0] 169))
 obtain⟨b0,b1,F1⟩:=n9 I0;have HW:=hid I0;have E1:=hid F1;have I3:=hid b1;clear I0 b0 b1 F1;go_enter func91,ntmps91;go_wp2_with fail
 rw[HW];refine (HB _).mono ?_;rintro e w2 ⟨rfl,F2⟩;have b2:=F2.heap I3 id;have k0:=G0 b2 0;have k1:=G0 b2 1;have k2:=G0 b2 2;have k3:=G0 b2 3;have k4:=G0 b2 4;have k5:=G0 b2 5;have k6:=G0 b2 6;have k7:=G0 b2 7;have kz:∀ o,w2.frozen? ⟨w+1,o,none⟩=false:=fun o=>X2 b2 o
 simp at k0 k1 k2 k3 k4 k5 k6 k7;have Y0:=hid F2;clear F2 b2;go_wp2
 refine bodyPost_ret (v:=tU #[Gk,iI 12]) sR rfl ⟨rfl,?_⟩;repeat (with_reducible refine Fr.U2 ?_ oM _)
 exact E1.trans Y0 nI
def QL {a b A B:Int}(h1:0<=a)(h2:a<=A)(h3:0<=b)(h4:b<=B):0<=a*b/\a*b<=A*B:=
 ⟨Int.mul_nonneg h1 h3,Int.mul_le_mul h2 h4 h3 oM⟩
def rN0 (b:Bool)(x:Lay)(w:w9)(e:Ending)(w':w9):Prop:=e = rT (if b=true then .tuple #[x.val,iI 0] else .tuple #[Gk,iI 12])/\Fq w w'
def yF0 (a b c d f g hh s many:Int)(hb:96<=b/\b<=512)(ha:1<=a/\a<=16384)(hc:3<=c/\c<=64)(hd:1<=d/\d<=32)(hf:4<=f/\f<=256)(hg:0<=g/\g<=8)(hh8:8<=hh/\hh<=256)
  (hm:∀ w,(Op.shift BinOp.shl IntKind.i64 1 IntKind.i64 g).run prog w = .ok (iI many) w) (ew:1<=many/\many<=256) (hw:gX ⟨a,b,c,d,f,g,hh,s⟩=true)
  (x:Lay) (hx:x=⟨2+f,2+f+c*d,a-(2+f+c*d),(b-19)/12,(b-19-10)/20,1+(many+(b-19)/12-1)/((b-19)/12)+many,d*(b-19)⟩) (w:w9) :
  cP 91 #[(R8.mk a b c d f g hh s).val] w (rN0 (decide (many<=(b-19)/12*((b-19)/12)/\3*x.tree+4<=x.pages)) x w):=by
 have HB:=hid fun W=>mK0 ⟨a,b,c,d,f,g,hh,s⟩ W;rw[hw] at HB;obtain⟨m0,m1⟩:=QL (show 0<=c by omega) hc.2 (show 0<=d by omega) hd.2;obtain⟨r0,r1⟩:=QL (show 0<=d by omega) hd.2 (show 0<=b-19 by omega) (show b-19<=493 by omega);have q0:6<=(b-19)/12:=oM
 have q1:(b-19)/12<=41:=oM
 obtain⟨p0,p1⟩:=QL (show 0<=(b-19)/12 by omega) q1 (show 0<=(b-19)/12 by omega) q1;have u0:0<=(many+(b-19)/12-1)/((b-19)/12):=Int.ediv_nonneg oM oM;have u1:(many+(b-19)/12-1)/((b-19)/12)<=300:=Int.le_trans (Int.ediv_le_self _ oM) oM;obtain⟨w1,I0⟩:=eX ((w.alloc (.cells #[iI a,iI b,iI c,iI d,iI f,iI g,iI hh,iU s] 31)).alloc (.cells #[iI 0,iI 0,iI 0,iI 0,iI 0,iI 0,iI 0,iI 0] 169))
 obtain⟨b0,b1,F1⟩:=n9 I0;have HW:=hid I0;have E1:=hid F1;have Gy:=hi2 b0 b1;have HX:=hid hx;have E5:=hb.1;have L4:=hb.2;have ha1:=ha.1;have ha2:=ha.2;have gj:=hc.1;have nU:=hc.2;have av:=hd.1;have ic:=hd.2;have UT:=hf.1;have mP:=hf.2;have hm21:=ew.1;have hm22:=ew.2;clear I0 b0 b1 F1 hx hw hb ha hc hd hf hg hh8 ew;go_enter func91,ntmps91;go_wp2_with fail
 rw[HW];refine (HB _).mono ?_;rintro e w2 ⟨rfl,F2⟩;have b2:=F2.heap Gy.2 id;have a2:=F2.heap Gy.1 id;have l2:=M0 b2;have l3:w.heap.size<w2.heap.size:=oM
 have l4:¬ w2.heap.size=w.heap.size:=oM
 have l5:¬ w2.heap.size=w.heap.size+1:=oM
 have k0:=G0 b2 0;have k1:=G0 b2 1;have k2:=G0 b2 2;have k3:=G0 b2 3;have k4:=G0 b2 4;have k5:=G0 b2 5;have k6:=G0 b2 6;have k7:=G0 b2 7;have kz:∀ o,w2.frozen? ⟨w.heap.size+1,o,none⟩=false:=fun o=>X2 b2 o
 have j0:=G0 a2 0;have j1:=G0 a2 1;have j2:=G0 a2 2;have j3:=G0 a2 3;have j4:=G0 a2 4;have j5:=G0 a2 5;simp at k0 k1 k2 k3 k4 k5 k6 k7 j0 j1 j2 j3 j4 j5;have Y0:=hid F2;clear F2 b2 a2;go_wp2_with fail
 refine (PO b E5 L4 _).mono ?_;rintro e w3 ⟨rfl,rfl⟩;have FF:=hid (E1.trans Y0 nI);by_cases h1:many<=(b-19)/12*((b-19)/12)
 .by_cases h2:3*(1+(many+(b-19)/12-1)/((b-19)/12)+many)+4<=a-(2+f+c*d)
  .have HE:=hi2 h1 h2;go_wp2
   refine bodyPost_ret (v:=tU #[.agg #[iI 2,iI (2+f),iI (2+f+c*d),iI (a-(2+f+c*d)),iI ((b-19)/12),iI ((b-19-10)/20),iI (1+(many+(b-19)/12-1)/((b-19)/12)+many),iI (d*(b-19))],iI 0]) sR rfl ⟨?_,?_⟩
   .rw[HX,if_pos (decide_eq_true HE.o)]
   .repeat (first|(with_reducible refine Fr.U2 ?_ oM _)|(with_reducible refine Fr.alloc ?_ _))
    exact FF
  .have HE:=hid h2;have eU:a-(2+f+c*d)<3*(1+(many+(b-19)/12-1)/((b-19)/12)+many)+4:=by omega
   clear h2;go_wp2
   all_goals (try (exfalso;omega))
   all_goals
    refine bodyPost_ret (v:=tU #[Gk,iI 12]) sR rfl ⟨?_,?_⟩
    .rw[HX,if_neg fun h=>Int.not_le.2 HE (of_decide_eq_true h).2]
    .repeat (first|(with_reducible refine Fr.U2 ?_ oM _)|(with_reducible refine Fr.alloc ?_ _))
     exact FF
 .have HE:=hid h1;have qU:(b-19)/12*((b-19)/12)<many:=by omega
  clear h1;go_wp2
  all_goals (try (exfalso;omega))
  all_goals
   refine bodyPost_ret (v:=tU #[Gk,iI 12]) sR rfl ⟨?_,?_⟩
   .rw[HX,if_neg fun h=>Int.not_le.2 HE (of_decide_eq_true h).1]
   .repeat (first|(with_reducible refine Fr.U2 ?_ oM _)|(with_reducible refine Fr.alloc ?_ _))
    exact FF
def Eg0 (w:w9):(Op.shift BinOp.shl IntKind.i64 1 IntKind.i64 0).run prog w = .ok (iI 1) w:=by kernel_rfl
def Ef0 (w:w9):(Op.shift BinOp.shl IntKind.i64 1 IntKind.i64 1).run prog w = .ok (iI 2) w:=by kernel_rfl
def Ee0 (w:w9):(Op.shift BinOp.shl IntKind.i64 1 IntKind.i64 2).run prog w = .ok (iI 4) w:=by kernel_rfl
def Ed0 (w:w9):(Op.shift BinOp.shl IntKind.i64 1 IntKind.i64 3).run prog w = .ok (iI 8) w:=by kernel_rfl
def Ec0 (w:w9):(Op.shift BinOp.shl IntKind.i64 1 IntKind.i64 4).run prog w = .ok (iI 16) w:=by kernel_rfl
def Eb0 (w:w9):(Op.shift BinOp.shl IntKind.i64 1 IntKind.i64 5).run prog w = .ok (iI 32) w:=by kernel_rfl
def Ea0 (w:w9):(Op.shift BinOp.shl IntKind.i64 1 IntKind.i64 6).run prog w = .ok (iI 64) w:=by kernel_rfl
def EZ0 (w:w9):(Op.shift BinOp.shl IntKind.i64 1 IntKind.i64 7).run prog w = .ok (iI 128) w:=by kernel_rfl
def EY0 (w:w9):(Op.shift BinOp.shl IntKind.i64 1 IntKind.i64 8).run prog w = .ok (iI 256) w:=by kernel_rfl
def Yq (p:R8)(w:w9):cP 91 #[p.val] w (rN0 (eS p) (S6 p) w):=by
 cases hw:gX p with
 | false =>
  have e:eS p=false:=by rw[eS,hw];rfl
  rw[e];exact (yE0 p hw w).mono fun e w' ⟨h1,h2⟩=>⟨by rw[h1];rfl,h2⟩
 | true =>
  have e:eS p=decide ((2:Int)^p.depth.toNat<=(S6 p).per*(S6 p).per/\3*(S6 p).tree+4<=(S6 p).pages):=by rw[eS,hw];rfl
  rw[e];have hb:=of_decide_eq_true hw;obtain⟨a,b,c,d,f,g,hh,s⟩:=p;simp only at hb;obtain⟨h1,h2,h3,h4,h5,h6,h7⟩:=hb;have hs:∃ many:Int,(∀ w,(Op.shift BinOp.shl IntKind.i64 1 IntKind.i64 g).run prog w = .ok (iI many) w)/\(1<=many/\many<=256)/\(2:Int)^g.toNat=many:=by
   rcases (show g=0\/g=1\/g=2\/g=3\/g=4\/g=5\/g=6\/g=7\/g=8 by omega) with rfl|rfl|rfl|rfl|rfl|rfl|rfl|rfl|rfl
   .exact⟨1,Eg0,oM,rfl⟩
   .exact⟨2,Ef0,oM,rfl⟩
   .exact⟨4,Ee0,oM,rfl⟩
   .exact⟨8,Ed0,oM,rfl⟩
   .exact⟨16,Ec0,oM,rfl⟩
   .exact⟨32,Eb0,oM,rfl⟩
   .exact⟨64,Ea0,oM,rfl⟩
   .exact⟨128,EZ0,oM,rfl⟩
   .exact⟨256,EY0,oM,rfl⟩
  obtain⟨many,hm,ew,he⟩:=hs;have:=yF0 a b c d f g hh s many h1 h2 h3 h4 h5 h6 h7 hm ew hw (S6 ⟨a,b,c,d,f,g,hh,s⟩) (by simp only[S6,he]) w;simp only[he];exact this
