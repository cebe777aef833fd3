/- A pack of texts. Conditions: those that each names. -/
import Derived.Test.YtgdhaaokolfdoaaGreatDoorNAL
set_option maxHeartbeats 16000000
set_option maxRecDepth 100000
set_option linter.all false
namespace Go.Sg
structure Lay where
 region:Int
 page:Int
 pages:Int
 per:Int
 slots:Int
 tree:Int
 rroom:Int
abbrev Lay.val (x:Lay):Value:=.agg #[.int .i64 2,.int .i64 x.region,.int .i64 x.page,.int .i64 x.pages,.int .i64 x.per,.int .i64 x.slots,.int .i64 x.tree,.int .i64 x.rroom]
abbrev yE0:Value:=.agg #[.int .i64 0,.int .i64 0,.int .i64 0,.int .i64 0,.int .i64 0,.int .i64 0,.int .i64 0,.int .i64 0]
def cd0 (p:bp0):Lay:=
 let room:=p.size-19
 let per:=room/12
 let region:=2+p.log
 let page:=region+p.regions*p.rsectors
 let many:Int:=2^p.depth.toNat
 ⟨region,page,p.sectors-page,per,(room-10)/20,1+(many+per-1)/per+many,p.rsectors*room⟩
def cj0 (p:bp0):Bool:=bv0 p && decide ((2:Int)^p.depth.toNat<=(cd0 p).per*(cd0 p).per/\3*(cd0 p).tree+4<=(cd0 p).pages)
end Go.Sg
namespace Go.Proofs.YtgdhaaokolfdoaaGreatDoor
open Go.RowKit Go.Sg
theorem wV0 (p:bp0)(h:bv0 p=false)(w:World):Calls Tryz.prog 91 #[p.val] w fun e w'=>e = .returned (.tuple #[yE0,.int .i64 12])/\Fq w w':=by
 obtain⟨a,b,c,d,f,g,hh,s⟩:=p;have HB:=hid (fun W=>lM0 ⟨a,b,c,d,f,g,hh,s⟩ W);rw[h] at HB;clear h;obtain⟨w1,hw1⟩:=eX ((w.alloc (.cells #[.int .i64 a,.int .i64 b,.int .i64 c,.int .i64 d,.int .i64 f,.int .i64 g,.int .i64 hh,.int .u64 s] 31)).alloc (.cells #[.int .i64 0,.int .i64 0,.int .i64 0,.int .i64 0,.int .i64 0,.int .i64 0,.int .i64 0,.int .i64 0] 169))
 obtain⟨b0,b1,F1⟩:=ai0 hw1;have HW:=hid hw1;have HF1:=hid F1;have HB1:=hid b1;clear hw1 b0 b1 F1;go_enter Tryz.func91,Tryz.ntmps91;go_wp2_with fail
 rw[HW.out];refine (HB.out _).mono ?_;rintro e w2 ⟨rfl,F2⟩;have b2:=F2.heap HB1.out id;have k0:=coh b2 0;have k1:=coh b2 1;have k2:=coh b2 2;have k3:=coh b2 3;have k4:=coh b2 4;have k5:=coh b2 5;have k6:=coh b2 6;have k7:=coh b2 7;have kz:∀ o,w2.frozen? ⟨w.heap.size+1,o,none⟩=false:=fun o=>foh b2 o
 simp at k0 k1 k2 k3 k4 k5 k6 k7;have HF2:=hid F2;clear F2 b2;go_wp2
 refine bodyPost_ret (v:=.tuple #[yE0,.int .i64 12]) sR rfl ⟨rfl,?_⟩;repeat (with_reducible refine Fr.an0 ?_ oM _)
 exact HF1.out.trans HF2.out nI
theorem nB0 {a b A B:Int}(h1:0<=a)(h2:a<=A)(h3:0<=b)(h4:b<=B):0<=a*b/\a*b<=A*B:=
 ⟨Int.mul_nonneg h1 h3,Int.mul_le_mul h2 h4 h3 oM⟩
def qq0 (b:Bool)(x:Lay)(w:World)(e:Ending)(w':World):Prop:=e = .returned (if b=true then .tuple #[x.val,.int .i64 0] else .tuple #[yE0,.int .i64 12])/\Fq w w'
theorem wW0 (a b c d f g hh s many:Int)(hb:96<=b/\b<=512)(ha:1<=a/\a<=16384)(hc:3<=c/\c<=64)(hd:1<=d/\d<=32)(hf:4<=f/\f<=256)(hg:0<=g/\g<=8)(hh8:8<=hh/\hh<=256)
  (hm:∀ w,(Op.shift BinOp.shl IntKind.i64 1 IntKind.i64 g).run Tryz.prog w = .ok (.int .i64 many) w) (hm2:1<=many/\many<=256) (hw:bv0 ⟨a,b,c,d,f,g,hh,s⟩=true)
  (x:Lay) (hx:x=⟨2+f,2+f+c*d,a-(2+f+c*d),(b-19)/12,(b-19-10)/20,1+(many+(b-19)/12-1)/((b-19)/12)+many,d*(b-19)⟩) (w:World) :
  Calls Tryz.prog 91 #[(bp0.mk a b c d f g hh s).val] w (qq0 (decide (many<=(b-19)/12*((b-19)/12)/\3*x.tree+4<=x.pages)) x w):=by
 have HB:=hid (fun W=>lM0 ⟨a,b,c,d,f,g,hh,s⟩ W);rw[hw] at HB;obtain⟨m0,m1⟩:=nB0 (show 0<=c by omega) hc.2 (show 0<=d by omega) hd.2;obtain⟨r0,r1⟩:=nB0 (show 0<=d by omega) hd.2 (show 0<=b-19 by omega) (show b-19<=493 by omega);have q0:6<=(b-19)/12:=oM
 have q1:(b-19)/12<=41:=oM
 obtain⟨p0,p1⟩:=nB0 (show 0<=(b-19)/12 by omega) q1 (show 0<=(b-19)/12 by omega) q1;have u0:0<=(many+(b-19)/12-1)/((b-19)/12):=Int.ediv_nonneg oM oM;have u1:(many+(b-19)/12-1)/((b-19)/12)<=300:=Int.le_trans (Int.ediv_le_self _ oM) oM;obtain⟨w1,hw1⟩:=eX ((w.alloc (.cells #[.int .i64 a,.int .i64 b,.int .i64 c,.int .i64 d,.int .i64 f,.int .i64 g,.int .i64 hh,.int .u64 s] 31)).alloc (.cells #[.int .i64 0,.int .i64 0,.int .i64 0,.int .i64 0,.int .i64 0,.int .i64 0,.int .i64 0,.int .i64 0] 169))
 obtain⟨b0,b1,F1⟩:=ai0 hw1;have HW:=hid hw1;have HF1:=hid F1;have HB01:=hi2 b0 b1;have HX:=hid hx;have hb1:=hb.1;have hb2:=hb.2;have ha1:=ha.1;have ha2:=ha.2;have hc1:=hc.1;have hc2:=hc.2;have hd1:=hd.1;have hd2:=hd.2;have hf1:=hf.1;have hf2:=hf.2;have hm21:=hm2.1;have hm22:=hm2.2;clear hw1 b0 b1 F1 hx hw hb ha hc hd hf hg hh8 hm2;go_enter Tryz.func91,Tryz.ntmps91;go_wp2_with fail
 rw[HW.out];refine (HB.out _).mono ?_;rintro e w2 ⟨rfl,F2⟩;have b2:=F2.heap HB01.out.2 id;have a2:=F2.heap HB01.out.1 id;have l2:=loh b2;have l3:w.heap.size<w2.heap.size:=oM
 have l4:¬ w2.heap.size=w.heap.size:=oM
 have l5:¬ w2.heap.size=w.heap.size+1:=oM
 have k0:=coh b2 0;have k1:=coh b2 1;have k2:=coh b2 2;have k3:=coh b2 3;have k4:=coh b2 4;have k5:=coh b2 5;have k6:=coh b2 6;have k7:=coh b2 7;have kz:∀ o,w2.frozen? ⟨w.heap.size+1,o,none⟩=false:=fun o=>foh b2 o
 have j0:=coh a2 0;have j1:=coh a2 1;have j2:=coh a2 2;have j3:=coh a2 3;have j4:=coh a2 4;have j5:=coh a2 5;simp at k0 k1 k2 k3 k4 k5 k6 k7 j0 j1 j2 j3 j4 j5;have HF2:=hid F2;clear F2 b2 a2;go_wp2_with fail
 refine (ki0 b hb1 hb2 _).mono ?_;rintro e w3 ⟨rfl,rfl⟩;have FF:=hid (HF1.out.trans HF2.out nI);by_cases h1:many<=(b-19)/12*((b-19)/12)
 ·by_cases h2:3*(1+(many+(b-19)/12-1)/((b-19)/12)+many)+4<=a-(2+f+c*d)
  ·have HE:=hi2 h1 h2;go_wp2
   refine bodyPost_ret (v:=.tuple #[.agg #[.int .i64 2,.int .i64 (2+f),.int .i64 (2+f+c*d),.int .i64 (a-(2+f+c*d)),.int .i64 ((b-19)/12),.int .i64 ((b-19-10)/20),.int .i64 (1+(many+(b-19)/12-1)/((b-19)/12)+many),.int .i64 (d*(b-19))],.int .i64 0]) sR rfl ⟨?_,?_⟩
   ·rw[HX.out,if_pos (decide_eq_true HE.out)]
   ·repeat (first|(with_reducible refine Fr.an0 ?_ oM _)|(with_reducible refine Fr.alloc ?_ _))
    exact FF.out
  ·have HE:=hid h2;have h2':a-(2+f+c*d)<3*(1+(many+(b-19)/12-1)/((b-19)/12)+many)+4:=by omega
   clear h2;go_wp2
   all_goals (try (exfalso;omega))
   all_goals
    refine bodyPost_ret (v:=.tuple #[yE0,.int .i64 12]) sR rfl ⟨?_,?_⟩
    ·rw[HX.out,if_neg (fun h=>Int.not_le.2 HE.out (of_decide_eq_true h).2)]
    ·repeat (first|(with_reducible refine Fr.an0 ?_ oM _)|(with_reducible refine Fr.alloc ?_ _))
     exact FF.out
 ·have HE:=hid h1;have h1':(b-19)/12*((b-19)/12)<many:=by omega
  clear h1;go_wp2
  all_goals (try (exfalso;omega))
  all_goals
   refine bodyPost_ret (v:=.tuple #[yE0,.int .i64 12]) sR rfl ⟨?_,?_⟩
   ·rw[HX.out,if_neg (fun h=>Int.not_le.2 HE.out (of_decide_eq_true h).1)]
   ·repeat (first|(with_reducible refine Fr.an0 ?_ oM _)|(with_reducible refine Fr.alloc ?_ _))
    exact FF.out
theorem BU0 (w:World):(Op.shift BinOp.shl IntKind.i64 1 IntKind.i64 0).run Tryz.prog w = .ok (.int .i64 1) w:=by kernel_rfl
theorem BT0 (w:World):(Op.shift BinOp.shl IntKind.i64 1 IntKind.i64 1).run Tryz.prog w = .ok (.int .i64 2) w:=by kernel_rfl
theorem BS0 (w:World):(Op.shift BinOp.shl IntKind.i64 1 IntKind.i64 2).run Tryz.prog w = .ok (.int .i64 4) w:=by kernel_rfl
theorem BR0 (w:World):(Op.shift BinOp.shl IntKind.i64 1 IntKind.i64 3).run Tryz.prog w = .ok (.int .i64 8) w:=by kernel_rfl
theorem BQ0 (w:World):(Op.shift BinOp.shl IntKind.i64 1 IntKind.i64 4).run Tryz.prog w = .ok (.int .i64 16) w:=by kernel_rfl
theorem BP0 (w:World):(Op.shift BinOp.shl IntKind.i64 1 IntKind.i64 5).run Tryz.prog w = .ok (.int .i64 32) w:=by kernel_rfl
theorem BO0 (w:World):(Op.shift BinOp.shl IntKind.i64 1 IntKind.i64 6).run Tryz.prog w = .ok (.int .i64 64) w:=by kernel_rfl
theorem BN0 (w:World):(Op.shift BinOp.shl IntKind.i64 1 IntKind.i64 7).run Tryz.prog w = .ok (.int .i64 128) w:=by kernel_rfl
theorem BM0 (w:World):(Op.shift BinOp.shl IntKind.i64 1 IntKind.i64 8).run Tryz.prog w = .ok (.int .i64 256) w:=by kernel_rfl
theorem qC0 (p:bp0)(w:World):Calls Tryz.prog 91 #[p.val] w (qq0 (cj0 p) (cd0 p) w):=by
 cases hw:bv0 p with
 | false =>
  have e:cj0 p=false:=by rw[cj0,hw];rfl
  rw[e];exact (wV0 p hw w).mono fun e w' ⟨h1,h2⟩=>⟨by rw[h1];rfl,h2⟩
 | true =>
  have e:cj0 p=decide ((2:Int)^p.depth.toNat<=(cd0 p).per*(cd0 p).per/\3*(cd0 p).tree+4<=(cd0 p).pages):=by rw[cj0,hw];rfl
  rw[e];have hb:=of_decide_eq_true hw;obtain⟨a,b,c,d,f,g,hh,s⟩:=p;simp only at hb;obtain⟨h1,h2,h3,h4,h5,h6,h7⟩:=hb;have hs:∃ many:Int,(∀ w,(Op.shift BinOp.shl IntKind.i64 1 IntKind.i64 g).run Tryz.prog w = .ok (.int .i64 many) w)/\(1<=many/\many<=256)/\(2:Int)^g.toNat=many:=by
   rcases (show g=0\/g=1\/g=2\/g=3\/g=4\/g=5\/g=6\/g=7\/g=8 by omega) with rfl|rfl|rfl|rfl|rfl|rfl|rfl|rfl|rfl
   ·exact⟨1,BU0,oM,rfl⟩
   ·exact⟨2,BT0,oM,rfl⟩
   ·exact⟨4,BS0,oM,rfl⟩
   ·exact⟨8,BR0,oM,rfl⟩
   ·exact⟨16,BQ0,oM,rfl⟩
   ·exact⟨32,BP0,oM,rfl⟩
   ·exact⟨64,BO0,oM,rfl⟩
   ·exact⟨128,BN0,oM,rfl⟩
   ·exact⟨256,BM0,oM,rfl⟩
  obtain⟨many,hm,hm2,he⟩:=hs;have:=wW0 a b c d f g hh s many h1 h2 h3 h4 h5 h6 h7 hm hm2 hw (cd0 ⟨a,b,c,d,f,g,hh,s⟩) (by simp only[cd0,he]) w;simp only[he];exact this
