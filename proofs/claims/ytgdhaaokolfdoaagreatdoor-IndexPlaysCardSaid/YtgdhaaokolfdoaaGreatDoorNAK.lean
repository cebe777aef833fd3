/- A pack of texts. Conditions: those that each names. -/
import Derived.Test.YtgdhaaokolfdoaaGreatDoorNAJ
import Derived.Test.YtgdhaaokolfdoaaGreatDoorNAH
set_option maxHeartbeats 16000000
set_option linter.all false
namespace Go.Proofs.YtgdhaaokolfdoaaGreatDoor
open Go.RowKit Go.Sg Go.Sg.Bits Go.Sg.Clk CP
namespace SF
end SF
theorem dh0.frB {w w':World}{B:Blk}{x:Sto}(h:dh0 w x)(F:FrB B w w'):dh0 w' x:=fun k q hq =>
 ⟨(h k q hq).1,(h k q hq).2.1,(h k q hq).2.2.elim fun bs ⟨hb,hl,hy⟩=>⟨bs,hb.frB F,hl,hy⟩⟩
theorem lk0 {w:World}{base d bf bq:Nat}{D:Dev}(h:bt0 w base d bf bq D)(hdown:D.down=false)(hlen:∀ y ∈ D.loose,y.2.length=D.size)(hmany:D.loose.length<=100000)(at_:Nat)(hat:at_<D.sectors)
  (place stamp:Nat) (load:List Int) (hz:D.sec at_=af0 D.size 2 place stamp load) (hby:∀ x ∈ load,0<=x/\x<256) (hp:place<=2147483647) (hs:stamp<9223372036854775808) (hl:load.length+19<=D.size) :
  Calls Tryz.prog 87 #[.pointer (some ⟨d,0,none⟩),.int .i64 at_,.int .i64 2,.int .i64 place] w fun e w'=>∃ la lc,e = .returned (.tuple #[.agg #[.int .i64 2,.int .i64 place,.int .i64 stamp,.slice la load.length lc],.int .i64 0])/\ByV w' la load.length lc load/\Fq w w':=
 ll0 h hdown hlen hmany at_ hat 2 place stamp load hz hby oM hp hs hl
def ws0 (B:Blk)(x:Sto)(p stamp:Nat)(st:Int)(load:List Int)(w:World)(e:Ending)(w':World):Prop:=
 ∃ err g D la lc,cc0 x.mem x.places p g/\lG0 w' x g D err/\ByV w' la load.length lc load/\ax0 w' B { x with mem:=ej0 x.mem p ⟨stamp,la,load.length,lc,false⟩ g,dev:=D }/\FrB B w w' /\
  (err≠0->e = .returned (.tuple #[.slice none 0 0,.int .i64 err]))/\(err=0->(stamp:Int)≠st->e = .returned (.tuple #[.slice none 0 0,.int .i64 5])) /\
  (err=0->(stamp:Int)=st->∃ a c,e = .returned (.tuple #[.slice a load.length c,.int .i64 0])/\ByV w' a load.length c load)
def yg0 (B:Blk)(x:Sto)(p:Nat)(st:Int)(w:World)(v v':Value)(W:World):Prop:=
 ∃ b,(v = .pointer (some ⟨b,0,none⟩)/\v' = .bool false)/\(w.heap.size<b/\W.heap[b]?=some (.cells #[.int .i64 0,.slice none 0 0,.bool false] 162))/\W.heap[w.heap.size]?=some (.cells #[.int .i64 p,.int .i64 st] 35)/\ax0 W B x/\FrB B w W
def yf0 (B:Blk)(x:Sto)(p:Nat)(st:Int)(b stamp:Nat)(load:List Int)(w:World)(v v':Value)(W:World):Prop:=
 ∃ b' la lc,(v = .pointer (some ⟨b',0,none⟩)/\v' = .int .i64 0)/\(W.heap[b']?=some (.cells #[.int .i64 2,.int .i64 p,.int .i64 stamp,.slice la load.length lc] 166)/\W.heap[b]?=some (.cells #[.int .i64 0,.slice none 0 0,.bool false] 162))/\W.heap[w.heap.size]?=some (.cells #[.int .i64 p,.int .i64 st] 35)/\ax0 W B x/\FrB B w W/\ByV W la load.length lc load
namespace SF
theorem uQ0 {w:World}{B:Blk}{x:Sto}(h:ax0 w B x)(hg:dh0 w x)(hu:wx0 x.dev)(p stamp:Nat)(st:Int)(load:List Int)(h1:(p:Int)<x.pages)(hq:x.mem p=none)
  (hlen:∀ y ∈ x.dev.loose,y.2.length=x.dev.size) (hz:x.dev.sec (x.first+p)=af0 x.dev.size 2 p stamp load) (hby:∀ b ∈ load,0<=b/\b<256) (hp:p<=2147483647) (hs:stamp<9223372036854775808) (hl:load.length+19<=x.dev.size) (hroom:load.length<=x.room) :
  Calls Tryz.prog 24 #[B.ptr,.agg #[.int .i64 p,.int .i64 st]] w (ws0 B x p stamp st load w):=by
 obtain⟨w1,hw1⟩:=eX (w.alloc (.cells #[.int .i64 p,.int .i64 st] 35))
 have F1:Fq w w1:=by rw[<- hw1];exact (Fr.refl _ _).alloc _
 have b1:w1.heap[w.heap.size]?=some (.cells #[.int .i64 p,.int .i64 st] 35):=by rw[<- hw1];exact han _ _
 obtain⟨at_,hat⟩:=iZ (show 0<=x.first+(p:Int) by have:=h.rg.2.2.1;omega);have hats:at_<x.dev.sectors:=by have:=h.rg.2.2.2.1;omega
 have hsec:=h.dev.rg.1.2;have hwr:IntKind.i64.wrap (x.first+(p:Int))=(at_:Int):=by rw[IntKind.wrap_i64];omega
 have HK:=hid (fun W (q:Pg) (S:ax0 W B x) (F:FrB B w W) (hb:∃ bs,ByV W q.la q.ll q.lc bs/\bs.length<=x.room)=>gp0 S (hg.frB F) hu p q hb);have HN:=hi2 hby hroom;have HLG:=hid (fun W (hS:ax0 W B x)=>lk0 hS.dev hu.down hlen hu.many at_ hats p stamp load (by have:=hz;rw[hat] at this;exact this) hby hp hs hl);have HI:=hid (rm0 (h.fr0 F1) p st oM h1);have H1:=hid (h.fr0 F1);have HQ:=hid hq;have HW:=hid hw1;have HB1:=hid b1;have HF1:=hid F1;have HWR:=hid hwr;clear hw1 F1 h hq b1 hz hlen hwr hat hby hroom hl hp hs hu hg;go_enter Tryz.func24,Tryz.ntmps24;go_wp2_with fail
 rw[HW.out];refine HI.out.mono ?_;rintro e w2 ⟨rfl,F2⟩;obtain⟨f0,f1,fz,fl⟩:=cells2 (F2.heap HB1.out id);have h2:=H1.out.fr0 F2;have g17:=h2.sc.c17;have ls:=h2.sc.lt;have nl:=h2.mem.lts;have HG:=hid (fun W (F:Fq w2 W)=>(ls0 (h2.mem.fr F id id id) p).mono
  (fun (e:Ending) W' ⟨he,hm,F'⟩=>(⟨by rw[he,HQ.out];rfl,hm,Fr.trans (S:=fun b=>b=B.bp) (S':=fun b=>b=B.bp) (F.mono nE) F' nI,F'⟩ :
   e=Ending.returned (.tuple #[.agg #[.int .i64 0,.slice none 0 0,.bool false],.bool false])/\bL0 W' B.bc B.bp B.bm x.places x.mem/\Fr (fun b=>b=B.bp) w2 W'/\Fr (fun b=>b=B.bp) W W')))
 have NX:=hid (show ¬ w2.heap.size=B.bp by omega);have NS:=hid (h2.ner (r:=.s) (r':=.bp) dC);have NW:=hid (show ¬ w.heap.size=B.bp by
  have:=H1.out.heaps .bp;have h3:=bY0 HB1.out;intro e;rw[e] at h3;have h4:=this.2.2.2;simp only[Blk.at_] at h4;rw[h4] at h3;simp[cE0.kind] at h3)
 have m1:¬ w2.heap.size=B.s:=oM
 have m2:¬ w2.heap.size=w.heap.size:=oM
 have H2:=hid h2;have HF2:=hid F2;clear h2 F2 nl;go_upto_region 4 with fail
 go_cut [7,8] from 18 to 27 (fun v v' wx=>yg0 B x p st w v v' wx)
 case first =>
  go_region_held3 (fun W=>W.cell? ⟨B.s,17,none⟩=some (.pointer (some ⟨B.bc,0,none⟩))/\W.cell? ⟨w.heap.size,0,none⟩=some (.int .i64 p)) (go_keep)
   ((go_at_call 86;refine (HG.out _ (by first|exact ((Fr.refl _ _).alloc _)|exact (Fr.refl _ _)|exact ((Fr.refl _ _).drew)|exact ((Fr.refl _ _).alloc _).drew|exact ((Fr.refl _ _).drew.alloc _))).mono ?_;rintro e w7 ⟨rfl,hm,F7,F8⟩;have e0:=fun (i:Nat) (hh:w2.heap.size<_)=>F8.cell (p:=⟨w2.heap.size,i,none⟩) hh NX.out;have ez:=fun (i:Nat) (hh:w2.heap.size<_)=>World.frozen?_of_block (a:=⟨w2.heap.size,i,none⟩) (F8.block w2.heap.size hh NX.out);have EB:=hid (fun (hh:w2.heap.size<_)=>F8.block w2.heap.size hh NX.out);have el:=F8.size;have el7:=F7.size;have m3:¬ w7.heap.size=B.s:=oM;have m4:¬ w7.heap.size=w.heap.size:=oM;have g17:=(F7.cell (p:=⟨B.s,17,none⟩) ls NS.out).trans g17;have f0:=(F7.cell (p:=⟨w.heap.size,0,none⟩) fl NW.out).trans f0;have f1:=(F7.cell (p:=⟨w.heap.size,1,none⟩) fl NW.out).trans f1;have HF7:=hid F7;have HM:=hid hm;clear F7 hm F8))
  all_goals
   have lw7:w.heap.size<w7.heap.size:=oM
   have FA:FrR B [.bp] w1 w7:=(HF2.out.mono nE).trans HF7.out (fun b _ h=>⟨.bp,by simp,h⟩);have hS7:ax0 w7 B x:=H1.out.yN0 FA HM.out;have hbx:=FrB.heap (B:=B) (H1.out.frB FA) HB1.out dC;have H7:=hi2 hS7 (aI (show FrB B w w7 from (FrB.none HF1.out).trans (H1.out.frB FA)) hbx);clear FA hS7 hbx m3 m4 m1 m2
  ·go_wp2_with fail
   go_meet
   case rel =>
    have FN:Fq w7 (w7.alloc (.cells #[.int .i64 0,.slice none 0 0,.bool false] 162)):=(Fr.refl _ _).alloc _;exact⟨w7.heap.size,⟨rfl,rfl⟩,⟨lw7,han _ _⟩,FN.heap H7.out.2.2 id,H7.out.1.fr0 FN,H7.out.2.1.trans (FrB.none FN)⟩
  ·go_wp2_with fail
   go_meet
   case rel =>
    have hz7:w7.heap[w2.heap.size]?=some (.cells #[.int .i64 0,.slice none 0 0,.bool false] 162):=(EB.out sP).trans (han _ _);obtain⟨W8,hW8⟩:=eX (((w7.setCell ⟨w2.heap.size,0,none⟩ (.int .i64 0)).setCell ⟨w2.heap.size,1,none⟩ (.slice none 0 0)).setCell ⟨w2.heap.size,2,none⟩ (.bool false))
    have FN:Fr (fun b=>b=w2.heap.size) w7 W8:=(by rw[<- hW8];exact Fr.qt0 (S:=fun b=>b=w2.heap.size) (b:=w2.heap.size) (Fr.refl _ _) rfl _ _ _);have hlw:w.heap.size<=w2.heap.size:=oM;have FF8:FrB B w W8:=by
     rw[<- hW8];exact ((H7.out.2.1.setCell (a:=⟨w2.heap.size,0,none⟩) (fun h=>absurd h sO) _).setCell (a:=⟨w2.heap.size,1,none⟩) (fun h=>absurd h sO) _).setCell (a:=⟨w2.heap.size,2,none⟩) (fun h=>absurd h sO) _
    have hz8:W8.heap[w2.heap.size]?=some (.cells #[.int .i64 0,.slice none 0 0,.bool false] 162):=by
     rw[<- hW8,hsc _ _ _ _ (hsc _ _ _ _ (hsc _ _ _ _ hz7))];rfl
    rw[hW8];exact⟨w2.heap.size,⟨rfl,rfl⟩,⟨fl,hz8⟩,FN.heap H7.out.2.2 oM,H7.out.1.frL FN hz7 dC,FF8⟩
 case rest =>
  obtain⟨bp,⟨rfl,rfl⟩,⟨hbp,hpx⟩,hrx,hSc,Fc⟩:=hcut;clear f0 f1 fz fl g17 HG NX NS NW m1 m2 HF2 H2 ls;obtain⟨p0,p1,pz,plt⟩:=cells2 hrx;have q0:=hSc.sc.c0;have q9:=hSc.sc.c9;have qls:=hSc.sc.lt;have hwr:=HWR.out;have n1:¬ wc.heap.size=B.s:=oM
  have n2:¬ wc.heap.size=w.heap.size:=oM
  have HC:=hid (fun W (F:Fq wc W)=>(HLG.out W (hSc.fr0 F)).mono (fun (e:Ending) W' ⟨la,lc,he,hb,F'⟩=>(⟨la,lc,he,hb,F.trans F' nI,F'⟩:∃ la lc,e=Ending.returned (.tuple #[.agg #[.int .i64 2,.int .i64 p,.int .i64 stamp,.slice la load.length lc],.int .i64 0])/\ByV W' la load.length lc load/\Fq wc W'/\Fq W W')));have H8:=hi2 hSc (aI Fc (aI hrx hpx));clear hSc Fc hrx hpx;go_upto_region 6 with fail
  go_cut [9,10] from 30 to 46 (fun v v' wx=>yf0 B x p st bp stamp load w v v' wx)
  case first =>
   go_region_held3 (fun W=>(W.cell? ⟨B.s,0,none⟩=some (.pointer (some ⟨B.d,0,none⟩))/\W.cell? ⟨B.s,9,none⟩=some (.int .i64 x.first))/\W.cell? ⟨w.heap.size,0,none⟩=some (.int .i64 p)) (go_keep)
    ((go_at_call 87;refine (HC.out _ (by first|exact ((Fr.refl _ _).alloc _)|exact (Fr.refl _ _)|exact ((Fr.refl _ _).drew)|exact ((Fr.refl _ _).alloc _).drew|exact ((Fr.refl _ _).drew.alloc _))).mono ?_;rintro e w9 ⟨la,lc,rfl,hb9,F9,F9'⟩;have e90:=fun (i:Nat) (hh:wc.heap.size<_)=>F9'.cell (p:=⟨wc.heap.size,i,none⟩) hh id;have e9z:=fun (i:Nat) (hh:wc.heap.size<_)=>World.frozen?_of_block (a:=⟨wc.heap.size,i,none⟩) (F9'.block wc.heap.size hh id);have EB9:=hid (fun (hh:wc.heap.size<_)=>F9'.block wc.heap.size hh id);have el9:=F9'.size;have el99:=F9.size;have p0:=(F9.cell (p:=⟨w.heap.size,0,none⟩) plt id).trans p0;have q0:=(F9.cell (p:=⟨B.s,0,none⟩) qls id).trans q0;have q9:=(F9.cell (p:=⟨B.s,9,none⟩) qls id).trans q9;have HF9:=hid F9;have HB9:=hid hb9;clear F9 F9' hb9))
   ·go_wp2_with fail
    go_meet
    case rel =>
     obtain⟨hSc,Fc,hrx,hpx⟩:=H8.out;have FN:Fq wc (w9.alloc (.cells #[.int .i64 2,.int .i64 p,.int .i64 stamp,.slice la load.length lc] 166)):=HF9.out.alloc _;exact⟨w9.heap.size,la,lc,⟨rfl,rfl⟩,⟨han _ _,FN.heap hpx id⟩,FN.heap hrx id,hSc.fr0 FN,Fc.trans (FrB.none FN),HB9.out.fr ((Fr.refl (fun _=>False) _).alloc _) (fun _ _ _ h=>h)⟩
   ·go_wp2_with fail
    go_meet
    case rel =>
     obtain⟨hSc,Fc,hrx,hpx⟩:=H8.out;have hz9:w9.heap[wc.heap.size]?=some (.cells #[.int .i64 0,.int .i64 0,.int .i64 0,.slice none 0 0] 166):=(EB9.out sP).trans (han _ _);obtain⟨W8,hW8⟩:=eX ((((w9.setCell ⟨wc.heap.size,0,none⟩ (.int .i64 2)).setCell ⟨wc.heap.size,1,none⟩ (.int .i64 p)).setCell ⟨wc.heap.size,2,none⟩ (.int .i64 stamp)).setCell ⟨wc.heap.size,3,none⟩ (.slice la load.length lc))
     have FN:Fr (fun b=>b=wc.heap.size) w9 W8:=by
      rw[<- hW8];exact ((((Fr.refl (fun b=>b=wc.heap.size) _).setCell (a:=⟨wc.heap.size,0,none⟩) (fun _=>rfl) _).setCell (a:=⟨wc.heap.size,1,none⟩) (fun _=>rfl) _).setCell (a:=⟨wc.heap.size,2,none⟩) (fun _=>rfl) _).setCell (a:=⟨wc.heap.size,3,none⟩) (fun _=>rfl) _
     have FC:Fq wc W8:=HF9.out.trans FN (fun b hb h=>oM);have hz8:W8.heap[wc.heap.size]?=some (.cells #[.int .i64 2,.int .i64 p,.int .i64 stamp,.slice la load.length lc] 166):=by
      rw[<- hW8,hsc _ _ _ _ (hsc _ _ _ _ (hsc _ _ _ _ (hsc _ _ _ _ hz9)))];rfl
     rw[hW8];exact⟨wc.heap.size,la,lc,⟨rfl,rfl⟩,⟨hz8,FC.heap hpx id⟩,FC.heap hrx id,hSc.fr0 FC,Fc.trans (FrB.none FC),HB9.out.frL FN hz9 dC⟩
  case rest =>
   obtain⟨bx,la,lc,⟨rfl,rfl⟩,⟨hxx,hpx⟩,hrx,hSc,Fc,hbv⟩:=hcut;clear p0 p1 pz plt q0 q9 qls hwr n1 n2 HC H8;obtain⟨r0,r1,rz,rl⟩:=cells2 hrx;obtain⟨x0,x1,x2,x3,xz,xl⟩:=cells4 hxx;obtain⟨y0,y1,y2,yz,yl⟩:=cells3 hpx;obtain⟨W3,hW3⟩:=eX (((wc.setCell ⟨bp,0,none⟩ (.int .i64 stamp)).setCell ⟨bp,1,none⟩ (.slice la load.length lc)).setCell ⟨bp,2,none⟩ (.bool false))
   have FN:Fr (fun b=>b=bp) wc W3:=by rw[<- hW3];exact Fr.qt0 (S:=fun b=>b=bp) (b:=bp) (Fr.refl _ _) rfl _ _ _
   have hz3:W3.heap[bp]?=some (.cells #[.int .i64 stamp,.slice la load.length lc,.bool false] 162):=by
    rw[<- hW3,hsc _ _ _ _ (hsc _ _ _ _ (hsc _ _ _ _ hpx))];rfl
   have hr3:=FN.heap hrx oM;have F3:FrB B w W3:=by
    rw[<- hW3];exact ((Fc.setCell (a:=⟨bp,0,none⟩) (fun h=>absurd h sO) _).setCell (a:=⟨bp,1,none⟩) (fun h=>absurd h sO) _).setCell (a:=⟨bp,2,none⟩) (fun h=>absurd h sO) _
   have hb3:=hbv.frL FN hpx dC;have hS3:=hSc.frL FN hpx dC;have HKC:=hid (HK.out W3 ⟨stamp,la,load.length,lc,false⟩ hS3 F3 ⟨load,hb3,HN.out.2⟩);obtain⟨s0,s1,s2,sz,sl⟩:=cells3 hz3;obtain⟨t0,t1,tz,tl⟩:=cells2 hr3;have H3:=hi2 hS3 (aI F3 (aI hb3 (aI hz3 hr3)));have HW3:=hid hW3;have nb1:¬ bx=bp:=by
    intro e;rw[e,hpx] at hxx;cases hxx
   clear FN hz3 hr3 F3 hb3 hS3 hW3 hSc Fc hbv hxx hpx hrx;go_wp2_with fail
   rw[HW3.out];refine HKC.out.mono ?_;rintro e w5 ⟨err,g,D,rfl,hgo,ho,hS5,F5⟩;obtain⟨hS3,F3,hb3,hz3,hr3⟩:=H3.out;have hz5:=F5.heap hz3 dC;have hr5:=F5.heap hr3 dC;have hb5:=hb3.frB F5;have F05:=F3.trans F5;have hrm:=hS3.rg.1;have hlr:=HN.out.2;have H5:=hi2 hgo (aI ho (aI hb5 (aI hS5 F05)));clear s0 s1 s2 sz sl t0 t1 tz tl r0 r1 rz rl x0 x1 x2 x3 xz xl y0 y1 y2 yz yl hgo ho hS5 F5 hS3 F3 hb3 hz3 hr3 F05 H3 HKC HK;obtain⟨s0,s1,s2,sz,sl⟩:=cells3 hz5;obtain⟨t0,t1,tz,tl⟩:=cells2 hr5;clear hz5 hr5;by_cases he:err=0
   ·subst he;by_cases hst:(stamp:Int)=st
    ·have hne:((stamp:Int) != st)=false:=(by simp[hst]);have HST:=hid hst;have HCL:=hid (fi0 hb5.slb oM);clear hst hb5;go_wp2_with fail
     refine HCL.out.mono ?_;rintro e w6 ⟨a',c',rfl,hb6,F6⟩;have H6:=hi2 hb6 F6;clear hb6 F6;go_wp2
     go_ret2;obtain⟨hgo,ho,hb5,hS5,F05⟩:=H5.out;obtain⟨hb6,F6⟩:=H6.out;exact⟨0,g,D,la,lc,hgo,nj0 ho (FrB.none (B:=B) F6),hb5.frB (FrB.none (B:=B) F6),hS5.fr0 F6,F05.trans (FrB.none F6),fun h=>absurd rfl h,fun _ h=>absurd HST.out h,fun _ _=>⟨a',c',rfl,hb6⟩⟩
    ·have hne:((stamp:Int) != st)=true:=(by simpa using hst);have HST:=hid hst;clear hst hb5;go_wp2
     go_ret2;obtain⟨hgo,ho,hb5,hS5,F05⟩:=H5.out;exact⟨0,g,D,la,lc,hgo,ho,hb5,hS5,F05,fun h=>absurd rfl h,fun _ _=>rfl,fun _ h=>absurd h HST.out⟩
   ·have hne:(err != 0)=true:=(by simpa using he);have HE:=hid he;clear he hb5;go_wp2
    go_ret2;obtain⟨hgo,ho,hb5,hS5,F05⟩:=H5.out;exact⟨err,g,D,la,lc,hgo,ho,hb5,hS5,F05,fun _=>rfl,fun h=>absurd h HE.out,fun h=>absurd h HE.out⟩
end SF
end Go.Proofs.YtgdhaaokolfdoaaGreatDoor
namespace Go.Sg
open Go.RowKit
variable {a:Bool}{bs:List Int}{at_:Int}{P:Int->Option (List Int)}{N:Nat}
theorem ByV.uniq {w:World}{a:Option Addr}{n c c':Nat}{bs':List Int}(h:ByV w a n c bs)(h':ByV w a n c' bs'):bs=bs':=by
 have l1:=h.len;have l2:=h'.len;refine ms9 fun i=>?_
 rcases lV9 i n with hi|hi
 ·have e1:bs[i]?=some bs[i]:=gE oM;have e2:bs'[i]?=some bs'[i]:=gE oM;obtain⟨b,off,ha,_,hc⟩:=h.by_.at_ i _ e1;obtain⟨b',off',ha',_,hc'⟩:=h'.by_.at_ i _ e2;rw[ha] at ha';cases ha';rw[hc] at hc';simp only[Option.some.injEq,Value.int.injEq,true_and] at hc';rw[e1,e2,hc']
 ·rw[mi9 oM,mi9 oM]
def Dev.wrote (D:Dev)(at_:Int)(bs:List Int):Dev:={ D.act with loose:=D.loose++[(at_,bs)] }
variable {D:Dev}
theorem Dev.oW0 (h:D.down=false)(h1:0<=at_/\at_<D.sectors)(h2:bs.length=D.size) :
  D.write at_ bs=(D.wrote at_ bs,if D.act.down then 4 else 0):=by
 rw[Dev.write,h];simp only[lI9,if_false];rw[if_neg (show ¬ (at_<0\/(D.sectors:Int)<=at_) by omega),if_neg (show ¬ bs.length≠D.size by omega)];rfl
theorem Dev.fp0 (D:Dev)(at_:Int)(bs:List Int)(k:Int):(D.wrote at_ bs).sec k=if k=at_ then bs else D.sec k:=by
 simp only[Dev.sec,Dev.wrote,Dev.act,List.reverse_append,List.reverse_cons,List.reverse_nil,le9,mz9,ma9];by_cases h:k=at_
 ·subst h;simp
 ·have:¬ at_=k:=fun e=>h e.symm
  simp[h,this]
structure cx0 (D:Dev)(P:Int->Option (List Int))(a:Bool)(N:Nat):Prop where
 acts:D.acts<=N
 many:D.loose.length<=N
 len:∀ y ∈ D.loose,y.2.length=D.size
 prot:∀ k bs,P k=some bs->D.fast k=some bs/\∀ y ∈ D.loose,y.1≠k
 armed:D.armed<=9223372036854775807
 calm:a=false->D.armed=0
 byt:(∀ y ∈ D.loose,∀ x ∈ y.2,0<=x/\x<256)/\∀ k bs,D.fast k=some bs->∀ x ∈ bs,0<=x/\x<256
theorem cx0.mono {N':Nat}(h:cx0 D P a N)(hN:N<=N'):cx0 D P a N':=
 ⟨nT h.acts hN,nT h.many hN,h.len,h.prot,h.armed,h.calm,h.byt⟩
theorem cx0.wrote (h:cx0 D P a N)(hl:bs.length=D.size)(hp:P at_=none)(hbt:∀ x ∈ bs,0<=x/\x<256):cx0 (D.wrote at_ bs) P a (N+1):=by
 refine⟨nu9 h.acts,?_,?_,?_,?_,?_,⟨fun y hy=>?_,h.byt.2⟩⟩
 ·simp[Dev.wrote];exact h.many
 ·intro y hy;rcases lb9.1 hy with hy|hy
  ·exact h.len y hy
  ·simp at hy;subst hy;exact hl
 ·intro k cs hk;refine⟨(h.prot k cs hk).1,fun y hy=>?_⟩;rcases lb9.1 hy with hy|hy
  ·exact (h.prot k cs hk).2 y hy
  ·simp at hy;subst hy;rintro rfl;rw[hp] at hk;cases hk
 ·show D.armed-1<=_;have:=h.armed;omega
 ·intro ha;show D.armed-1=0;rw[h.calm ha]
 ·rcases lb9.1 hy with hy|hy
  ·exact h.byt.1 y hy
  ·simp at hy;subst hy;exact hbt
theorem Dev.mq0 (h:D.down=false)(ha:D.armed=0):D.act.down=false:=by
 rw[Dev.act];simp[ha,h]
abbrev Cont:=Int->Option (Nat × List Int)
def fE0 (c:Cont)(k:Int)(v:Option (Nat × List Int)):Cont:=fun j=>if j=k then v else c j
def jZ0 (pages room:Nat)(k:Int)(st:Nat)(bs:List Int):Prop:=(0<=k/\k<pages)/\st<9223372036854775808/\bs.length<=room/\∀ b ∈ bs,0<=b/\b<256
end Go.Sg
namespace Go.Proofs.YtgdhaaokolfdoaaGreatDoor
open Go.RowKit Go.Sg Go.Sg.Bits Go.Sg.Clk CP SF
structure Holds (w:World)(x:Sto)(c:Cont)(P:Int->Option (List Int)):Prop where
 ok:∀ k st bs,c k=some (st,bs)->jZ0 x.pages x.room k st bs
 mem:∀ k q,x.mem k=some q->∃ st bs,c k=some (st,bs)/\q.stamp=st/\ByV w q.la q.ll q.lc bs/\(q.dirty=true->P (x.first+k)=none)/\(q.dirty=false->x.dev.sec (x.first+k)=af0 x.dev.size 2 k.toNat st bs)
 dev:∀ k st bs,c k=some (st,bs)->x.mem k=none->x.dev.sec (x.first+k)=af0 x.dev.size 2 k.toNat st bs
variable {w w':World}{B:Blk}{x:Sto}{c:Cont}{a:Bool}{N k:Nat}{t:TypeId}{err n:Int}
theorem Holds.frB {P:Int->Option (List Int)}(h:Holds w x c P)(F:FrB B w w'):Holds w' x c P:=
 ⟨h.ok,fun k q hq=>by obtain⟨st,bs,h1,h2,h3,h4⟩:=h.mem k q hq;exact⟨st,bs,h1,h2,h3.frB F,h4⟩,h.dev⟩
theorem Holds.good {P:Int->Option (List Int)}(h:Holds w x c P):dh0 w x:=fun k q hq=>by
 obtain⟨st,bs,h1,h2,h3,_⟩:=h.mem k q hq;obtain⟨g1,g2,g3,g4⟩:=h.ok k st bs h1;exact⟨g1,by rw[h2];omega,bs,h3,g3,g4⟩
structure Cs where
 plan:bp0
 first:Int
 pages:Nat
 room:Nat
 gen:Nat
 hand:Nat
 taken:Nat->Bool
 fresh:Int->Bool
 dying:Int->Bool
 dead:Int->Bool
 places:Nat
 sectors:Nat
 size:Nat
 cont:Cont
abbrev aQ0:=Int->Option (List Int)
structure aC0 where
 f:aQ0
 ro:Bool
instance:CoeFun aC0 fun _=>aQ0:=⟨aC0.f⟩
instance:Coe aC0 aQ0:=⟨aC0.f⟩
instance:Coe aQ0 aC0:=⟨fun f=>⟨f,false⟩⟩
abbrev _root_.Go.Sg.Sto.cs (x:Sto)(c:Cont):Cs:=⟨x.plan,x.first,x.pages,x.room,x.gen,x.hand,x.taken,x.fresh,x.dying,x.dead,x.places,x.dev.sectors,x.dev.size,c⟩
structure Apart (taken:Nat->Bool)(fresh dying dead:Int->Bool):Prop where
 ft:∀ k:Nat,fresh k=true->taken k=true
 yt:∀ k:Nat,dying k=true->taken k=true
 et:∀ k:Nat,dead k=true->taken k=true
 fy:∀ k,fresh k=true->dying k=false/\dead k=false
 ye:∀ k,dying k=true->dead k=false
structure Is (w:World)(x:Sto)(c:Cont)(P:aC0)(a:Bool)(N:Nat):Prop where
 down:x.dev.down=false
 dev:cx0 x.dev P a N
 holds:Holds w x c P
 ptk:P.ro=false->∀ k:Nat,k<x.pages->P (x.first+k)≠none->x.taken k=true/\x.fresh k=false
 apart:Apart x.taken x.fresh x.dying x.dead
 few:N<=90000
structure aw0 (w:World)(B:Blk)(y:Cs)(P:aC0)(a:Bool)(N:Nat):Prop where
 ex:∃ x c,ax0 w B x/\y=x.cs c/\Is w x c P a N
 tab:Tab w
 base:0<B.base
structure aP0 (w:World)(B:Blk)(y:Cs)(P:aC0)(N:Nat):Prop where
 ex:∃ D,bt0 w B.base B.d B.bf B.bq D/\cx0 D P true N/\D.down=true/\D.sectors=y.sectors/\D.size=y.size
def zW0 (w:World)(B:Blk)(y y':Cs)(P:aC0)(a:Bool)(N:Nat)(err:Int):Prop:=
 (err=0/\aw0 w B y' P a N)\/(err=4/\a=true/\aP0 w B y P N)
variable {P:aC0}{y:Cs}
theorem aw0.mono {N':Nat}(h:aw0 w B y P a N)(hN:N<=N')(h9:N'<=90000):aw0 w B y P a N':=by
 obtain⟨⟨x,c,hS,hy,hi⟩,ht,hb⟩:=h;exact⟨⟨x,c,hS,hy,{ hi with dev:=hi.dev.mono hN,few:=h9 }⟩,ht,hb⟩
theorem aw0.fr0 (h:aw0 w B y P a N)(F:Fq w w'):aw0 w' B y P a N:=by
 obtain⟨⟨x,c,hS,hy,hi⟩,ht,hb⟩:=h;exact⟨⟨x,c,hS.fr0 F,hy,{ hi with holds:=hi.holds.frB (B:=B) (FrB.none F) }⟩,ht.fr F id,hb⟩
theorem Holds.frL (h:Holds w x c P)(F:Fr (fun b=>b=k) w w'){cs:Array Value}(hk:w.heap[k]?=some (.cells cs t))(ht:t≠5):Holds w' x c P:=
 ⟨h.ok,fun k q hq=>by obtain⟨st,bs,h1,h2,h3,h4⟩:=h.mem k q hq;exact⟨st,bs,h1,h2,h3.frL F hk ht,h4⟩,h.dev⟩
theorem aw0.frL (h:aw0 w B y P a N)(F:Fr (fun b=>b=k) w w'){c:Array Value}(hk:w.heap[k]?=some (.cells c t))(ht:t ∉ 5 :: em0)(h0:0<k):aw0 w' B y P a N:=by
 obtain⟨⟨x,c,hS,hy,hi⟩,hT,hb⟩:=h;exact⟨⟨x,c,hS.frL F hk ht,hy,{ hi with holds:=hi.holds.frL F hk (fun e=>ht (by simp[e])) }⟩,hT.fr F (fun e=>oM),hb⟩
theorem aw0.bs0 (h:aw0 w B y P a N):B.base<=w.heap.size:=by
 obtain⟨⟨x,c,hS,hy,hi⟩,hT,hb⟩:=h;have:=(hS.heaps .s);omega
def Cs.new (y:Cs)(n:Nat)(bs:List Int):Cs:=
 { y with taken:=upd y.taken n true,hand:=(n+1) % y.pages,fresh:=ed0 y.fresh n true,cont:=fE0 y.cont n (some (y.gen,bs)) }
variable {D:Dev}
theorem _root_.Go.Sg.cx0.up (h:cx0 D P a N)(hd:D.down=false)(hN:N<=90000):wx0 D:=
 ⟨hd,nT h.acts oM,h.armed,nT h.many oM⟩
variable {g:Option (Int × Pg)}
theorem xs0
  (hh:Holds w x c P) (hd:cx0 x.dev P a N) (hdn:x.dev.down=false) (hg:cc0 x.mem x.places n g) (ho:lG0 w' x g D err) (F:FrB B w w') (hrg:x.room+19=x.dev.size/\x.first+x.pages=x.dev.sectors/\0<=x.first) :
  (cx0 D P a (N+1)/\D.sectors=x.dev.sectors/\D.size=x.dev.size)/\(∀ j,(∀ k q,g=some (k,q)->j≠k)->D.sec (x.first+j)=x.dev.sec (x.first+j)) /\
  (∀ k q,g=some (k,q)->∃ st bs,c k=some (st,bs)/\D.sec (x.first+k)=af0 x.dev.size 2 k.toNat st bs)/\((err=0/\D.down=false)\/(err=4/\a=true/\D.down=true)):=by
 cases g with
 | none =>
  obtain⟨rfl,rfl⟩:=(show D=x.dev/\err=0 from ho);exact⟨⟨hd.mono (Nat.le_succ _),rfl,rfl⟩,fun _ _=>rfl,fun k q e=>(by cases e),.inl ⟨rfl,hdn⟩⟩
 | some g =>
  obtain⟨k,q⟩:=g;obtain⟨st,bs,hc,hst,hb,hdi,hcl⟩:=hh.mem k q hg.2.1;obtain⟨g1,g2,g3,g4⟩:=hh.ok k st bs hc;unfold lG0 at ho;simp only at ho;by_cases hq:q.dirty=true
  ·rw[if_pos hq] at ho;obtain⟨bs',hb',hw⟩:=ho;obtain rfl:=hb'.uniq (hb.frB F);have hstn:q.stamp.toNat=st:=by rw[hst];simp
   have hbl:(af0 x.dev.size 2 k.toNat st bs').length=x.dev.size:=cu0 oM;rw[hstn,Dev.oW0 hdn oM hbl] at hw;obtain⟨rfl,rfl⟩:=Prod.mk.inj hw;refine⟨⟨hd.wrote hbl (hdi hq) (ey0 g4),rfl,rfl⟩,fun j hj=>?_,fun k' q' e=>?_,?_⟩
   ·rw[Dev.fp0,if_neg];have:=hj k q rfl;omega
   ·cases e;exact⟨st,bs',hc,by rw[Dev.fp0,if_pos rfl]⟩
   ·by_cases hdo:x.dev.act.down=true
    ·refine .inr ⟨by rw[if_pos hdo],?_,hdo⟩;cases a with
     | true=>rfl
     | false=>rw[Dev.mq0 hdn (hd.calm rfl)] at hdo;cases hdo
    ·refine .inl ⟨by rw[if_neg hdo],(by simpa using hdo:x.dev.act.down=false)⟩
  ·rw[if_neg hq] at ho;obtain⟨rfl,rfl⟩:=ho;exact⟨⟨hd.mono (Nat.le_succ _),rfl,rfl⟩,fun _ _=>rfl,fun k' q' e=>by cases e;exact⟨st,bs,hc,hcl (by simpa using hq)⟩,.inl ⟨rfl,hdn⟩⟩
theorem goes {p:Pg}
  (hh:Holds w x c P) (hd:cx0 x.dev P a N) (hdn:x.dev.down=false) (hg:cc0 x.mem x.places n g) (ho:lG0 w' x g D err) (F:FrB B w w')
  {st:Nat} {bs:List Int} (hp:p.stamp=st/\ByV w' p.la p.ll p.lc bs) (hok:jZ0 x.pages x.room n st bs) (hrg:x.room+19=x.dev.size/\x.first+x.pages=x.dev.sectors/\0<=x.first)
  (hdirty:p.dirty=true->P (x.first+n)=none) (hclean:p.dirty=false->x.dev.sec (x.first+n)=af0 x.dev.size 2 n.toNat st bs) :
  (cx0 D P a (N+1)/\D.sectors=x.dev.sectors/\D.size=x.dev.size)/\((err=0/\D.down=false)\/(err=4/\a=true/\D.down=true)) /\
  ∀ x':Sto,x'.mem=ej0 x.mem n p g->x'.dev=D->x'.first=x.first->x'.pages=x.pages->x'.room=x.room->Holds w' x' (fE0 c n (some (st,bs))) P:=by
 obtain⟨h1,h2,h3,h4⟩:=xs0 hh hd hdn hg ho F hrg;refine⟨h1,h4,fun x' e1 e2 e3 e4 e5=>⟨fun k s b hk=>?_,fun k q hq=>?_,fun k s b hk hm=>?_⟩⟩
 ·rw[e4,e5];by_cases hkn:k=n
  ·subst hkn;simp[fE0] at hk;obtain⟨rfl,rfl⟩:=hk;exact hok
  ·simp[fE0,hkn] at hk;exact hh.ok k s b hk
 ·rw[e1] at hq;rw[e2,e3,h1.2.2];by_cases hkn:k=n
  ·subst hkn;simp[ej0] at hq;subst hq;refine⟨st,bs,by simp[fE0],hp.1,hp.2,hdirty,fun hc=>?_⟩;rw[h2 k (fun k' q' e=>by subst e;exact fun e'=>hg.1 e'.symm)];exact hclean hc
  ·simp only[ej0,if_neg hkn] at hq;split at hq
   ·cases hq
   ·rename_i hgk;obtain⟨s0,b0,a1,a2,a3,a4,a5⟩:=hh.mem k q hq;refine⟨s0,b0,by simp[fE0,hkn,a1],a2,a3.frB F,a4,fun hc=>?_⟩;rw[h2 k (fun k' q' e=>by subst e;rintro rfl;exact hgk rfl)];exact a5 hc
 ·rw[e1] at hm;rw[e2,e3,h1.2.2];have hkn:k≠n:=by
   rintro rfl;simp[ej0] at hm
  simp only[fE0,if_neg hkn] at hk;simp only[ej0,if_neg hkn] at hm;split at hm
  ·rename_i hgk;cases g with
   | none=>cases hgk
   | some g =>
    obtain⟨k',q'⟩:=g;simp at hgk;subst hgk;obtain⟨s0,b0,a1,a2⟩:=h3 k' q' rfl;rw[hk] at a1;cases a1;exact a2
  ·rename_i hgk;rw[h2 k (fun k' q' e=>by subst e;rintro rfl;exact hgk rfl)];exact hh.dev k s b hk hm
