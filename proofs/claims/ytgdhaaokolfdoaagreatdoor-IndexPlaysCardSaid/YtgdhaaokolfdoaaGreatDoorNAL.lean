/- A pack of texts. Conditions: those that each names. -/
import Derived.Test.YtgdhaaokolfdoaaGreatDoorNAK
set_option maxHeartbeats 16000000
set_option maxRecDepth 100000
set_option linter.all false
namespace Go.Proofs.YtgdhaaokolfdoaaGreatDoor
section
open Go.RowKit Go.Sg Go.Sg.Bits Go.Sg.Clk CP
namespace SF
theorem ra0 {w:World}{B:Blk}{x:Sto}(h:ax0 w B x)(n:Nat)(st:Int)(hp:n<x.pages)(ht:x.taken n=false) :
  Calls Tryz.prog 28 #[B.ptr,.agg #[.int .i64 n,.int .i64 st]] w fun e w'=>e = .returned (.int .i64 0)/\ax0 w' B { x with taken:=upd x.taken n true }/\FrB B w w':=by
 obtain⟨w1,hw1⟩:=eX (w.alloc (.cells #[.int .i64 n,.int .i64 st] 35))
 have F1:Fq w w1:=by rw[<- hw1];exact (Fr.refl _ _).alloc _
 have b1:w1.heap[w.heap.size]?=some (.cells #[.int .i64 n,.int .i64 st] 35):=by rw[<- hw1];exact han _ _
 obtain⟨d0,d1,dz,dl⟩:=cells2 b1;have HI:=hid (rm0 (h.fr0 F1) n st oM oM);have H1:=hid (h.fr0 F1);have HT:=hid ht;have HW:=hid hw1;have HB1:=hid b1;have HF1:=hid F1;clear hw1 b1 F1 h ht;go_enter Tryz.func28,Tryz.ntmps28;go_wp2_with fail
 rw[HW.out];refine HI.out.mono ?_;rintro e w2 ⟨rfl,F2⟩;obtain⟨f0,f1,fz,fl⟩:=cells2 (F2.heap HB1.out id);have h2:=H1.out.fr0 F2;have g13:=h2.sc.c13;have NS:=hid (h2.ner (r:=.s) (r':=.bw) dC);have HH:=hid (fun W (F:Fq w2 W)=>(ku0 (h2.bits.fr F id id) n hp HT.out).mono (fun (e:Ending) W' ⟨he,hb,F'⟩=>(⟨he,hb,Fr.trans (S:=fun b=>b=B.bw) (S':=fun b=>b=B.bw) (F.mono nE) F' nI⟩ :
   e=Ending.returned (.bool true)/\bu0 W' B.bs B.bw x.pages x.hand (upd x.taken n true)/\Fr (fun b=>b=B.bw) w2 W')))
 have NW:=hid (show ¬ w.heap.size=B.bw by
  have:=H1.out.heaps .bw;have h3:=bY0 HB1.out;intro e;rw[e] at h3;have h4:=this.2.2.2;simp only[Blk.at_] at h4;rw[h4] at h3;simp[cE0.kind] at h3)
 have ls:=h2.sc.lt;have HF2:=hid F2;have H2:=hid h2;clear F2 h2;go_wp2
 go_region_held3 (fun W=>W.cell? ⟨B.s,13,none⟩=some (.pointer (some ⟨B.bs,0,none⟩))/\W.cell? ⟨w.heap.size,0,none⟩=some (.int .i64 n)) (go_keep)
  ((go_at_call 90;refine (HH.out _ (by first|exact (Fr.refl _ _)|exact ((Fr.refl _ _).drew))).mono ?_;rintro e w3 ⟨rfl,hb3,F3⟩;have g13:=(F3.cell (p:=⟨B.s,13,none⟩) ls NS.out).trans g13;have f0:=(F3.cell (p:=⟨w.heap.size,0,none⟩) fl NW.out).trans f0;have H3:=hi2 hb3 F3;clear hb3 F3))
 go_wp2
 go_ret;obtain⟨hb3,F3⟩:=H3.out;have FR:FrR B [.bw] w2 w3:=F3.mono (fun b _ h=>⟨.bw,by simp,h⟩);have S:=H2.out.stays FR;refine⟨rfl,⟨S.s dC,S.dev dC dC dC,hb3,S.fr dC,S.dy dC,S.de dC,S.mem dC dC dC,S.load,H2.out.ne,H2.out.ge,H2.out.rg,H2.out.inr⟩,?_⟩;exact (FrB.none (HF1.out.trans HF2.out nI)).trans (H2.out.frB FR)
end SF
end
section
open Go.RowKit Go.Sg Go.Sg.Bits Go.Sg.Clk CP SF
variable {w:World}{a:Bool}{N n:Nat}{bs:List Int}
theorem _root_.Go.Sg.ByV.inp {a:Option Addr}{c:Nat}(h:ByV w a n c bs)(B:Blk):Inp w B a n c bs:=by
 refine⟨h.slb,fun b off e=>?_⟩;rcases h.at_ with⟨h0,_⟩|⟨b',off',cs,h1,h2⟩
 ·rw[h0] at e;cases e
 ·rw[h1] at e;cases e;exact .inr (.inr (bY0 h2))
variable {B:Blk}
theorem lt0 {x:Sto}(h:ax0 w B x):x.gen<9223372036854775808:=by have:=h.rg.2.1;omega
theorem Apart.new {t:Nat->Bool}{f y d:Int->Bool}(h:Apart t f y d)(hn:t n=false):Apart (upd t n true) (ed0 f n true) y d:=by
 have hy:y n=false:=by
  cases e:y n with
  | false=>rfl
  | true=>rw[h.yt n e] at hn;cases hn
 have hd:d n=false:=by
  cases e:d n with
  | false=>rfl
  | true=>rw[h.et n e] at hn;cases hn
 refine⟨fun k hk=>?_,fun k hk=>?_,fun k hk=>?_,fun k hk=>?_,h.ye⟩
 ·simp only[ed0] at hk;simp only[upd];split
  ·rfl
  ·rename_i e;rw[if_neg oM] at hk;exact h.ft k hk
 ·simp only[upd];split
  ·rfl
  ·exact h.yt k hk
 ·simp only[upd];split
  ·rfl
  ·exact h.et k hk
 ·simp only[ed0] at hk;split at hk
  ·rename_i e;subst e;exact⟨hy,hd⟩
  ·exact h.fy k hk
def Bq0 (B:Blk)(y:Cs)(P:aC0)(a:Bool)(N:Nat)(bs:List Int)(w:World)(e:Ending)(w':World):Prop:=
 ∃ n err,br0 y.taken y.pages y.hand n/\e = .returned (.tuple #[vF0 err n y.gen,.int .i64 err])/\zW0 w' B y (y.new n bs) P a (N+1) err/\FrB B w w'
theorem rV0 {w w':World}{B:Blk}{x:Sto}{c:Cont}{P:aQ0}{a:Bool}{N:Nat}(hS:ax0 w B x)(hi:Is w x c P a N)(hT:Tab w)(hb:0<B.base){la:Option Addr}{ll lc:Nat}{bs:List Int}(hl:bs.length<=x.room)(hby:∀ b ∈ bs,0<=b/\b<256)(hN:N+1<=90000)
  {e:Ending} {n:Nat} {err:Int} {g:Option (Int × Pg)} {D:Dev} {p:Pg} (hn:br0 x.taken x.pages x.hand n) (hg:cc0 x.mem x.places n g) (ho:lG0 w' x g D err) (hS':ax0 w' B { tk x n with mem:=ej0 x.mem n p g,dev:=D })
  (hp:p.stamp=x.gen/\p.dirty=true/\ByV w' p.la p.ll p.lc bs) (F:FrB B w w') :
  ((err=0/\Is w' { tk x n with mem:=ej0 x.mem n p g,dev:=D } (fE0 c n (some (x.gen,bs))) P a (N+1))\/(err=4/\a=true/\D.down=true))/\(cx0 D P a (N+1)/\D.sectors=x.dev.sectors/\D.size=x.dev.size):=by
 have hrg:=hS.rg;have hgen:=lt0 hS;have hpn:P (x.first+n)=none:=by
  cases hP:P (x.first+n) with
  | none=>rfl
  | some v =>
   have:=(hi.ptk rfl n hn.1 (show P _≠_ by rw[hP];simp)).1;rw[hn.2.1] at this;cases this
 obtain⟨h1,h2,h3⟩:=goes hi.holds hi.dev hi.down hg ho F ⟨hp.1,hp.2.2⟩ (n:=n) (st:=x.gen) ⟨by have:=hn.1;omega,hgen,hl,hby⟩ ⟨hrg.2.2.2.2,hrg.2.2.2.1,hrg.2.2.1⟩ (fun _=>hpn) (fun hc=>by rw[hp.2.1] at hc;cases hc);refine⟨?_,h1⟩;rcases h2 with⟨rfl,hD⟩|⟨rfl,ha,hD⟩
 ·refine .inl ⟨rfl,hD,h1.1,h3 _ rfl rfl rfl rfl rfl,fun _ k hk hP=>?_,hi.apart.new hn.2.1,hN⟩;obtain⟨a1,a2⟩:=hi.ptk rfl k hk hP;have hkn:k≠n:=by rintro rfl;rw[hn.2.1] at a1;cases a1
  exact⟨by show upd x.taken n true k=true;simp[upd,hkn,a1],by show ed0 x.fresh n true k=false;simp only[ed0];rw[if_neg oM];exact a2⟩
 ·exact .inr ⟨rfl,ha,hD⟩
variable {y:Cs}
theorem new_c {P:aQ0}(h:aw0 w B y P a N){la:Option Addr}{ll lc:Nat}(hin:Inp w B la ll lc bs)(hby:∀ b ∈ bs,0<=b/\b<256)(hl:ll<=y.room){j:Nat}(hj:j<y.pages)(hfree:y.taken j=false)(hN:N+1<=90000) :
  Calls Tryz.prog 22 #[B.ptr,.slice la ll lc] w (Bq0 B y P a N bs w):=by
 obtain⟨⟨x,c,hS,rfl,hi⟩,hT,hb⟩:=h;have hlen:=hin.1.by_.len;refine (SF.oy0 hS hT hb hin hl hj hfree fun W p n hn hS' hF hp=>gp0 hS' ((hi.holds.frB hF).good:dh0 W x) (hi.dev.up hi.down hi.few) n p hp).mono ?_;rintro e w' ⟨n,err,g,D,p,hn,he,hg,ho,hS',hp,F⟩;obtain⟨h1,h2⟩:=rV0 hS hi hT hb (la:=la) (ll:=ll) (lc:=lc) (e:=e) (by rw[hlen];exact hl) hby hN hn hg ho hS' hp F;refine⟨n,err,hn,he,?_,F⟩;rcases h1 with⟨rfl,h1⟩|⟨rfl,ha,hD⟩
 ·refine .inl ⟨rfl,⟨_,_,hS',?_,h1⟩,hT.fr F (fun h=>oM),hb⟩;show Cs.new (x.cs c) n bs=_;simp[Cs.new,Sto.cs,tk,h2.2.1,h2.2.2]
 ·subst ha;exact .inr ⟨rfl,rfl,⟨D,hS'.dev,h2.1,hD,h2.2.1,h2.2.2⟩⟩
def Av0 (B:Blk)(y:Cs)(P:aC0)(a:Bool)(N:Nat)(stamp:Nat)(st:Int)(load:List Int)(w:World)(e:Ending)(w':World):Prop:=
 ∃ err,zW0 w' B y y P a (N+1) err/\FrB B w w'/\(err≠0->e = .returned (.tuple #[.slice none 0 0,.int .i64 err]))/\(err=0->(stamp:Int)≠st->e = .returned (.tuple #[.slice none 0 0,.int .i64 5])) /\
  (err=0->(stamp:Int)=st->∃ la lc,e = .returned (.tuple #[.slice la load.length lc,.int .i64 0])/\ByV w' la load.length lc load)
theorem zp0 {P:aC0}(h:aw0 w B y P a N)(p:Nat)(st:Int){stamp:Nat}{load:List Int}(hc:y.cont p=some (stamp,load))(hN:N+1<=90000) :
  Calls Tryz.prog 24 #[B.ptr,.agg #[.int .i64 p,.int .i64 st]] w (Av0 B y P a N stamp st load w):=by
 obtain⟨⟨x,c,hS,rfl,hi⟩,hT,hb⟩:=h;obtain⟨g1,g2,g3,g4⟩:=hi.holds.ok p stamp load hc;have hrg:=hS.rg;have hsec:=hS.dev.rg.1.2;cases hm:x.mem p with
 | some q =>
  obtain⟨s0,b0,a1,a2,a3,_⟩:=hi.holds.mem p q hm;have hc':c p=some (stamp,load):=hc;rw[hc'] at a1;cases a1;refine (uP0 hS p st g1.1 g1.2 hm a3).mono ?_;rintro e w' ⟨he,hS',F⟩;refine⟨0,.inl ⟨rfl,⟨x,c,hS',rfl,{ hi with dev:=hi.dev.mono (Nat.le_succ _),holds:=hi.holds.frB F,few:=hN }⟩,hT.fr F (fun h=>oM),hb⟩,F,fun h=>absurd rfl h,fun _ hne=>?_,fun _ heq=>?_⟩
  ·rw[if_neg (by rw[a2];exact hne)] at he;exact he
  ·rw[if_pos (by rw[a2];exact heq)] at he;exact he
 | none =>
  refine (uQ0 hS hi.holds.good (hi.dev.up hi.down hi.few) p stamp st load g1.2 hm hi.dev.len (by have:=hi.holds.dev p stamp load hc hm;simpa using this) g4 oM g2 oM g3).mono ?_;rintro e w' ⟨err,g,D,la,lc,hg,ho,hbv,hS',F,e1,e2,e3⟩;obtain⟨h1,h2,h3⟩:=goes hi.holds hi.dev hi.down hg ho F (p:=⟨stamp,la,load.length,lc,false⟩) (st:=stamp) ⟨rfl,hbv⟩ ⟨g1,g2,g3,g4⟩ ⟨hrg.2.2.2.2,hrg.2.2.2.1,hrg.2.2.1⟩ (fun h=>by cases h) (fun _=>by have:=hi.holds.dev p stamp load hc hm;simpa using this);refine⟨err,?_,F,e1,e2,e3⟩;rcases h2 with⟨rfl,hD⟩|⟨rfl,ha,hD⟩
  ·have ec:fE0 c p (some (stamp,load))=c:=by
    funext k
    simp only[fE0];split
    ·rename_i e;rw[e];exact hc.symm
    ·rfl
   have h3':=h3 { x with mem:=ej0 x.mem p ⟨stamp,la,load.length,lc,false⟩ g,dev:=D } rfl rfl rfl rfl rfl;rw[ec] at h3';refine .inl ⟨rfl,⟨_,c,hS',?_,hD,h1.1,h3',hi.ptk,hi.apart,hN⟩,hT.fr F (fun h=>oM),hb⟩;simp[Sto.cs,h1.2.1,h1.2.2]
  ·subst ha;exact .inr ⟨rfl,rfl,⟨D,hS'.dev,h1.1,hD,h1.2.1,h1.2.2⟩⟩
end
end Go.Proofs.YtgdhaaokolfdoaaGreatDoor
namespace Go.Sg
def bv0 (p:bp0):Bool:=decide ((96<=p.size/\p.size<=512)/\(1<=p.sectors/\p.sectors<=16384)/\(3<=p.regions/\p.regions<=64)/\(1<=p.rsectors/\p.rsectors<=32)/\(4<=p.log/\p.log<=256)/\(0<=p.depth/\p.depth<=8)/\(8<=p.memory/\p.memory<=256))
def la0 (p:bp0)(k:Nat):Prop:=(0<k->96<=p.size/\p.size<=512)/\(1<k->1<=p.sectors/\p.sectors<=16384)/\(2<k->3<=p.regions/\p.regions<=64)/\(3<k->1<=p.rsectors/\p.rsectors<=32)/\(4<k->4<=p.log/\p.log<=256)/\(5<k->0<=p.depth/\p.depth<=8)/\(6<k->8<=p.memory/\p.memory<=256)
end Go.Sg
namespace Go.Proofs.YtgdhaaokolfdoaaGreatDoor
open Go.RowKit Go.Sg
theorem Bb0 (p:bp0)(w:World):(Instr.index 327 (.agg (mu0 p).toArray) (.int .i64 0)).run Tryz.prog w = .ok (.agg #[.int .i64 p.size,.int .i64 96,.int .i64 512]) w:=by kernel_rfl
theorem Ba0 (p:bp0)(w:World):(Instr.index 327 (.agg (mu0 p).toArray) (.int .i64 1)).run Tryz.prog w = .ok (.agg #[.int .i64 p.sectors,.int .i64 1,.int .i64 16384]) w:=by kernel_rfl
theorem BZ0 (p:bp0)(w:World):(Instr.index 327 (.agg (mu0 p).toArray) (.int .i64 2)).run Tryz.prog w = .ok (.agg #[.int .i64 p.regions,.int .i64 3,.int .i64 64]) w:=by kernel_rfl
theorem BY0 (p:bp0)(w:World):(Instr.index 327 (.agg (mu0 p).toArray) (.int .i64 3)).run Tryz.prog w = .ok (.agg #[.int .i64 p.rsectors,.int .i64 1,.int .i64 32]) w:=by kernel_rfl
theorem BX0 (p:bp0)(w:World):(Instr.index 327 (.agg (mu0 p).toArray) (.int .i64 4)).run Tryz.prog w = .ok (.agg #[.int .i64 p.log,.int .i64 4,.int .i64 256]) w:=by kernel_rfl
theorem BW0 (p:bp0)(w:World):(Instr.index 327 (.agg (mu0 p).toArray) (.int .i64 5)).run Tryz.prog w = .ok (.agg #[.int .i64 p.depth,.int .i64 0,.int .i64 8]) w:=by kernel_rfl
theorem BV0 (p:bp0)(w:World):(Instr.index 327 (.agg (mu0 p).toArray) (.int .i64 6)).run Tryz.prog w = .ok (.agg #[.int .i64 p.memory,.int .i64 8,.int .i64 256]) w:=by kernel_rfl
theorem lM0 (p:bp0)(w:World):Calls Tryz.prog 158 #[p.val] w fun e w'=>e = .returned (.bool (bv0 p))/\Fq w w':=by
 have HB:=hid (fun W=>qY0 p W);obtain⟨V,hV⟩:=eX ((Value.agg (mu0 p).toArray))
 have i0:=Bb0 p;have i1:=Ba0 p;have i2:=BZ0 p;have i3:=BY0 p;have i4:=BX0 p;have i5:=BW0 p;have i6:=BV0 p;rw[hV] at i0 i1 i2 i3 i4 i5 i6;simp only[hV] at HB;obtain⟨a,b,c,d,f,g,h,s⟩:=p;clear hV;go_enter Tryz.func158,Tryz.ntmps158;go_wp2
 go_step3
 go_wp2
 go_step3
 go_wp2_with fail
 refine (HB.out _).mono ?_;rintro e w1 ⟨rfl,F1⟩;have G1:=hid (((Fr.refl (fun _=>False) w).alloc _).trans F1 nI);clear F1;go_wp2
 go_loopw [3,8] (fun r i wr=>∃ k:Nat,k<=7/\i = .int .i64 k/\r = .bool true/\la0 ⟨a,b,c,d,f,g,h,s⟩ k/\Fq w wr) (fun _ i _=>7-(Go.RowKit.intOf i).toNat)
 case atStart=>exact⟨0,oM,rfl,rfl,by simp[la0],G1.out⟩
 case round =>
  obtain⟨k,hk,rfl,rfl,hok,hF⟩:=hrel;have HOK:=hid hok;have HF:=hid hF;clear hok hF;rcases (show k=0\/k=1\/k=2\/k=3\/k=4\/k=5\/k=6\/k=7 by omega) with rfl|rfl|rfl|rfl|rfl|rfl|rfl|rfl
  ·have ho:=HOK.out;simp only[la0] at ho;have HO:=hid ho;clear ho;go_wp2
   ·rw[Exit.noGoto_ret];go_ret;exact⟨by rw[show bv0 ⟨a,b,c,d,f,g,h,s⟩=false from decide_eq_false (by simp only;omega)];rfl,HF.out.alloc _⟩
   ·rw[Exit.noGoto_ret];go_ret;exact⟨by rw[show bv0 ⟨a,b,c,d,f,g,h,s⟩=false from decide_eq_false (by simp only;omega)];rfl,HF.out.alloc _⟩
   ·go_roundw;case rel =>
     have ho:=HO.out;exact⟨1,oM,rfl,rfl,by simp only[la0];omega,HF.out.alloc _⟩
    case measure=>simp[Go.RowKit.intOf]
  ·have ho:=HOK.out;simp only[la0] at ho;have HO:=hid ho;clear ho;go_wp2
   ·rw[Exit.noGoto_ret];go_ret;exact⟨by rw[show bv0 ⟨a,b,c,d,f,g,h,s⟩=false from decide_eq_false (by simp only;omega)];rfl,HF.out.alloc _⟩
   ·rw[Exit.noGoto_ret];go_ret;exact⟨by rw[show bv0 ⟨a,b,c,d,f,g,h,s⟩=false from decide_eq_false (by simp only;omega)];rfl,HF.out.alloc _⟩
   ·go_roundw;case rel =>
     have ho:=HO.out;exact⟨2,oM,rfl,rfl,by simp only[la0];omega,HF.out.alloc _⟩
    case measure=>simp[Go.RowKit.intOf]
  ·have ho:=HOK.out;simp only[la0] at ho;have HO:=hid ho;clear ho;go_wp2
   ·rw[Exit.noGoto_ret];go_ret;exact⟨by rw[show bv0 ⟨a,b,c,d,f,g,h,s⟩=false from decide_eq_false (by simp only;omega)];rfl,HF.out.alloc _⟩
   ·rw[Exit.noGoto_ret];go_ret;exact⟨by rw[show bv0 ⟨a,b,c,d,f,g,h,s⟩=false from decide_eq_false (by simp only;omega)];rfl,HF.out.alloc _⟩
   ·go_roundw;case rel =>
     have ho:=HO.out;exact⟨3,oM,rfl,rfl,by simp only[la0];omega,HF.out.alloc _⟩
    case measure=>simp[Go.RowKit.intOf]
  ·have ho:=HOK.out;simp only[la0] at ho;have HO:=hid ho;clear ho;go_wp2
   ·rw[Exit.noGoto_ret];go_ret;exact⟨by rw[show bv0 ⟨a,b,c,d,f,g,h,s⟩=false from decide_eq_false (by simp only;omega)];rfl,HF.out.alloc _⟩
   ·rw[Exit.noGoto_ret];go_ret;exact⟨by rw[show bv0 ⟨a,b,c,d,f,g,h,s⟩=false from decide_eq_false (by simp only;omega)];rfl,HF.out.alloc _⟩
   ·go_roundw;case rel =>
     have ho:=HO.out;exact⟨4,oM,rfl,rfl,by simp only[la0];omega,HF.out.alloc _⟩
    case measure=>simp[Go.RowKit.intOf]
  ·have ho:=HOK.out;simp only[la0] at ho;have HO:=hid ho;clear ho;go_wp2
   ·rw[Exit.noGoto_ret];go_ret;exact⟨by rw[show bv0 ⟨a,b,c,d,f,g,h,s⟩=false from decide_eq_false (by simp only;omega)];rfl,HF.out.alloc _⟩
   ·rw[Exit.noGoto_ret];go_ret;exact⟨by rw[show bv0 ⟨a,b,c,d,f,g,h,s⟩=false from decide_eq_false (by simp only;omega)];rfl,HF.out.alloc _⟩
   ·go_roundw;case rel =>
     have ho:=HO.out;exact⟨5,oM,rfl,rfl,by simp only[la0];omega,HF.out.alloc _⟩
    case measure=>simp[Go.RowKit.intOf]
  ·have ho:=HOK.out;simp only[la0] at ho;have HO:=hid ho;clear ho;go_wp2
   ·rw[Exit.noGoto_ret];go_ret;exact⟨by rw[show bv0 ⟨a,b,c,d,f,g,h,s⟩=false from decide_eq_false (by simp only;omega)];rfl,HF.out.alloc _⟩
   ·rw[Exit.noGoto_ret];go_ret;exact⟨by rw[show bv0 ⟨a,b,c,d,f,g,h,s⟩=false from decide_eq_false (by simp only;omega)];rfl,HF.out.alloc _⟩
   ·go_roundw;case rel =>
     have ho:=HO.out;exact⟨6,oM,rfl,rfl,by simp only[la0];omega,HF.out.alloc _⟩
    case measure=>simp[Go.RowKit.intOf]
  ·have ho:=HOK.out;simp only[la0] at ho;have HO:=hid ho;clear ho;go_wp2
   ·rw[Exit.noGoto_ret];go_ret;exact⟨by rw[show bv0 ⟨a,b,c,d,f,g,h,s⟩=false from decide_eq_false (by simp only;omega)];rfl,HF.out.alloc _⟩
   ·rw[Exit.noGoto_ret];go_ret;exact⟨by rw[show bv0 ⟨a,b,c,d,f,g,h,s⟩=false from decide_eq_false (by simp only;omega)];rfl,HF.out.alloc _⟩
   ·go_roundw;case rel =>
     have ho:=HO.out;exact⟨7,oM,rfl,rfl,by simp only[la0];omega,HF.out.alloc _⟩
    case measure=>simp[Go.RowKit.intOf]
  ·have ho:=HOK.out;simp only[la0] at ho;have HO:=hid ho;clear ho;go_wp2
   rw[Exit.noGoto_ret];go_ret;have ho:=HO.out;exact⟨by rw[show bv0 ⟨a,b,c,d,f,g,h,s⟩=true from decide_eq_true (by simp only;omega)];rfl,HF.out⟩
