/- A pack of texts. Conditions: those that each names. -/
import Derived.Test.YtgdhaaokolfdoaaGreatDoorNAV
set_option maxHeartbeats 16000000
set_option maxRecDepth 100000
set_option linter.all false
namespace Go.Proofs.YtgdhaaokolfdoaaGreatDoor
section
open Go.RowKit Go.Sg CP SF
theorem vM0 (a b c d e f:Int)(w:World):(binOp .neq 116 (.agg #[.int .i64 a,.int .i64 b,.int .i64 c]) (.agg #[.int .i64 d,.int .i64 e,.int .i64 f])).run Tryz.prog w = .ok (.bool (!(decide (a=d) && (decide (b=e) && decide (c=f))))) w:=by
 have h:Tryz.prog.underlying 116=_:=Tryz.underlying116;go_simp;by_cases h1:a=d <;> by_cases h2:b=e <;> by_cases h3:c=f <;> simp[h1,h2,h3]
variable {x y:Bt}{w:World}{v:Value}{bd bx most s sl:Nat}{sp:Int}
theorem pz0 (h1:x.rg=y.rg)(h2:x.at_=y.at_):eV0 x y=false:=by
 unfold eV0;rw[h1,h2];have e:∀ z,na0 z z=0:=fun z=>by unfold na0;simp
 rw[e,e];decide
def gF0 (es:List Bt)(b k:Nat):Nat:=match es[b]?,es[k]? with
 | some y,some x=>if eV0 x y=true then k else b
 | _,_=>b
def tr0 (es:List Bt):Nat->Nat
 | 0=>0
 | k+1=>gF0 es (tr0 es k) (k+1)
theorem jM0 (es:List Bt):∀ k,tr0 es k<=k
 | 0=>nR _
 | k+1=>by
  have:=jM0 es k;show gF0 es (tr0 es k) (k+1)<=k+1;unfold gF0;split
  ·split
   ·exact nR _
   ·omega
  ·omega
def dm0 (es:List Bt):Nat->Int
 | 0=>-1
 | k+1=>(tr0 es k:Int)
variable {es:List Bt}
theorem iF0 {k:Nat}(hk:0<k)(hx:es[k]?=some x)(hy:es[tr0 es (k-1)]?=some y):dm0 es (k+1)=if eV0 x y=true then (k:Int) else dm0 es k:=by
 obtain⟨j,rfl⟩:∃ j,k=j+1:=⟨k-1,oM⟩
 simp only[lY9] at hy;show (gF0 es (tr0 es j) (j+1):Int)=_;unfold gF0;rw[hx,hy];simp only[dm0];split <;> rfl
def yv0 (es:List Bt)(w:World)(e:Ending)(w':World):Prop:=e = .returned (.int .i64 (dm0 es es.length))/\Fq w w'
theorem qf0 (hE:bm0 w 0 v es)(hl:es.length<=255)(d p:Int) :
  Calls Tryz.prog 134 #[bkV d p v] w (yv0 es w):=by
 obtain⟨va,vc,rfl,-,-,-,-⟩:=oSl hE;obtain⟨n,hn⟩:=eX es.length
 have hn9:n<=255:=oM
 obtain⟨w1,hw1⟩:=eX (w.alloc (.cells #[.int .i64 d,.int .i64 p,.slice va n vc] 129))
 have b1:w1.heap[w.heap.size]?=some (.cells #[.int .i64 d,.int .i64 p,.slice va n vc] 129):=by rw[<- hw1];exact han _ _
 have F1:Fq w w1:=by rw[<- hw1];exact (Fr.refl _ _).alloc _
 have HB:=hid (fun W (F:Fq w1 W)=>cells3 (F.heap b1 id));have HE:=hid (fun W (F:Fq w1 W)=>oN (oN hE F1) F);have HF1:=hid F1;have HN:=hid hn;have HW:=hid hw1;obtain⟨x0,x1,x2,xz,xl⟩:=HB.out _ (Fr.refl _ _);rw[hn];clear hE hl hn hw1 b1 F1;go_enter Tryz.func134,Tryz.ntmps134;go_upto_region 2 with fail
 rw[HW.out];go_wp2_with fail
 clear x0 x1 x2 xz xl;go_loopw [3,9] (fun bv iv wr=>∃ k:Nat,k<=n/\iv = .int .i64 k/\bv = .int .i64 (dm0 es k)/\Fq w1 wr) (fun _ iv _=>n-(intOf iv).toNat)
 case atStart=>exact⟨0,la9 _,rfl,rfl,Fr.refl _ _⟩
 case round =>
  obtain⟨k,hk,rfl,rfl,hF⟩:=hrel;by_cases hlt:k<n
  ·have hd:decide (k<n)=true:=by simp[hlt]
   have hki:(k:Int)<(n:Int):=oM
   obtain⟨x,hx⟩:∃ x,es[k]?=some x:=⟨_,gE (by rw[HN.out];exact hlt)⟩
   obtain⟨g,rfl,hg,u0,u1,u2,u3⟩:=bG0 (HE.out _ hF) hx;obtain⟨W,hW⟩:=eX (wr.alloc (.cells #[.int .u64 x.hash,.int .i64 x.rg,.int .i64 x.at_,.int .i64 x.sz] 118))
   have bW:W.heap[wr.heap.size]?=some (.cells #[.int .u64 x.hash,.int .i64 x.rg,.int .i64 x.at_,.int .i64 x.sz] 118):=by rw[<- hW];exact han _ _
   have FW:Fq wr W:=by rw[<- hW];exact (Fr.refl _ _).alloc _
   have HFW:=hid (hF.trans FW nI);have HBW:=hid (fun V (F:Fq W V)=>ah0 (F.heap bW id));have HX:=hid hx;have HW2:=hid hW;clear hx hW bW FW hF;go_upto_region 5 with fail
   rw[HW2.out];clear u0 u1 u2 u3;obtain⟨t0,t1,t2,t3,tz,tl⟩:=HBW.out _ (Fr.refl _ _);by_cases hk0:k=0
   ·subst hk0;have hb:dm0 es 0 = -1:=rfl;rw[hb];clear hb;go_quiet (fail)
    go_wp2_with fail
    go_roundw;case rel=>exact⟨1,hlt,by go_num,rfl,HFW.out.drewN _⟩
    case measure=>simp[intOf];omega
   ·have hkp:0<k:=oM;obtain⟨b,hbq⟩:=eX (tr0 es (k-1))
    have hbk:b<k:=(by rw[<- hbq];have:=jM0 es (k-1);omega);have hbest:dm0 es k=(b:Int):=by
     obtain⟨j,rfl⟩:∃ j,k=j+1:=⟨k-1,oM⟩
     rw[<- hbq];rfl
    obtain⟨y,hy⟩:∃ y,es[b]?=some y:=⟨_,gE (by rw[HN.out];omega)⟩
    have hsucc:=iF0 hkp HX.out (by rw[hbq];exact hy);rw[hbest] at hsucc ⊢;have HSu:=hid hsucc;have hbn:(b:Int)<(n:Int):=oM;have hb0:decide ((b:Int)<0)=false:=sP;have HC:=hid (fun V (F:Fq W V)=>show (V.cell? ⟨wr.heap.size,0,none⟩=some (.int .u64 x.hash)/\V.cell? ⟨wr.heap.size,1,none⟩=some (.int .i64 x.rg)/\V.cell? ⟨wr.heap.size,2,none⟩=some (.int .i64 x.at_)/\V.cell? ⟨wr.heap.size,3,none⟩=some (.int .i64 x.sz))/\(V.cell? ⟨g,b*4,none⟩=some (.int .u64 y.hash)/\V.cell? ⟨g,b*4+1,none⟩=some (.int .i64 y.rg)/\V.cell? ⟨g,b*4+2,none⟩=some (.int .i64 y.at_)/\V.cell? ⟨g,b*4+3,none⟩=some (.int .i64 y.sz))/\V.cell? ⟨w.heap.size,2,none⟩=some (.slice (some ⟨g,0,none⟩) n vc) by
     obtain⟨t0,t1,t2,t3,tz,tl⟩:=HBW.out V F;obtain⟨g',e',hg',u0,u1,u2,u3⟩:=bG0 (HE.out V (HFW.out.trans F nI)) hy;cases e';exact⟨⟨t0,t1,t2,t3⟩,⟨u0,u1,u2,u3⟩,(HB.out V (HFW.out.trans F nI)).2.2.1⟩)
    obtain⟨-,⟨u0,u1,u2,u3⟩,z2⟩:=HC.out _ (Fr.refl _ _);have hgW:=World.block_lt_of_cell? _ _ u0;clear hbq hbest hsucc hy;by_cases hloc:x.rg=y.rg/\x.at_=y.at_/\x.sz=y.sz
    ·have hn116:∀ W,(binOp .neq 116 (.agg #[.int .i64 x.rg,.int .i64 x.at_,.int .i64 x.sz]) (.agg #[.int .i64 y.rg,.int .i64 y.at_,.int .i64 y.sz])).run Tryz.prog W = .ok (.bool false) W:=fun W=>by rw[vM0];simp[hloc.1,hloc.2.1,hloc.2.2]
     have he:=pz0 hloc.1 hloc.2.1;have HS:=hid (show dm0 es (k+1)=(b:Int) by rw[HSu.out,he];rfl);clear hloc he;go_quiet (fail)
     go_wp2_with fail
     go_roundw;case rel=>exact⟨k+1,hlt,by go_num,by rw[HS.out],HFW.out.drewN _⟩
     case measure=>simp[intOf];omega
    ·have hn116:∀ W,(binOp .neq 116 (.agg #[.int .i64 x.rg,.int .i64 x.at_,.int .i64 x.sz]) (.agg #[.int .i64 y.rg,.int .i64 y.at_,.int .i64 y.sz])).run Tryz.prog W = .ok (.bool true) W:=fun W=>by
      rw[vM0];congr 2
      simp only[nl9,Bool.and_eq_false_iff,decide_eq_false_iff_not];by_cases h1:x.rg=y.rg
      ·by_cases h2:x.at_=y.at_
       ·exact .inr (.inr fun h3=>hloc ⟨h1,h2,h3⟩)
       ·exact .inr (.inl h2)
      ·exact .inl h1
     obtain⟨eb,heb⟩:=eX (eV0 x y)
     have HS:=hid (show dm0 es (k+1)=if eb=true then (k:Int) else (b:Int) by rw[HSu.out,heb]);have HEl:=hid (fun V=>show Calls Tryz.prog 198 #[btV x,btV y] V (ec0 (.bool eb) V) by rw[<- heb];exact tL0 x y V);have FG:Fq W W.drew:=(Fr.refl _ _).drew;clear hloc heb;go_region_held3 (fun V=>(V.cell? ⟨wr.heap.size,0,none⟩=some (.int .u64 x.hash)/\V.cell? ⟨wr.heap.size,1,none⟩=some (.int .i64 x.rg)/\V.cell? ⟨wr.heap.size,2,none⟩=some (.int .i64 x.at_)/\V.cell? ⟨wr.heap.size,3,none⟩=some (.int .i64 x.sz))/\(V.cell? ⟨g,b*4,none⟩=some (.int .u64 y.hash)/\V.cell? ⟨g,b*4+1,none⟩=some (.int .i64 y.rg)/\V.cell? ⟨g,b*4+2,none⟩=some (.int .i64 y.at_)/\V.cell? ⟨g,b*4+3,none⟩=some (.int .i64 y.sz))/\V.cell? ⟨w.heap.size,2,none⟩=some (.slice (some ⟨g,0,none⟩) n vc)) (go_keep) (first
      | (go_at_call 198;refine (HEl.out _).mono ?_;rintro _ V1 ⟨rfl,G1⟩;have FG:=FG.trans G1 nI;obtain⟨⟨t0,t1,t2,t3⟩,⟨u0,u1,u2,u3⟩,z2⟩:=HC.out _ FG;clear G1))
     cases eb;all_goals
      go_wp2_with fail
      go_roundw;case rel=>exact⟨k+1,hlt,by go_num,by rw[HS.out];rfl,HFW.out.trans FG nI⟩
      case measure=>simp[intOf];omega
  ·obtain rfl:k=n:=by omega
   have hd:decide (k<k)=false:=by simp
   have HFk:=hid hF;clear hF;go_wp2_with fail
   go_ret;exact⟨by rw[HN.out];rfl,HF1.out.trans HFk.out nI⟩
def cn0 (w:World)(bx s bd sl most:Nat)(sp:Int):Prop:=w.heap[bx]?=some (.cells #[.pointer (some ⟨s,0,none⟩),.pointer (some ⟨bd,0,none⟩),.int .i64 sl,.int .i64 most,.int .i64 sp] 227)
theorem cells5 {b:Nat}{x0 x1 x2 x3 x4:Value}{t:TypeId}(h:w.heap[b]?=some (.cells #[x0,x1,x2,x3,x4] t)) :
  w.cell? ⟨b,0,none⟩=some x0/\w.cell? ⟨b,1,none⟩=some x1/\w.cell? ⟨b,2,none⟩=some x2/\w.cell? ⟨b,3,none⟩=some x3/\w.cell? ⟨b,4,none⟩=some x4/\(∀ o,w.frozen? ⟨b,o,none⟩=false)/\b<w.heap.size:=
 ⟨by simpa using coh h 0,by simpa using coh h 1,by simpa using coh h 2,by simpa using coh h 3,by simpa using coh h 4,fun o=>foh h o,loh h⟩
abbrev cG0 (bx:Nat):Value:=.pointer (some ⟨bx,0,none⟩)
theorem lK0 {x:aL0}(h:cn0 w bx s bd sl most sp)(hD:aj0 w bd s x):Calls Tryz.prog 67 #[cG0 bx] w (tl0 x.depth w):=by
 obtain⟨c0,c1,c2,c3,c4,cz,cl⟩:=cells5 h;have HD:=hid (eX0 hD);clear h hD;go_enter Tryz.func67,Tryz.ntmps67;go_wp2_with fail
 refine HD.out.mono ?_;rintro e _ ⟨rfl,rfl⟩;go_wp2_with fail
 go_ret;exact⟨rfl,rfl⟩
theorem ja0 (h:cn0 w bx s bd sl most sp):Calls Tryz.prog 68 #[cG0 bx] w (tl0 sp w):=by
 obtain⟨c0,c1,c2,c3,c4,cz,cl⟩:=cells5 h;clear h;go_enter Tryz.func68,Tryz.ntmps68;go_wp2_with fail
 go_ret;exact⟨rfl,rfl⟩
def bJ0 (es:List Bt)(h sl:Nat):Bool:=hasB es h || decide (es.length<sl)
theorem fl0 (hI:cn0 w bx s bd sl most sp)(hE:bm0 w 0 v es)(hs:aa0 es)(hl:es.length<=255)(d p:Int)(h:Nat) :
  Calls Tryz.prog 131 #[cG0 bx,bkV d p v,.int .u64 h] w (ec0 (.bool (bJ0 es h sl)) w):=by
 obtain⟨va,vc,rfl,-,-,-,-⟩:=oSl hE;obtain⟨n,hn⟩:=eX es.length
 obtain⟨w1,hw1⟩:=eX (w.alloc (.cells #[.int .i64 d,.int .i64 p,.slice va n vc] 129))
 have b1:w1.heap[w.heap.size]?=some (.cells #[.int .i64 d,.int .i64 p,.slice va n vc] 129):=by rw[<- hw1];exact han _ _
 have F1:Fq w w1:=by rw[<- hw1];exact (Fr.refl _ _).alloc _
 have HB:=hid (fun W (F:Fq w1 W)=>aI (cells3 (F.heap b1 id)) (cells5 (F.heap (F1.heap hI id) id)));have HF:=hid (find_ok (oN hE F1) hs hl d p h);have HF1:=hid F1;have HN:=hid hn;have HW:=hid hw1;obtain⟨⟨x0,x1,x2,xz,xl⟩,-⟩:=HB.out _ (Fr.refl _ _);rw[hn] at HF ⊢;clear hI hE hs hl hn hw1 b1 F1;obtain⟨lv,hlv⟩:∃ e:Option Bt,atB es h=e:=⟨_,rfl⟩
 obtain⟨hb,hhb⟩:=eX (hasB es h)
 have HR:=hid (show bJ0 es h sl=(hb || decide (n<sl)) by unfold bJ0;rw[hhb,HN.out]);have HF':=hid (show Calls Tryz.prog 138 #[bkV d p (.slice va n vc),.int .u64 h] w1 (fun e w'=>e = .returned (.tuple #[to0 lv,.bool hb])/\Fq w1 w') from HF.out.mono fun e w' hp=>⟨by rw[<- hlv,<- hhb];exact hp.1,hp.2⟩);clear hlv hhb HF;obtain⟨r0,r1,r2,hr⟩:∃ r0 r1 r2:Int,to0 lv = .agg #[.int .i64 r0,.int .i64 r1,.int .i64 r2]:=by
  cases lv with
  | none=>exact⟨0,0,0,rfl⟩
  | some e=>exact⟨_,_,_,rfl⟩
 rw[hr] at HF';clear hr;obtain⟨bl,hbl⟩:∃ b,decide (n<sl)=b:=⟨_,rfl⟩
 rw[hbl] at HR;go_enter Tryz.func131,Tryz.ntmps131;go_upto_region 1 with fail
 rw[HW.out];go_wp2_with fail
 refine HF'.out.mono ?_;rintro e w2 ⟨rfl,F2⟩;have HF2:=hid F2;clear F2 x0 x1 x2 xz xl;obtain⟨⟨x0,x1,x2,xz,xl⟩,⟨y0,y1,y2,y3,y4,yz,yl⟩⟩:=HB.out _ HF2.out;go_upto_region 2 with fail
 cases hb;all_goals
  go_quiet (fail)
  go_wp2_with fail
  go_ret;refine⟨by rw[HR.out];first|rfl|simp,?_⟩;exact (HF1.out.trans HF2.out nI).trans (((Fr.refl (fun _=>False) _).alloc _).drewN _) nI
end
section
open Go.RowKit Go.Sg Go.Sg.Bits Go.Sg.Clk CP SF
end
section
open Go.RowKit Go.Sg CP SF
def aE0:bp0:=⟨120,96,3,2,4,3,8,0⟩
theorem jd0 (w:World):Calls Tryz.prog 77 #[] w fun e w'=>e = .returned aE0.val/\Fq w w':=by
 go_enter Tryz.func77,Tryz.ntmps77;go_wp2
 refine bodyPost_ret (v:=.agg #[.int .i64 120,.int .i64 96,.int .i64 3,.int .i64 2,.int .i64 4,.int .i64 3,.int .i64 8,.int .u64 0]) sR rfl ⟨rfl,(Fr.refl _ _).alloc _⟩
theorem bU0:cj0 ⟨(120:Nat),(96:Nat),3,2,4,3,8,0⟩=true:=by decide +kernel
theorem dO0 (x:Bt)(w:World):Calls Tryz.prog 65 #[btV x] w (ec0 (btV x) w):=by
 obtain⟨w1,hw1⟩:=eX (((w.alloc (.cells #[.int .u64 x.hash,.int .i64 x.rg,.int .i64 x.at_,.int .i64 x.sz] 110)).alloc (.cells #[.int .u64 0,.int .i64 0,.int .i64 0,.int .i64 0] 118)))
 obtain⟨b0,b1,F1⟩:=ai0 hw1;obtain⟨c0,c1,c2,c3,cz,cl⟩:=ah0 b0;obtain⟨d0,d1,d2,d3,dz,dl⟩:=ah0 b1;have HW:=hid hw1;have HF:=hid F1;have hs:w1.heap.size=w.heap.size+2:=by rw[<- hw1];simp
 have HS:=hid hs;clear hw1 b0 b1 F1 hs;go_enter Tryz.func65,Tryz.ntmps65;go_upto_region 1 with fail
 rw[HW.out];go_wp2_with fail
 refine bodyPost_ret (v:=btV x) sR rfl ⟨rfl,?_⟩;exact (((HF.out.an0 oM _).an0 oM _).an0 oM _).an0 oM _
theorem vh0 {w:World}{bx s bd sl most:Nat}{sp:Int}{x:aL0}(h:cn0 w bx s bd sl most sp)(hD:aj0 w bd s x):Calls Tryz.prog 76 #[cG0 bx] w (wr0 x.rp x.rs w):=by
 obtain⟨w1,hw1⟩:=eX (w.alloc (.cells #[.int .i64 0,.int .i64 0] 35))
 have b1:w1.heap[w.heap.size]?=some (.cells #[.int .i64 0,.int .i64 0] 35):=by rw[<- hw1];exact han _ _
 have F1:Fq w w1:=by rw[<- hw1];exact (Fr.refl _ _).alloc _
 have HB:=hid (fun W (F:Fq w1 W)=>cells2 (F.heap b1 id));obtain⟨c0,c1,c2,c3,c4,cz,cl⟩:=cells5 (F1.heap h id);have HR:=hid (xh0 (F1.heap hD id:aj0 w1 bd s x));have HF:=hid F1;have HW:=hid hw1;clear h hD hw1 b1 F1;go_enter Tryz.func76,Tryz.ntmps76;go_upto_region 1 with fail
 rw[HW.out];go_wp2_with fail
 refine HR.out.mono ?_;rintro e w2 ⟨rfl,F2⟩;obtain⟨d0,d1,dz,dl⟩:=HB.out _ F2;have HF2:=hid F2;clear F2 c0 c1 c2 c3 c4 cz cl;go_wp2_with fail
 refine bodyPost_ret (v:=fT0 x.rp x.rs) sR rfl ⟨rfl,?_⟩;exact ((HF.out.trans HF2.out nI).an0 oM _).an0 oM _
end
section
open Go.RowKit Go.Sg Go.Sg.Bits Go.Sg.Clk CP SF
def xx0 (p:bp0):Int:=(cd0 p).slots
def Bh0 (s:Nat)(p:bp0)(w:World)(e:Ending)(w':World):Prop:=∃ bx,e = .returned (cG0 bx)/\w'.heap[bx]?=some (.cells #[.pointer (some ⟨s,0,none⟩),.pointer none,.int .i64 (xx0 p),.int .i64 p.depth,.int .i64 0] 227)/\w.heap.size<=bx/\Fq w w'
theorem vB0 {w:World}{B:Blk}{y:Cs}{P:aC0}{a:Bool}{N:Nat}(h:aw0 w B y P a N)(hfit:cj0 y.plan=true):Calls Tryz.prog 147 #[B.ptr] w (Bh0 B.s y.plan w):=by
 obtain⟨⟨h6,-,h41⟩,h8,-⟩:=jI0 hfit;have HPl:=hid (fun W (F:Fq w W)=>rD0 (h.fr0 F));generalize y.plan=p at *
 have HFit:=hid (fun W=>qC0 p W);rw[hfit] at HFit;have hz:xx0 p=(cd0 p).slots:=rfl;obtain⟨pa,pb,pc,pd,pf,dp,ph,ps⟩:=p;generalize cd0 ⟨pa,pb,pc,pd,pf,dp,ph,ps⟩=L at *
 obtain⟨l1,l2,l3,per,l5,l6,l7⟩:=L;have HZ:=hid hz;clear h hfit h6 h41 h8 hz;go_enter Tryz.func147,Tryz.ntmps147;go_wp2_with (go_at_call 33;refine (HPl.out _ (Fr.refl _ _)).mono ?_)
 rintro e w1 ⟨rfl,F1⟩;have HF1:=hid F1;clear F1;go_wp2_with (go_at_call 91;refine (HFit.out _).mono ?_)
 rintro e w2 ⟨rfl,F2⟩;have HF2:=hid (HF1.out.trans F2 nI);clear F2;simp only[if_true];go_upto_region 2 with fail
 obtain⟨W3,hW3⟩:=eX (w2.alloc (.cells #[.int .i64 2,.int .i64 l1,.int .i64 l2,.int .i64 l3,.int .i64 per,.int .i64 l5,.int .i64 l6,.int .i64 l7] 169))
 rw[hW3];have F3:Fq w2 W3:=by rw[<- hW3];exact (Fr.refl _ _).alloc _
 have b3:W3.heap[w2.heap.size]?=some (.cells #[.int .i64 2,.int .i64 l1,.int .i64 l2,.int .i64 l3,.int .i64 per,.int .i64 l5,.int .i64 l6,.int .i64 l7] 169):=by rw[<- hW3];exact han _ _
 have HF3:=hid (HF2.out.trans F3 nI);have c4:=coh b3 5;simp at c4;have l3:=loh b3;have hfd:∀ W,(Instr.field 31 (.agg #[.int .i64 pa,.int .i64 pb,.int .i64 pc,.int .i64 pd,.int .i64 pf,.int .i64 dp,.int .i64 ph,.int .u64 ps]) 5).run Tryz.prog W = .ok (.int .i64 dp) W:=fun W=>by kernel_rfl
 clear F3 b3 hW3;go_region_held3 (fun W=>W.cell? ⟨w2.heap.size,5,none⟩=some (.int .i64 l5)) (go_keep)
  (first
   | (go_at_call 33;refine (HPl.out _ (by first|exact HF3.out|exact HF3.out.drew)).mono ?_;rintro e W4 ⟨he,F4⟩;obtain rfl:e = .returned (.agg #[.int .i64 pa,.int .i64 pb,.int .i64 pc,.int .i64 pd,.int .i64 pf,.int .i64 dp,.int .i64 ph,.int .u64 ps]):=he;have c4:=(F4.cell (p:=⟨w2.heap.size,5,none⟩) (by first|exact l3|(simp;omega)) id).trans c4;have HF4:=hid (show Fq W3 W4 by first|exact F4|exact ((Fr.refl _ _).drew).trans F4 nI);clear F4))
 all_goals (go_wp2_with fail)
 all_goals go_ret
 all_goals (
  refine⟨_,rfl,?_,nT HF3.out.size HF4.out.size,(HF3.out.trans HF4.out nI).alloc _⟩;rw[HZ.out];exact han _ _)
end
section
open Go.RowKit Go.Sg CP SF
theorem ty0 (x:Bt)(b:Bool)(w:World)(hR:∀ W g,W.heap[g]?=some (.cells #[.int .u64 x.hash,.int .i64 x.rg,.int .i64 x.at_,.int .i64 x.sz] 118)->w.heap.size<=g->Fq w W->Calls Tryz.prog 190 #[bkV 0 0 (.slice (some ⟨g,0,none⟩) 1 1),.int .i64 1] W (ec0 (.bool b) W)):Calls Tryz.prog 129 #[btV x] w (ec0 (.bool b) w):=by
 obtain⟨w1,hw1⟩:=eX (w.alloc (.cells #[.int .u64 x.hash,.int .i64 x.rg,.int .i64 x.at_,.int .i64 x.sz] 118))
 have b1:w1.heap[w.heap.size]?=some (.cells #[.int .u64 x.hash,.int .i64 x.rg,.int .i64 x.at_,.int .i64 x.sz] 118):=by rw[<- hw1];exact han _ _
 have F1:Fq w w1:=by rw[<- hw1];exact (Fr.refl _ _).alloc _
 obtain⟨c0,c1,c2,c3,cz,cl⟩:=ah0 b1;have HF1:=hid F1;have HW:=hid hw1;have HR:=hid hR;clear hR hw1 b1 F1;go_enter Tryz.func129,Tryz.ntmps129;go_upto_region 1 with fail
 rw[HW.out];go_wp2_with fail
 refine (HR.out _ w1.heap.size (han _ _) HF1.out.size (HF1.out.alloc _)).mono ?_;rintro e w2 ⟨rfl,F2⟩;have HF2:=hid ((HF1.out.alloc _).trans F2 nI);clear F2 c0 c1 c2 c3 cz cl;go_wp2_with fail
 refine bodyPost_ret (v:=.bool b) sR rfl ⟨rfl,?_⟩;exact HF2.out
