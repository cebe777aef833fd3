/- A pack of texts. Conditions: those that each names. -/
import Derived.Test.YtgdhaaokolfdoaaGreatDoorNAC
import Derived.Deep.MidRow
set_option maxHeartbeats 16000000
set_option maxRecDepth 100000
set_option linter.all false
namespace Go.Sg
open Go.RowKit
def Fr.setCells {S:Nat->Prop}{w:w9}{b:Nat}(hb:w<=b)(vs:List Value):∀ (o:Nat) (w1:w9),Fr S w w1->Fr S w (w1.setCells b o vs):=by
 induction vs with
 | nil=>intro o w1 h;exact h
 | cons v vs ih=>intro o w1 h;exact ih (o+1) _ (h.U2 hb v)
def Tj {P:Program}{fn:Func}{p:Tmp}{ty:TypeId}(h:fn.results=#[.cell p ty])(tmps:Array Value)(w:w9)(g:Nat)(cs:List Value)(d:TypeDesc)
  (hp:tmps.getD p undef = pO g) (hg:w.rangeAt g 0 cs) (hu:P.underlying ty=some d) (hd:d.isRow=true) (hi:(P.info? ty).map (·.size)=some cs.length) :
  (results fn tmps).run P w = .ok (.agg cs.toArray) w:=by
 have hp':tmps[p]?.getD undef = pO g:=by simpa using hp
 have h1:=run_loadVar_mid w g 0 ty cs d hg hu hd hi;simp[results,h,hp',asAddr,h1]
end Go.Sg
namespace Go.Proofs.YtgdhaaokolfdoaaGreatDoor
open Go.RowKit Go.Sg Tryz
abbrev ng (p:R8):List Value:=[iI p.size,iI 96,iI 512,iI p.C0,iI 1,iI 16384,iI p.regions,iI 3,iI 64,iI p.T2,iI 1,iI 32,iI p.log,iI 4,iI 256,iI p.depth,iI 0,iI 8,iI p.memory,iI 8,iI 256]
def yP:(prog.info? 327).map (·.size)=some 21:=by kernel_rfl
abbrev Ao0:Array Value:=#[iI 0,iI 0,iI 0,iI 0,iI 0,iI 0,iI 0,iI 0,iI 0,iI 0,iI 0,iI 0,iI 0,iI 0,iI 0,iI 0,iI 0,iI 0,iI 0,iI 0,iI 0]
def ss0 (p:R8)(w:w9):cP 222 #[p.val] w fun e w'=>e = rT (.agg (ng p).toArray)/\Fq w w':=by
 obtain⟨a,b,c,d,f,g,h,s⟩:=p;obtain⟨W,hW⟩:=eX ((w.alloc (.cells #[iI a,iI b,iI c,iI d,iI f,iI g,iI h,iU s] 31)).alloc (.cells Ao0 327))
 obtain⟨b0,b1,F1⟩:=n9 hW;have E3:w.heap.size+1<W.heap.size:=M0 b1;have ht:W.there (w.heap.size+1) 0 21:=by
  intro j hj;refine⟨?_,X2 b1 _⟩;rw[G0 b1];simp;omega
 have HT:=hid ht;obtain⟨w9,PK⟩:=eX (W.setCells (w.heap.size+1) 0 (ng ⟨a,b,c,d,f,g,h,s⟩).toArray.toList)
 have lJ:w9.rangeAt (w.heap.size+1) 0 (ng ⟨a,b,c,d,f,g,h,s⟩):=by
  rw[<- PK];exact World.rangeAt_setCells_same _ _ _ _ ht
 have F9:Fq w w9:=by
  rw[<- PK];exact Fr.setCells oM _ _ _ F1
 have c0:=G0 b0 0;have c1:=G0 b0 1;have c2:=G0 b0 2;have c3:=G0 b0 3;have c4:=G0 b0 4;have c5:=G0 b0 5;have c6:=G0 b0 6;simp at c0 c1 c2 c3 c4 c5 c6;have HR:=hid lJ;have HF:=hid F9;have HW:=hid hW;have ST:=hid PK;clear ht PK lJ F9 E3 hW b0 b1 F1;go_enter func222,ntmps222;go_upto_region 1 with (fail)
 simp only[HW.o];iterate 100 (first|(refine wpList_store_mid rF 327 (.tmp 2) (.tmp 24) rF (w.heap.size+1) 0 (ng ⟨a,b,c,d,f,g,h,s⟩).toArray rF rF HT (by rw[yP];rfl) (by simp[Value.oneCell']) ?_)|go_step|skip)
 have e9:W.setCells (w.heap.size+1) 0 (ng ⟨a,b,c,d,f,g,h,s⟩)=w9:=ST.o;rw[e9];exact bodyPost_ret (v:=.agg (ng ⟨a,b,c,d,f,g,h,s⟩).toArray) (Tj rfl _ _ (w.heap.size+1) (ng ⟨a,b,c,d,f,g,h,s⟩) _ rfl HR underlying327 rfl (by rw[yP];rfl)) rfl ⟨rfl,HF.o⟩
end Go.Proofs.YtgdhaaokolfdoaaGreatDoor
namespace Go.Sg
def qR (i:Nat):Nat->Nat
 | 0=>i
 | m+1=>sg (qR i m)
def lN0 (i:Nat):nG i=qR i 8:=rfl
def qk0 {n:Nat}(h:n<4294967296):sg n<4294967296:=by
 unfold sg;refine DP (n:=32) oM ?_;split <;> omega
def oM0 {i:Nat}(h:i<4294967296):∀ m,qR i m<4294967296:=by
 intro m;induction m with
 | zero=>exact h
 | succ m ih=>exact qk0 ih
def lM0 {i:Nat}(h:i<256):nG i<4294967296:=by rw[lN0];exact oM0 oM 8
def aO (i:Nat):List Value:=(List.range 256).map fun j=>.int .u32 ((if j<i then nG j else 0:Nat):Int)
def yV (i:Nat):(aO i).length=256:=by simp[aO]
def xr0 (i:Nat)(h:i<256):(aO i).set i (.int .u32 (nG i:Nat))=aO (i+1):=by
 apply Am;intro j;by_cases hj:j<256
 .rw[ug];by_cases e:i=j
  .subst e;simp[aO,hj]
  .rw[if_neg e];simp only[aO,gP,List.getElem?_range hj,DL];congr 2
   by_cases h1:j<i
   .rw[if_pos h1,if_pos oM]
   .rw[if_neg h1,if_neg oM]
 .rw[Al (by rw[fj,yV];omega),Al (by rw[yV];omega)]
end Go.Sg
namespace Go.Proofs.YtgdhaaokolfdoaaGreatDoor
open Go.RowKit Go.Sg Tryz
def Aq0:Tryz.zeroCells396=(List.replicate 256 (Value.int .u32 0)).toArray:=by kernel_rfl
def og0:aO 0=List.replicate 256 (Value.int .u32 0):=by
 rw[aO,Qj (g:=fun _=>Value.int .u32 0) (fun j _=>by rw[if_neg (Nat.not_lt_zero j)];rfl),List.map_const',List.length_range]
def mN0:Tryz.zeroCells396=(aO 0).toArray:=by rw[Aq0,og0]
def xq0 (w:w9) :
  cP 289 #[] w fun e w'=>e = rT (.agg (aO 256).toArray)/\Fq w w':=by
 go_enter func289,ntmps289;go_wp2
 rw[mN0];go_loopw [5] (fun s wr=>∃ i:Nat,i<=256/\s = iI i/\wr.heap[w.heap.size+1]?=some (.cells (aO i).toArray 396)/\wr.heap[w.heap.size]?=some (.cells (aO 0).toArray 396)/\Fq w wr) fun s _=>256-(intOf s).toNat
 case atStart =>
  obtain⟨h0,h1,F⟩:=n9 (w:=w) (A:=.cells (aO 0).toArray 396) (B:=.cells (aO 0).toArray 396) rfl;exact⟨0,C3 _,rfl,h1,h0,F⟩
 case round =>
  obtain⟨i,hi,rfl,h1,h0,hF⟩:=hrel;by_cases hlt:i<256
  .have cj:wr.cell? (aA (w+1) i)=some (.int .u32 0):=by
    rw[G0 h1];simp[aO,hlt]
   have zj:=fun o=>X2 h1 o
   have hlg:=M0 h1;have Ve:decide (i<256)=true:=by simpa using hlt
   have Vf:decide ((i:Int)<256)=true:=by simp;omega
   have H:=hi2 h1 (aI h0 hF);clear h1 h0 hF;go_wp2
   obtain⟨wo,rfl⟩:∃ wo:World,wo=wr:=⟨_,rfl⟩
   go_loop [3,10] (fun n s=>∃ m:Nat,m<=8/\s = iI m/\n = .int .u32 (qR i m:Nat)) fun _ s=>8-(intOf s).toNat
   case atStart=>exact⟨0,C3 _,rfl,rfl⟩
   case round =>
    obtain⟨m,hm,rfl,rfl⟩:=hrel;have hl:=oM0 (i:=i) oM m;by_cases pM:m<8
    .have ie:decide ((m:Int)<8)=true:=sO;go_wp2
     go_round
     case rel =>
      refine⟨m+1,oM,by go_num,?_⟩;have e1:bits BinOp.and IntKind.u32 ((qR i m:Nat):Int) 1=((qR i m % 2:Nat):Int):=by
       rw[show (1:Int)=((1:Nat):Int) from rfl,u32_and_nat _ _ hl dC,nat_mask1]
      rw[e1];have h2:qR i m % 2=0\/qR i m % 2=1:=oM;have e2:(2197175160*((qR i m % 2:Nat):Int) % 4294967296)=(((if qR i m % 2=1 then 2197175160 else 0):Nat):Int):=by
       rcases h2 with h2|h2 <;> rw[h2] <;> rfl
      rw[e2,show ((qR i m:Nat):Int)/2=((qR i m/2:Nat):Int) by simp,u32_xor_nat _ _ oM (by split <;> omega)];rfl
     case measure=>exact wM
    .obtain rfl:m=8:=by omega
     go_wp2
     go_roundw;case rel =>
      obtain⟨h1,h0,hF⟩:=H.o;refine⟨i+1,oM,by go_num,?_,?_,hF.U2 oM _⟩
      .rw[hsc _ _ _ _ h1];congr 2
       rw[<- lN0,<- xr0 i hlt];simp
      .exact (fY _ _ _ _ sP).trans h0
     case measure=>exact wM
  .obtain rfl:i=256:=by omega
   go_upto_region 13 with (fail)
   have hsz:(prog.info? 396).map (·.size)=some (aO 256).toArray.size:=by rw[zA,yV];kernel_rfl
   have xK:(prog.info? 396).map (·.size)=some (aO 256).length:=by rw[yV];kernel_rfl
   have hu:prog.underlying 396=some (.array 256 373):=by kernel_rfl
   have ht:wr.there w.heap.size 0 (aO 256).toArray.size:=by
    intro j hj;refine⟨?_,X2 h0 _⟩;rw[G0 h0];rw[zA,yV] at hj;simp[aO];omega
   have wW:(aO 256).toArray.all (·.oneCell')=true:=by simp[aO,Value.oneCell']
   have lJ:(wr.setCells w.heap.size 0 (aO 256)).rangeAt w.heap.size 0 (aO 256):=World.rangeAt_setCells_same _ _ _ _ (by simpa using ht);have F9:Fq w (wr.setCells w.heap.size 0 (aO 256)):=Fr.setCells oM _ _ _ hF;iterate 60 (first|(refine wpList_load_row rF 396 (.tmp 1) rF (w.heap.size+1) rF 396 (aO 256).toArray (0,0) (.array 256 373) h1 hu rfl hsz ?_)|(refine wpList_store_mid rF 396 (.tmp 0) (.tmp 24) rF w.heap.size 0 (aO 256).toArray rF rF ht hsz wW ?_)|go_step|skip)
   trace_state
   exact bodyPost_ret (v:=.agg (aO 256).toArray) (Tj rfl _ _ w.heap.size (aO 256) _ rfl lJ hu rfl xK) rfl ⟨rfl,F9⟩
