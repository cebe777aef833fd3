/- A pack of texts. Conditions: those that each names. -/
import Derived.Test.YtgdhaaokolfdoaaGreatDoorNAG
set_option maxHeartbeats 16000000
set_option maxRecDepth 100000
set_option linter.all false
namespace Go.Proofs.YtgdhaaokolfdoaaGreatDoor
open Go.RowKit Go.Sg
theorem ll0 {w:World}{base d bf bq:Nat}{D:Dev}(h:bt0 w base d bf bq D)(hdown:D.down=false)(hlen:∀ y ∈ D.loose,y.2.length=D.size)(hmany:D.loose.length<=100000)(at_:Nat)(hat:at_<D.sectors)
  (kind place stamp:Nat) (load:List Int) (hz:D.sec at_=af0 D.size kind place stamp load) (hby:∀ x ∈ load,0<=x/\x<256) (hk:1<=kind/\kind<=4) (hp:place<=2147483647) (hs:stamp<9223372036854775808) (hl:load.length+19<=D.size) :
  Calls Tryz.prog 87 #[.pointer (some ⟨d,0,none⟩),.int .i64 at_,.int .i64 kind,.int .i64 place] w fun e w'=>∃ la lc,e = .returned (.tuple #[.agg #[.int .i64 kind,.int .i64 place,.int .i64 stamp,.slice la load.length lc],.int .i64 0])/\ByV w' la load.length lc load/\Fq w w':=by
 obtain⟨w1,hw1⟩:=eX (w.alloc (.cells #[.int .i64 0,.int .i64 0,.int .i64 0,.slice none 0 0] 166))
 have F1:Fq w w1:=by rw[<- hw1];exact (Fr.refl _ _).alloc _
 have b1:w1.heap[w.heap.size]?=some (.cells #[.int .i64 0,.int .i64 0,.int .i64 0,.slice none 0 0] 166):=by rw[<- hw1];exact han _ _
 have HR:=hid (oD0 (h.fr F1 id id id (fun _ _ _ _ _ h=>h)) hdown hlen hmany at_ hat);have hr:=h.rg.2;have HZ:=hid hz;have HW1:=hid hw1;have HB1:=hi2 F1 b1;have HN:=hi2 hby (aI hk (aI hp (aI hs hl)));clear h hw1 F1 b1 hz hdown hlen hmany hby hk hp hs hl;go_enter Tryz.func87,Tryz.ntmps87;go_wp2_with fail
 rw[HW1.out];refine HR.out.mono ?_;rintro e w2 ⟨a,c,rfl,hb,F2⟩;rw[HZ.out] at hb;have HLR:=hid (ky0 hb HN.out.1 oM oM HN.out.2.1 HN.out.2.2.1 HN.out.2.2.2.1 HN.out.2.2.2.2);have HF2:=hid F2;clear hb F2;go_wp2_with fail
 refine HLR.out.mono ?_;rintro e w3 ⟨la,lc,rfl,hb3,F3⟩;have F13:=HF2.out.trans F3 nI;have HBL:=hid hb3;have hx3:=F13.heap HB1.out.2 id;have e0:=coh hx3 0;have e1:=coh hx3 1;have e2:=coh hx3 2;have e3:=coh hx3 3;have z:=fun o=>foh hx3 o
 simp at e0 e1 e2 e3;have lt:=loh hx3;have HG:=hi2 (HB1.out.1.trans F13 nI) hx3;have HBL:=hid hb3;have ne1:¬ w3.heap.size=w.heap.size:=oM
 have ne2:¬ w.heap.size=w3.heap.size:=oM
 clear hx3 F13 F3 hb3;go_wp2
 refine bodyPost_ret (v:=.tuple #[.agg #[.int .i64 kind,.int .i64 place,.int .i64 stamp,.slice la load.length lc],.int .i64 0]) sR rfl ⟨la,lc,rfl,?_,?_⟩
 ·exact (HBL.out.fr (S:=fun b=>b=w.heap.size) (((((Fr.refl (fun b=>b=w.heap.size) _).setCell (a:=⟨w.heap.size,0,none⟩) (fun _=>rfl) _).setCell (a:=⟨w.heap.size,1,none⟩) (fun _=>rfl) _).setCell (a:=⟨w.heap.size,2,none⟩) (fun _=>rfl) _).setCell (a:=⟨w.heap.size,3,none⟩) (fun _=>rfl) _) (fun b c hc e=>by rw[e,HG.out.2] at hc;cases hc)).fr ((Fr.refl (fun _=>False) _).alloc _) (fun _ _ _ h=>h)
 ·exact ((((HG.out.1.an0 (nR _) _).an0 (nR _) _).an0 (nR _) _).an0 (nR _) _).alloc _
