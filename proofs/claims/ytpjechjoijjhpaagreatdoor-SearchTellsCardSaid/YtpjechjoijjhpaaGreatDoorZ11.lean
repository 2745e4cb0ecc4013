/-
  Walks: layer 19: whether some transactions are a cycle.
-/
import Derived.Test.YtpjechjoijjhpaaGreatDoorZ10
import Derived.Test.YtpjechjoijjhpaaGreatDoorZ02
set_option linter.unusedVariables false
set_option linter.unusedSimpArgs false
namespace Go.Proofs.YtpjechjoijjhpaaGreatDoor
open Go.RowKit Go.Inq
set_option maxHeartbeats 8000000
attribute [local go_sem↓] Go.wp_at_zero Go.wp_at_succ
def mJ(H:List Txn)(level:Int)(l:List Cho)(row:List Int)(i:Nat):Bool:= !(row.take i).contains (row.getD i 0)&&isB H level l (row.getD i 0) (row.getD ((i+1)%row.length) 0)
theorem JK{H:List Txn}{level:Int}{l:List Cho}{row:List Int}{i:Nat}(hi:i<row.length)(h:mJ H level l row i=false):iE H level l row=false:=by
 unfold iE;rw[Bool.and_eq_false_iff];right;rw[List.all_eq_false];exact⟨i,List.mem_range.2 hi,by unfold mJ at h;rw[h];decide⟩
theorem EN{H:List Txn}{level:Int}{l:List Cho}{row:List Int}(h:∀i,i<row.length→mJ H level l row i=true):iE H level l row=decide (0<row.length):=by
 unfold iE;rw[show((List.range row.length).all fun i=> !(row.take i).contains (row.getD i 0)&&isB H level l (row.getD i 0) (row.getD ((i+1)%row.length) 0))=true from List.all_eq_true.2 fun i hi=>h i (List.mem_range.1 hi),Bool.and_true]
set_option maxRecDepth 100000 in
theorem zl(A:Option Addr)(c:Nat)(H:List Txn)(level:Int)(Al:Option Addr)(cl:Nat)(l:List Cho)(Ar:Option Addr)(cr:Nat)(row:List Int)(w:World)(h:aC w (Old w) (.slice A H.length c) H)(hn:aA H)(hl:aV w (Old w) (.slice Al l.length cl) l)(hln:l.length≤1000000000)(hr:aM w (Old w) (.slice Ar row.length cr) row)(hrl:row.length≤1000000000):
 Calls Tryz.prog 123 #[.agg #[.slice A H.length c],.int .i64 level,.slice Al l.length cl,.slice Ar row.length cr] w fun e w'=>e= .returned (.bool (iE H level l row))∧Below w.heap.size w w':=by
 obtain⟨W0,hW0⟩:∃W0,w.alloc (.cells #[.slice A H.length c] 24)=W0:=⟨_,rfl⟩;have hB:=ah (Below.refl w.heap.size w) hW0 (Nat.le_refl _);have k0:=Blk.newEq hW0;have his:=hide (fun(a b:Int) W (hb:Below w.heap.size w W)=>NV A c H level Al cl l a b W (h.below hb) hn (hl.below hb) hln);have hrw:=hide (fun W (hb:Below w.heap.size w W)=>hr.below hb);have hno:=hide (fun i (hi:i<row.length)=>JK (H:=H) (level:=level) (l:=l) hi);have hyes:=hide (EN (H:=H) (level:=level) (l:=l) (row:=row));generalize iE H level l row=r at*;clear h hl hr;go_enter Tryz.func123,Tryz.ntmps123;go_wp2_with fail;clear hW0;go_loopw [13] (fun s13 wr=>∃i:Nat,i≤row.length∧s13= .int .i64 i∧Hid (∀j,j<i→mJ H level l row j=true)∧Below w.heap.size w wr∧Blk wr w.heap.size 24 #[.slice A H.length c]) (fun s13 _=>row.length-(intOf s13).toNat);case atStart=>exact⟨0,Nat.zero_le _,by go_num,hide (fun j hj=>absurd hj (by omega)),hB,k0⟩
 case round=>
  clear k0 hB;obtain⟨Wo,rfl⟩:∃Wo,Wo=wr:=⟨_,rfl⟩;obtain⟨i,hi,rfl,hall,hb,k0⟩:=hrel;have hi0:(0:Int)≤(i:Int):=Int.natCast_nonneg _;by_cases hlt:i<row.length
  ·have hi1:(i:Int)<(row.length:Int):=(by omega);have hi2:(i:Int)≤(row.length:Int):=(by omega);have hI:=hrw.out Wo hb;have hlc:row.length≤cr:=by
    obtain⟨_,_,e,h⟩:=SlR.len hI;simp only[Value.slice.injEq]at e;omega
   have hic:(i:Int)≤(cr:Int):=(by omega);obtain⟨br,orr,rfl,-,x0⟩:=hI.at_ hlt;have hj:(i+1)%row.length<row.length:=Nat.mod_lt _ (by omega);have hnx:=hide (fun(g:mJ H level l row i=true)=>(fun j (hj:j<i+1)=>(by
    by_cases e:j=i
    ·subst e;exact g
    ·exact hall.out j (by omega):mJ H level l row j=true)))
   have hn2:=hide (hno.out i hlt);have hrA:Hid (mJ H level l row i=(!(row.take i).contains row[i]&&isB H level l row[i] row[(i+1)%row.length])):=hide (by
    unfold mJ;rw[List.getD_eq_getElem?_getD,List.getElem?_eq_getElem hlt,Option.getD_some,List.getD_eq_getElem?_getD,List.getElem?_eq_getElem hj,Option.getD_some])
   have hcc:=hide (fun W (hb:Below Wo.heap.size Wo W)=>fO (some ⟨br,orr,none⟩) cr (row.take i) row[i] (Old W) W (by rw[show(row.take i).length=i by rw[List.length_take];omega];exact(hI.below hb).take (by omega)) (by rw[List.length_take];unfold maxLen;omega));have htl:Hid ((row.take i).length=i):=hide (by rw[List.length_take];omega);have hxj:Hid (∀W,Below Wo.heap.size Wo W→W.cell? ⟨br,orr+(i+1)%row.length,none⟩=some (.int .i64 row[(i+1)%row.length])):=hide (fun W hbW=>((hI.below hbW).cells hj).2);have hii:=hide (fun W (hbW:Below Wo.heap.size Wo W)=>his.out row[i] row[(i+1)%row.length] W (hb.trans (hbW.mono hb.size)));have hch:Hid (∀W,Below Wo.heap.size Wo W→W.cell? ⟨w.heap.size,0,none⟩=some (.slice A H.length c)):=hide (fun W hbW=>by have:=(k0.below hbW k0.lt).cell 0;simpa using this);rw[htl.out]at hcc;generalize isB H level l row[i] row[(i+1)%row.length]=q2 at*;generalize(row.take i).contains row[i]=q1 at*;generalize row[(i+1)%row.length]=xj at*;generalize row[i]=xi at*;have hm:Hid (((i:Int)+1).tmod (row.length:Int)=(((i+1)%row.length:Nat):Int)):=hide (by rw[show(i:Int)+1=((i+1:Nat):Int) by omega];rfl);generalize hmm:(i+1)%row.length=mi at*;replace hmm:=hide hmm;have hmi:(mi:Int)<(row.length:Int):=(by omega);have Vu:(0:Int)≤(mi:Int):=Int.natCast_nonneg _;have hz0:((row.length:Int)==0)=false:=(by rw[beq_eq_false_iff_ne];omega);have hz1:(row.length==0)=false:=(by rw[beq_eq_false_iff_ne];omega);have hnil:Hid (row≠[]):=hide (fun e=>by rw[e]at hlt;simp at hlt);go_upto_region 4 with fail;cases q1 with
   |true=>
    have hr2:=hn2.out (by rw[hrA.out];rfl);subst hr2;clear hn2 hrA hnx hyes hno;refine bT (fun W=>Below Wo.heap.size Wo W) (by kernel_rfl) (by kernel_rfl) (Below.refl _ _).drew ?_;refine⟨.slice (some ⟨br,orr,none⟩) row.length cr,fun W hW=>(by go_wp2),?_⟩;refine⟨.int .i64 (i:Int),fun W hW=>(by go_wp2),?_⟩;refine⟨.slice (some ⟨br,orr,none⟩) i cr,fun W hW=>(by go_wp2),?_⟩;refine⟨.int .i64 xi,fun W hW=>(by go_wp2),?_⟩;refine⟨.bool true,fun W hW=>(by
     go_wp2_with fail;refine(hcc.out W hW).mono ?_;rintro e w' ⟨rfl,rfl⟩;go_wp2),?_⟩
    refine⟨.bool true,fun W hW=>(by go_wp2),?_⟩;refine⟨undef,fun W hW=>(by go_wp2),?_⟩;refine⟨undef,fun W hW=>(by go_wp2),?_⟩;refine⟨undef,fun W hW=>(by go_wp2),?_⟩;refine⟨undef,fun W hW=>(by go_wp2),?_⟩;refine⟨undef,fun W hW=>(by go_wp2),?_⟩;refine⟨undef,fun W hW=>(by go_wp2),?_⟩;refine⟨undef,fun W hW=>(by go_wp2),?_⟩;refine⟨undef,fun W hW=>(by go_wp2),?_⟩;refine⟨undef,fun W hW=>(by go_wp2),?_⟩;refine⟨undef,fun W hW=>(by go_wp2),?_⟩;refine⟨undef,fun W hW=>(by go_wp2),?_⟩;refine⟨undef,fun W hW=>(by go_wp2),?_⟩;refine⟨undef,fun W hW=>(by go_wp2),?_⟩;refine⟨undef,fun W hW=>(by go_wp2),?_⟩;refine⟨.bool true,fun W hW=>(by go_wp2),?_⟩;intro W5 hW5;simp only[Act.put,sA,sZ,sS];have hb5:=hb.trans (hW5.mono hb.size);go_wp2;go_ret;exact⟨rfl,hb5⟩
   |false=>
    refine bT (fun W=>Below Wo.heap.size Wo W) (by kernel_rfl) (by kernel_rfl) (Below.refl _ _).drew ?_;refine⟨.slice (some ⟨br,orr,none⟩) row.length cr,fun W hW=>(by go_wp2),?_⟩;refine⟨.int .i64 (i:Int),fun W hW=>(by go_wp2),?_⟩;refine⟨.slice (some ⟨br,orr,none⟩) i cr,fun W hW=>(by go_wp2),?_⟩;refine⟨.int .i64 xi,fun W hW=>(by go_wp2),?_⟩;refine⟨.bool false,fun W hW=>(by
     go_wp2_with fail;refine(hcc.out W hW).mono ?_;rintro e w' ⟨rfl,rfl⟩;go_wp2),?_⟩
    refine⟨.bool false,fun W hW=>(by go_wp2),?_⟩;refine⟨.agg #[.slice A H.length c],fun W hW=>(by have v0:=hch.out W hW;go_wp2),?_⟩;refine⟨.int .i64 level,fun W hW=>(by go_wp2),?_⟩;refine⟨.slice Al l.length cl,fun W hW=>(by go_wp2),?_⟩;refine⟨.int .i64 xi,fun W hW=>(by go_wp2),?_⟩;refine⟨.slice (some ⟨br,orr,none⟩) row.length cr,fun W hW=>(by go_wp2),?_⟩;refine⟨.int .i64 (i:Int),fun W hW=>(by go_wp2),?_⟩;refine⟨.int .i64 ((i:Int)+1),fun W hW=>(by go_wp2),?_⟩;refine⟨.slice (some ⟨br,orr,none⟩) row.length cr,fun W hW=>(by go_wp2),?_⟩;refine⟨.int .i64 (row.length:Int),fun W hW=>(by go_wp2),?_⟩;refine⟨.int .i64 (mi:Int),fun W hW=>(by have hm2:=hm.out;go_wp2;try exact hnil.out (by assumption)),?_⟩;refine⟨.pointer (some ⟨br,orr+mi,none⟩),fun W hW=>(by go_wp2),?_⟩;refine⟨.int .i64 xj,fun W hW=>(by have v0:=hxj.out W hW;go_wp2),?_⟩;refine⟨.bool q2,fun W hW=>(by
     go_wp2_with fail;refine(hii.out W hW).mono ?_;rintro e w' ⟨rfl,hb'⟩;replace hW:=hW.trans (hb'.mono hW.size);go_wp2),?_⟩
    refine⟨.bool (!q2),fun W hW=>(by go_wp2),?_⟩;refine⟨.bool (!q2),fun W hW=>(by go_wp2),?_⟩;intro W5 hW5;simp only[Act.put,sA,sZ,sS];have hb5:=hb.trans (hW5.mono hb.size);have k5:=k0.below hW5 k0.lt;cases q2 with
    |true=>
     have hn3:=hide (hnx.out (by rw[hrA.out];rfl));clear hnx hn2 hrA;go_wp2;go_roundw;case rel=>exact⟨i+1,by omega,by go_num,hn3,hb5,k5⟩
     case measure=>simp[intOf];omega
    |false=>
     have hr2:=hn2.out (by rw[hrA.out];rfl);subst hr2;clear hn2 hrA hnx hyes hno;go_wp2;go_ret;exact⟨rfl,hb5⟩
  ·obtain rfl:i=row.length:=(by omega);have hr2:=hyes.out hall.out;obtain⟨q,hq⟩:∃q,decide (0<row.length)=q:=⟨_,rfl⟩;have hq2:decide ((row.length:Int)>0)=q:=(by rw[←hq];simp);rw[hq]at hr2;subst hr2;clear hyes hno hall;go_wp2;go_ret;exact⟨rfl,hb⟩
end Go.Proofs.YtpjechjoijjhpaaGreatDoor
