/- The document's commits: AsCommit. No statement of the seat is proved here. -/
import Derived.Test.YtlidiclfpklliaaGreatDoorG38
set_option linter.unusedSimpArgs false
set_option linter.unusedVariables false
set_option maxHeartbeats 16000000
namespace Go.Proofs.YtlidiclfpklliaaGreatDoor
open Go.RowKit Go.Aq Go.Aq.Fy
theorem rcomm_ty:ArrTy Tryz.prog 155 5:=⟨⟨_,Tryz.underlying155,rfl⟩,by kernel_rfl⟩
def AsCommEnd (w:World) (b:List UInt8) (e:Ending) (w':World):Prop:=
 (∃v ok,e=.returned (.tuple #[v,.bool ok])∧(ok=true↔refComm b)∧∃c ao n cap,v=commV c (.slice ao n cap)∧(ok=true→c=refCommD b.tail∧Sees w' 1 (.slice ao n cap) c.pars.length (names c.pars)∧∀k∈eyes (.slice ao n cap),w.heap.size≤k))∧Chg [] w w'
theorem AsCommEnd.no {w w':World} {b:List UInt8} (h:¬refComm b) {c:CommD} {ao:Option Addr} {n cap:Nat} (k:Chg [] w w'):AsCommEnd w b (.returned (.tuple #[commV c (.slice ao n cap),.bool false])) w':=
 ⟨⟨_,false,rfl,⟨fun e=>(by cases e),fun e=>absurd e h⟩,c,ao,n,cap,rfl,fun e=>(by cases e)⟩,k⟩
def commZ:CommD:=⟨[],[],0,[],[]⟩
theorem refComm_cons {k:UInt8} {t:List UInt8}:refComm (k::t)↔k=3∧CommOk t∧mayComm (refCommD t)=true:=by
 unfold refComm
 constructor
 ·rintro⟨t',h,h1,h2⟩
  rw[List.cons.injEq] at h
  obtain⟨rfl,rfl⟩:=h
  exact⟨rfl,h1,h2⟩
 ·rintro⟨rfl,h1,h2⟩
  exact⟨t,rfl,h1,h2⟩
structure CParts (t:List UInt8) (n np A al tl st:Nat) (tr:List UInt8):Prop where
 iff:refComm (3::t)↔al+2≤n - (A+8)∧n - (A+8) - al - 2=tl∧mayComm (refCommD t)=true
 dat:refCommD t=⟨tr,chunkN np (t.drop 33),(st:Int),((3::t).drop (A+8)).take al,(3::t).drop (A+8+al+2)⟩
 al2:al<65536
 tl2:tl<65536
 trl:tr.length≤1000000
theorem val2 (l:List UInt8) (k:Nat):beVal ((l.drop k).take 2)<65536:=by
 have h:=beVal_lt ((l.drop k).take 2)
 have h2:(256:Nat)^((l.drop k).take 2).length≤256^2:=Nat.pow_le_pow_right (by decide) (by rw[List.length_take];exact Nat.min_le_left _ _)
 have h3:(256:Nat)^2=65536:=by decide
 rw[h3] at h2
 exact Nat.lt_of_lt_of_le h h2
theorem cparts {t:List UInt8} {n np A al tl st:Nat} {tr:List UInt8} (hn:t.length=n - 1) (h34:¬n<34) (hnp:npC t=np) (hn2:np≤2) (hA:34+32 * np=A) (h8:¬n<A+8)
  (htr:hexL (t.take 32)=tr) (hst:beVal (((3::t).drop A).take 6)=st) (hal:beVal (((3::t).drop (A+6)).take 2)=al) (htl:beVal (((3::t).drop (A+8+al)).take 2)=tl):CParts t n np A al tl st tr:=by
 have eat:atC t+1=A:=by unfold atC;rw[hnp];omega
 have ealC:alC t=al:=by unfold alC;rw[←hal,←eat,show atC t+1+6=(atC t+6)+1 by omega,List.drop_succ_cons]
 have etlC:tlC t=tl:=by unfold tlC;rw[←htl,ealC,←eat,show atC t+1+8+al=(atC t+8+al)+1 by omega,List.drop_succ_cons]
 refine⟨?_,?_,by rw[←hal];exact val2 _ _,by rw[←htl];exact val2 _ _,by rw[←htr,hexL_length,List.length_take];omega⟩
 ·rw[refComm_cons]
  constructor
  ·rintro⟨-,h,hm⟩
   have h1:=h.al
   have h2:=h.tl
   rw[ealC] at h1 h2
   rw[etlC] at h2
   exact⟨by omega,by omega,hm⟩
  ·rintro⟨h1,h2,hm⟩
   exact⟨rfl,⟨by rw[hnp];exact hn2,by omega,by rw[ealC];omega,by rw[ealC,etlC];omega⟩,hm⟩
 ·unfold refCommD
  have e1:(3::t).drop A=t.drop (atC t):=by rw[←eat,List.drop_succ_cons]
  have e2:(3::t).drop (A+8)=t.drop (atC t+8):=by rw[←eat,show atC t+1+8=(atC t+8)+1 by omega,List.drop_succ_cons]
  have e3:(3::t).drop (A+8+al+2)=t.drop (atC t+8+al+2):=by rw[←eat,show atC t+1+8+al+2=(atC t+8+al+2)+1 by omega,List.drop_succ_cons]
  rw[htr,hnp,ealC,←hst,e1,e2,e3]
structure CWraps (np n A np32 A6 A8:Nat):Prop where
 wn:wrap64 (np:Int)=(np:Int)
 wa:wrap64 (32 * (np:Int))=(np32:Int)
 wb:wrap64 (34+(np32:Int))=(A:Int)
 wc:wrap64 ((A:Int)+8)=(A8:Int)
 w6:wrap64 ((A:Int)+6)=(A6:Int)
 d8:decide ((n:Int)<(A8:Int))=false
 d8':decide (n<A8)=false
theorem cwraps {np n A np32 A6 A8:Nat} (h1:np≤2) (h2:34+32 * np=A) (h3:32 * np=np32) (h4:A+6=A6) (h5:A+8=A8) (h6:A8≤n) (h7:n≤1000000):CWraps np n A np32 A6 A8:=
 ⟨w64 _ (by omega),by rw[show 32 * (np:Int)=(np32:Int) by omega];exact w64 _ (by omega),by rw[show (34:Int)+(np32:Int)=(A:Int) by omega];exact w64 _ (by omega),
  by rw[show (A:Int)+8=(A8:Int) by omega];exact w64 _ (by omega),by rw[show (A:Int)+6=(A6:Int) by omega];exact w64 _ (by omega),decide_eq_false (by omega),decide_eq_false (by omega)⟩
structure CWraps2 (n A8 q8 al al2 B r1 r2 P:Nat):Prop where
 a:wrap64 ((n:Int) - (A8:Int))=(q8:Int)
 b:wrap64 ((al:Int)+2)=(al2:Int)
 c:wrap64 ((A8:Int)+(al:Int))=(B:Int)
 d:wrap64 ((q8:Int) - (al:Int))=(r1:Int)
 e:wrap64 ((r1:Int) - 2)=(r2:Int)
 f:wrap64 ((B:Int)+2)=(P:Int)
theorem cwraps2 {n A8 q8 al al2 B r1 r2 P:Nat} (h1:q8+A8=n) (h2:al+2=al2) (h3:A8+al=B) (h4:r1+al=q8) (h5:r2+2=r1) (h6:B+2=P) (h7:n≤1000000):CWraps2 n A8 q8 al al2 B r1 r2 P:=by
 refine⟨?_,?_,?_,?_,?_,?_⟩
 ·rw[show (n:Int) - (A8:Int)=(q8:Int) by omega];exact w64 _ (by omega)
 ·rw[show (al:Int)+2=(al2:Int) by omega];exact w64 _ (by omega)
 ·rw[show (A8:Int)+(al:Int)=(B:Int) by omega];exact w64 _ (by omega)
 ·rw[show (q8:Int) - (al:Int)=(r1:Int) by omega];exact w64 _ (by omega)
 ·rw[show (r1:Int) - 2=(r2:Int) by omega];exact w64 _ (by omega)
 ·rw[show (B:Int)+2=(P:Int) by omega];exact w64 _ (by omega)
theorem cwrap1 {j:Nat} (h:j≤1000):wrap64 ((j:Int)+1)=((j+1:Nat):Int):=by rw[show (j:Int)+1=((j+1:Nat):Int) by omega];exact w64 _ (by omega)
theorem cwrap32 {p p2:Nat} (h:p+32=p2) (h2:p2≤1000000):IntKind.i64.wrap ((p:Int)+32)=(p2:Int)∧wrap64 ((p:Int)+32)=(p2:Int):=
 ⟨by rw[show (p:Int)+32=(p2:Int) by omega];exact wrap_i64_nat _ (by omega),by rw[show (p:Int)+32=(p2:Int) by omega];exact w64 _ (by omega)⟩
theorem ccuts {cap A8 B al n:Nat} (h1:A8+al=B) (h2:B+2≤n) (h3:n≤cap):¬cap=A8∧A8≤B∧(A8:Int)≤(B:Int)∧B≤cap∧(B:Int)≤(cap:Int)∧B - A8=al∧B≤n∧(B:Int)≤(n:Int):=by
 refine⟨?_,?_,?_,?_,?_,?_,?_,?_⟩ <;> omega
theorem ccut32 {cap p p2 n:Nat} (h1:p+32=p2) (h2:p2≤n) (h3:n≤cap):¬cap=p∧p≤p2∧(p:Int)≤(p2:Int)∧p2≤cap∧(p2:Int)≤(cap:Int)∧p2 - p=32:=by
 refine⟨?_,?_,?_,?_,?_,?_⟩ <;> omega
structure CShort (n A8 q8 al al2:Nat):Prop where
 a:wrap64 ((n:Int) - (A8:Int))=(q8:Int)
 b:wrap64 ((al:Int)+2)=(al2:Int)
 d:decide ((q8:Int)<(al2:Int))=true
 d':decide (q8<al2)=true
theorem cshort {n A8 q8 al al2:Nat} (h1:q8+A8=n) (h2:al+2=al2) (h3:n≤1000000) (h4:al<65536) (h5:q8<al2):CShort n A8 q8 al al2:=
 ⟨by rw[show (n:Int) - (A8:Int)=(q8:Int) by omega];exact w64 _ (by omega),by rw[show (al:Int)+2=(al2:Int) by omega];exact w64 _ (by omega),decide_eq_true (by omega),decide_eq_true h5⟩
theorem cno {t:List UInt8} {n np A al tl st A8 q8:Nat} {tr:List UInt8} (h:CParts t n np A al tl st tr) (h1:A+8=A8) (h2:q8+A8=n) (h3:q8<al+2):¬refComm (3::t):=fun hr=>by
 have h4:=(h.iff.1 hr).1
 omega
theorem ciff {t:List UInt8} {n np A al tl st A8 q8 r1 r2:Nat} {tr:List UInt8} (h:CParts t n np A al tl st tr) (h1:A+8=A8) (h2:q8+A8=n) (h3:r1+al=q8) (h4:r2+2=r1):refComm (3::t)↔r2=tl∧mayComm (refCommD t)=true:=by
 rw[h.iff]
 constructor
 ·rintro⟨-,a,b⟩;exact⟨by omega,b⟩
 ·rintro⟨a,b⟩;exact⟨by omega,by omega,b⟩
structure CWr (np A np32 A8:Nat):Prop where
 wn:wrap64 (np:Int)=(np:Int)
 wa:wrap64 (32 * (np:Int))=(np32:Int)
 wb:wrap64 (34+(np32:Int))=(A:Int)
 wc:wrap64 ((A:Int)+8)=(A8:Int)
theorem cwr {np A np32 A8:Nat} (h1:np≤2) (h2:34+32 * np=A) (h3:32 * np=np32) (h5:A+8=A8):CWr np A np32 A8:=
 ⟨w64 _ (by omega),by rw[show 32 * (np:Int)=(np32:Int) by omega];exact w64 _ (by omega),by rw[show (34:Int)+(np32:Int)=(A:Int) by omega];exact w64 _ (by omega),
  by rw[show (A:Int)+8=(A8:Int) by omega];exact w64 _ (by omega)⟩
theorem cex {q8 al:Nat} (h:¬q8<al+2):∃r1 r2,r1+al=q8∧r2+2=r1:=⟨q8 - al,q8 - al - 2,by omega,by omega⟩
structure CFin (n A8 q8 al al2 B r1 r2 P cap:Nat):Prop where
 e:P+r2=n
 f:P≤n
 fi:(P:Int)≤(n:Int)
 g:B+2≤n
 g2:A8+al+2≤n
 d:decide ((q8:Int)<(al2:Int))=false
 d':decide (q8<al2)=false
theorem cfin {n A8 q8 al al2 B r1 r2 P cap:Nat} (h1:q8+A8=n) (h2:al+2=al2) (h3:A8+al=B) (h4:r1+al=q8) (h5:r2+2=r1) (h6:B+2=P):CFin n A8 q8 al al2 B r1 r2 P cap:=
 ⟨by omega,by omega,by omega,by omega,by omega,decide_eq_false (by omega),decide_eq_false (by omega)⟩
set_option maxRecDepth 100000 in
theorem asComm_any (w:World) (v:Value) (b:List UInt8) (n:Nat) (hn:b.length=n) (hv:Sees w 1 v n (Bs b)) (hb:n≤1000000):
  Calls Tryz.prog 85 #[v] w (AsCommEnd w b):=by
 obtain⟨K,hK⟩:∃K,w.heap.size=K:=⟨_,rfl⟩
 have hc0:Chg [] w (w.alloc (.cells #[.string ⟨#[]⟩,.slice none 0 0,.int .i64 0,.string ⟨#[]⟩,.string ⟨#[]⟩] 155)):=(Chg.refl [] w).alloc _
 have hbK:Blk (w.alloc (.cells #[.string ⟨#[]⟩,.slice none 0 0,.int .i64 0,.string ⟨#[]⟩,.string ⟨#[]⟩] 155)) K #[.string ⟨#[]⟩,.slice none 0 0,.int .i64 0,.string ⟨#[]⟩,.string ⟨#[]⟩] 155:=Blk.new_at w _ _ hK
 have aT:ArrTy Tryz.prog 155 (#[.string ⟨#[]⟩,.slice none 0 0,.int .i64 0,.string ⟨#[]⟩,.string ⟨#[]⟩]:Array Value).size:=rcomm_ty
 by_cases h34:n<34
 ·have t1:decide ((n:Int)<34)=true:=by simp;omega
  have hr:¬refComm b:=by
   match b,hn with
   | [],_=>rintro⟨t,h,-⟩;cases h
   | k::t,hn=>
    rw[refComm_cons]
    rintro⟨-,h,-⟩
    have h1:=h.len
    unfold atC at h1
    simp only[List.length_cons] at hn
    omega
  obtain⟨ao,cap,rfl,-⟩:=hv.shape
  have HC0:=zC hc0 hbK hK hr
  clear hv hb hc0 hbK hr h34 hn
  go_enter Tryz.func85,Tryz.ntmps85
  go_wp2_with fail
  refine bodyPost_ret (results_AT rfl _ _ HC0.out.2.1 aT rfl) rfl ?_
  exact AsCommEnd.no (c:=commZ) HC0.out.2.2.2 HC0.out.1
 ·match b,hn,hv with
  | [],hn,hv=>simp at hn;omega
  | k::t,hn,hv=>
  have hp:0<n:=by omega
  obtain⟨g,off,cap,rfl,hcap,hcell⟩:=hv.at1 hp
  have htl:t.length=n - 1:=by simp only[List.length_cons] at hn;omega
  obtain⟨np,hnp⟩:∃np,npC t=np:=⟨_,rfl⟩
  have hnp255:np<256:=by rw[←hnp];exact UInt8.toNat_lt _
  have hc33:w.cell? ⟨g,off+33,none⟩=some (.int .u8 (np:Int)):=by
   rw[hcell 33 (by omega),Bs_get _ 33 (by rw[hn];omega),←hnp]
   unfold npC
   simp[List.getD,show 32<t.length by omega]
  have m0:(w.alloc (.cells #[.string ⟨#[]⟩,.slice none 0 0,.int .i64 0,.string ⟨#[]⟩,.string ⟨#[]⟩] 155)).cell? ⟨g,off,none⟩=some (.int .u8 (k.toNat:Int)):=hc0.cell_some (hcell 0 hp) (by simp)
  have m33:(w.alloc (.cells #[.string ⟨#[]⟩,.slice none 0 0,.int .i64 0,.string ⟨#[]⟩,.string ⟨#[]⟩] 155)).cell? ⟨g,off+33,none⟩=some (.int .u8 (np:Int)):=hc0.cell_some hc33 (by simp)
  have t1:decide ((n:Int)<34)=false:=by simp;omega
  have t2:(0:Int)<(n:Int):=by omega
  have t33:(33:Int)<(n:Int):=by omega
  have t33':33<n:=by omega
  by_cases h3:k=3
  ·subst h3
   have k1:(((3:UInt8).toNat:Int) != 3)=false:=rfl
   by_cases hn2:np≤2
   ·have n1:decide (2<(np:Int))=false:=by simp;omega
    have n1':decide (2<np)=false:=by simp;omega
    obtain⟨A,hA⟩:∃A,34+32 * np=A:=⟨_,rfl⟩
    by_cases h8:n<A+8
    ·have hr:¬refComm (3::t):=by
      rw[refComm_cons]
      rintro⟨-,h,-⟩
      have h1:=h.len
      unfold atC at h1
      rw[hnp] at h1
      omega
     obtain⟨np32,hnp32⟩:∃np32,32 * np=np32:=⟨_,rfl⟩
     obtain⟨A8,hA8⟩:∃A8,A+8=A8:=⟨_,rfl⟩
     have d8:decide ((n:Int)<(A8:Int))=true:=decide_eq_true (by omega)
     have d8':decide (n<A8)=true:=decide_eq_true (by omega)
     have HCW:=zH (cwr hn2 hA hnp32 hA8)
     have HC0:=zC hc0 hbK hK hr
     clear hv hb hc0 hbK hr h34 hn htl hcell h8 hn2 hA hnp hnp255 hc33 hA8 hnp32
     have wn:=HCW.out.wn
     have wa:=HCW.out.wa
     have wb:=HCW.out.wb
     have wc:=HCW.out.wc
     go_enter Tryz.func85,Tryz.ntmps85
     go_wp2_with fail
     refine bodyPost_ret (results_AT rfl _ _ HC0.out.2.1 aT rfl) rfl ?_
     exact AsCommEnd.no (c:=commZ) HC0.out.2.2.2 HC0.out.1
    ·obtain⟨tr,htr⟩:∃tr,hexL (t.take 32)=tr:=⟨_,rfl⟩
     obtain⟨st,hst⟩:∃st,beVal (((3::t).drop A).take 6)=st:=⟨_,rfl⟩
     obtain⟨al,hal⟩:∃al,beVal (((3::t).drop (A+6)).take 2)=al:=⟨_,rfl⟩
     obtain⟨tl,htl2⟩:∃tl,beVal (((3::t).drop (A+8+al)).take 2)=tl:=⟨_,rfl⟩
     have HCP:=zH (cparts htl h34 hnp hn2 hA h8 htr hst hal htl2)
     have hvv:∀w',Chg [] w w'→Sees w' 1 (.slice (some ⟨g,off,none⟩) n cap) n (Bs (3::t)):=fun w' c=>hv.chg0 c
     have HV:=zH hvv
     have hA8n:A+8≤n:=Nat.le_of_not_lt h8
     have hxt:=refHex_any _ (.slice (some ⟨g,off+1,none⟩) 32 (cap - 1)) 32 (t.take 32) ((hvv _ hc0).cut (p:=1) (m:=32) (by omega) (by omega) hcap) (by decide)
     rw[htr] at hxt
     have hn6:=fun w' (c:Chg [] w w')=>rnum_ok w' _ n A 6 (3::t) (hvv w' c) (by decide) (by decide) (by omega) (by omega)
     have hnA:=fun w' (c:Chg [] w w')=>rnum_ok w' _ n (A+6) 2 (3::t) (hvv w' c) (by decide) (by decide) (by omega) (by omega)
     have hnT:=fun w' (c:Chg [] w w') (h:A+8+al+2≤n)=>rnum_ok w' _ n (A+8+al) 2 (3::t) (hvv w' c) (by decide) (by decide) h (by omega)
     rw[hst] at hn6
     rw[hal] at hnA
     rw[htl2] at hnT
     obtain⟨np32,hnp32⟩:∃np32,32 * np=np32:=⟨_,rfl⟩
     obtain⟨A6,hA6⟩:∃A6,A+6=A6:=⟨_,rfl⟩
     obtain⟨A8,hA8⟩:∃A8,A+8=A8:=⟨_,rfl⟩
     obtain⟨q8,hq8⟩:∃q8,q8+A8=n:=⟨n - A8,by omega⟩
     have HCW:=zH (cwraps hn2 hA hnp32 hA6 hA8 (by omega) hb)
     rw[hA8] at hnT
     rw[hA6] at hnA
     have HN:Hid (np≤2∧34+32 * np=A∧A+6=A6∧A+8=A8∧q8+A8=n∧n≤cap∧n≤1000000):=⟨hn2,hA,hA6,hA8,hq8,hcap,hb⟩
     have HNC:=zB hn6 hnA hnT
     have HM33:=zH hc33
     have HC0:=zB hc0 hbK hK
     have HLT:Hid ((3::t).length=n):=hn
     have n2:¬cap=1:=by omega
     have n3:(33:Int)≤(n:Int):=by omega
     have n3':33≤n:=by omega
     clear hv hvv hb hc0 hbK h34 hn htl hcell h8 hn2 hA hnp hnp255 hc33 hn6 hnA hnT htr hst hal htl2 hA6 hA8 hq8 hnp32 hA8n
     have wn:=HCW.out.wn
     have wa:=HCW.out.wa
     have wb:=HCW.out.wb
     have wc:=HCW.out.wc
     have w6:=HCW.out.w6
     have d8:=HCW.out.d8
     have d8':=HCW.out.d8'
     go_enter Tryz.func85,Tryz.ntmps85
     go_wp2_with fail
     clear wa wb wc w6 wn d8 d8' k1 t1 t2
     refine hxt.mono ?_
     rintro e w1 ⟨rfl,c1⟩
     have hbK1:=HC0.out.2.1.chg0 c1
     have ct1:=HC0.out.1.nil c1
     obtain⟨K2,hK2⟩:∃K2,w1.heap.size=K2:=⟨_,rfl⟩
     have cb:Chg [] w1 (w1.alloc (.cells #[.string (str tr),.slice none 0 0,.int .i64 0,.string ⟨#[]⟩,.string ⟨#[]⟩] 155)):=(Chg.refl [] w1).alloc _
     have hb2:Blk (w1.alloc (.cells #[.string (str tr),.slice none 0 0,.int .i64 0,.string ⟨#[]⟩,.string ⟨#[]⟩] 155)) K2 #[.string (str tr),.slice none 0 0,.int .i64 0,.string ⟨#[]⟩,.string ⟨#[]⟩] 155:=Blk.new_at w1 _ _ hK2
     have hz2:(w1.alloc (.cells #[.string (str tr),.slice none 0 0,.int .i64 0,.string ⟨#[]⟩,.string ⟨#[]⟩] 155)).heap.size=K2+1:=by simp[hK2]
     have hKK:K<K2:=by have:=hbK1.lt;omega
     have hbK2:=hbK1.chg0 cb
     have ct2:=ct1.nil cb
     have HB2:=zD hb2 hbK2 ct2 hKK hz2
     clear hxt m0 m33 c1 hbK1 ct1 cb hb2 hbK2 ct2 hKK hz2
     go_wp2_with fail
     generalize w1.alloc (.cells #[.string (str tr),.slice none 0 0,.int .i64 0,.string ⟨#[]⟩,.string ⟨#[]⟩] 155)=w2 at *
     go_loopg [5,6] np (fun gk v5 v6 wr=>∃(j p:Nat) (ao3:Option Addr) (cap3:Nat),v5=.int .i64 (p:Int)∧v6=.int .i64 (j:Int)∧Hid (gk=np - j∧j≤np∧p=34+32 * j∧KeyI w2 wr K2 #[.string (str tr)] #[.int .i64 0,.string ⟨#[]⟩,.string ⟨#[]⟩] 155 (.slice ao3 j cap3) (chunkN j (t.drop 33))))
     case atStart=>exact⟨0,34,none,0,rfl,rfl,by omega,by omega,rfl,HB2.out.1,Aq.Own.nil _ _ _,by simp[Value.ownBlock],Chg.refl _ _⟩
     case round=>
      obtain⟨j,p,ao3,cap3,rfl,rfl,HJ⟩:=hrel
      have ctr:Chg [] w wr:=HB2.out.2.2.1.trans HJ.out.2.2.2.chg (fun k hk=>by simp at hk;right;have h1:=HB2.out.2.2.2.1;have h2:=HC0.out.2.2;omega)
      have hbr:Blk wr K2 #[.string (str tr),.slice ao3 j cap3,.int .i64 0,.string ⟨#[]⟩,.string ⟨#[]⟩] 155:=HJ.out.2.2.2.blk
      have hcl:(chunkN j (t.drop 33)).length=j:=chunkN_len _ _
      have hOr:=HJ.out.2.2.2.own
      rw[hcl] at hOr
      have m33:wr.cell? ⟨g,off+33,none⟩=some (.int .u8 (np:Int)):=ctr.cell_some HM33.out (by simp)
      by_cases hjq:j<np
      ·have t3:decide ((j:Int)<(np:Int))=true:=decide_eq_true (by omega)
       have t3':decide (j<np)=true:=decide_eq_true hjq
       obtain⟨S,hS⟩:∃S,(Value.slice ao3 j cap3).ownBlock.toList=S:=⟨_,rfl⟩
       have HS:=zH hS
       have HF:Hid ((∀k∈(Value.slice ao3 j cap3).ownBlock.toList,K2<k)∧Chg [K2] w2 wr):=⟨HJ.out.2.2.2.far,HJ.out.2.2.2.chg⟩
       have hKS:K2∉S:=fun h=>by have:=HJ.out.2.2.2.far K2 (by rw[hS];exact h);omega
       have HTR:=zH ctr
       obtain⟨p2,hp2⟩:∃p2,p+32=p2:=⟨_,rfl⟩
       have hpp:p2≤n:=by have h1:=HJ.out.2.2.1;have h2:=HN.out;omega
       have hnb:n≤1000000:=HN.out.2.2.2.2.2.2
       have HP:=zB hp2 hpp hjq
       have HRW:=zH (cwrap32 hp2 (Nat.le_trans hpp hnb))
       have HWJ:=zH (cwrap1 (j:=j) (by have:=HN.out.1;omega))
       have wn:=HCW.out.wn
       clear hp2 hpp hnb hjq hS hcl
       go_upto_region 8 with (fail)
       clear wn
       obtain⟨q1,q2,q2',q3,q3',q4⟩:=ccut32 (cap:=cap) HP.out.1 HP.out.2.1 HN.out.2.2.2.2.2.1
       have HSl:Hid (Sees wr.drew 1 (.slice (some ⟨g,off+p,none⟩) 32 (cap - p)) 32 (Bs (((3::t).drop p).take 32))):=
        (HV.out wr.drew (HTR.out.nil ((Chg.refl [] wr).drew))).cut (by rw[HP.out.1];exact HP.out.2.1) q1 HN.out.2.2.2.2.2.1
       obtain⟨w1a,w2a⟩:=HRW.out
       refine wp_region_E (K2::S) (by kernel_rfl) ?_
       have cd:Chg [] wr wr.drew:=(Chg.refl _ _).drew
       have hbE:=hbr.chg0 cd
       have hOE:=Aq.Own.chg hOr cd (fun _ _=>by simp)
       have HCD:=zH cd
       clear hbr hOr ctr cd m33
       generalize wr.drew=wE at *
       have C0:Chg (K2::S) wE wE:=Chg.refl _ _
       have y4:wE.cell? ⟨K2,1,none⟩=some (.slice ao3 j cap3):=hbE.cell 1
       refine tE 0 (.pointer (some ⟨K2,1,none⟩)) C0 (fun w4 c4=>?_) ?_
       ·go_simp
       try simp only[Act.put,yA,yB,yC,yD,yE,yF]
       refine tE 2 (.slice (some ⟨g,off,none⟩) n cap) C0 (fun w4 c4=>?_) ?_
       ·go_simp
       try simp only[Act.put,yA,yB,yC,yD,yE,yF]
       refine tE 3 (.int .i64 (p:Int)) C0 (fun w4 c4=>?_) ?_
       ·go_simp
       try simp only[Act.put,yA,yB,yC,yD,yE,yF]
       refine tE 4 (.int .i64 (p:Int)) C0 (fun w4 c4=>?_) ?_
       ·go_simp
       try simp only[Act.put,yA,yB,yC,yD,yE,yF]
       refine tE 5 (.int .i64 (p2:Int)) C0 (fun w4 c4=>?_) ?_
       ·go_simp
       try simp only[Act.put,yA,yB,yC,yD,yE,yF]
       refine tE 6 (.slice (some ⟨g,off+p,none⟩) 32 (cap - p)) C0 (fun w4 c4=>?_) ?_
       ·go_simp
       try simp only[Act.put,yA,yB,yC,yD,yE,yF]
       refine tE 10 (.int .i64 (p:Int)) C0 (fun w4 c4=>?_) ?_
       ·go_simp
       try simp only[Act.put,yA,yB,yC,yD,yE,yF]
       refine tE 11 (.int .i64 (p2:Int)) C0 (fun w4 c4=>?_) ?_
       ·go_simp
       try simp only[Act.put,yA,yB,yC,yD,yE,yF]
       have HCC0:=zH C0
       refine wpAnyE_two 1 7 rfl rfl (by kernel_rfl) (by rfl) (by rfl) ?gA ?gB
       case' gA=>
        have HL1:=zH C0
        clear C0
        go_simp
        have C0:=HL1.out
        refine⟨C0,?_⟩
        clear HL1
        try simp only[Act.put,yA,yB,yC,yD,yE,yF]
        refine oE 7 ?_
        go_simp
        refine (refHex_any wE _ 32 _ HSl.out (by decide)).mono ?_
        rintro e w7 ⟨rfl,c7⟩
        refine⟨c7.toS,?_⟩
        obtain⟨kx,hkx⟩:∃kx,hexL (((3::t).drop p).take 32)=kx:=⟨_,rfl⟩
        rw[hkx]
        have HKX:=zH hkx
        clear hkx
        have hO7:=Aq.Own.chg hOE c7 (fun _ _=>by simp)
        have hb7:=hbE.chg0 c7
        have c7S:Chg (K2::S) wE w7:=c7.toS
        clear hOE hbE c7
        try simp only[Act.put,yA,yB,yC,yD,yE,yF]
        refine oE 8 ?_
        go_simp
        have hs8:Sees (w7.alloc (.cells #[.string (str kx)] 9)) 1 (.slice (some ⟨w7.heap.size,0,none⟩) 1 1) 1 (names [kx]):=Sees.row (Blk.new w7 #[.string (str kx)] 9) (m:=1) rfl
        have c8:Chg [] w7 (w7.alloc (.cells #[.string (str kx)] 9)):=(Chg.refl _ _).alloc _
        have hO8:=Aq.Own.chg hO7 c8 (fun _ _=>by simp)
        have hb8:=hb7.chg0 c8
        have c8S:=c7S.nil c8
        refine⟨c8S,?_⟩
        generalize w7.alloc (.cells #[.string (str kx)] 9)=w8 at *
        obtain⟨A8',hA8'⟩:∃A8',w7.heap.size=A8':=⟨_,rfl⟩
        rw[hA8'] at hs8
        try rw[hA8']
        clear hA8' c8 hO7 hb7 c7S
        try simp only[Act.put,yA,yB,yC,yD,yE,yF]
       case' gB=>
        go_simp
        refine (refHex_any wE _ 32 _ HSl.out (by decide)).mono ?_
        rintro e w7 ⟨rfl,c7⟩
        refine⟨c7.toS,?_⟩
        obtain⟨kx,hkx⟩:∃kx,hexL (((3::t).drop p).take 32)=kx:=⟨_,rfl⟩
        rw[hkx]
        have HKX:=zH hkx
        clear hkx
        have hO7:=Aq.Own.chg hOE c7 (fun _ _=>by simp)
        have hb7:=hbE.chg0 c7
        have c7S:Chg (K2::S) wE w7:=c7.toS
        clear hOE hbE c7
        try simp only[Act.put,yA,yB,yC,yD,yE,yF]
        have y7:w7.cell? ⟨K2,1,none⟩=some (.slice ao3 j cap3):=hb7.cell 1
        refine wpAnyE_two 1 8 rfl rfl (by kernel_rfl) (by rfl) (by rfl) ?gC ?gD
        case' gC=>
         have HL1:=zH c7S
         clear c7S
         go_simp
         have c7S:=HL1.out
         refine⟨c7S,?_⟩
         clear HL1
         try simp only[Act.put,yA,yB,yC,yD,yE,yF]
         clear y7
         refine oE 8 ?_
         go_simp
         have hs8:Sees (w7.alloc (.cells #[.string (str kx)] 9)) 1 (.slice (some ⟨w7.heap.size,0,none⟩) 1 1) 1 (names [kx]):=Sees.row (Blk.new w7 #[.string (str kx)] 9) (m:=1) rfl
         have c8:Chg [] w7 (w7.alloc (.cells #[.string (str kx)] 9)):=(Chg.refl _ _).alloc _
         have hO8:=Aq.Own.chg hO7 c8 (fun _ _=>by simp)
         have hb8:=hb7.chg0 c8
         have c8S:=c7S.nil c8
         refine⟨c8S,?_⟩
         generalize w7.alloc (.cells #[.string (str kx)] 9)=w8 at *
         obtain⟨A8',hA8'⟩:∃A8',w7.heap.size=A8':=⟨_,rfl⟩
         rw[hA8'] at hs8
         try rw[hA8']
         clear hA8' c8 hO7 hb7 c7S
         try simp only[Act.put,yA,yB,yC,yD,yE,yF]
        case' gD=>
         go_simp
         have hs8:Sees (w7.alloc (.cells #[.string (str kx)] 9)) 1 (.slice (some ⟨w7.heap.size,0,none⟩) 1 1) 1 (names [kx]):=Sees.row (Blk.new w7 #[.string (str kx)] 9) (m:=1) rfl
         have c8:Chg [] w7 (w7.alloc (.cells #[.string (str kx)] 9)):=(Chg.refl _ _).alloc _
         have hO8:=Aq.Own.chg hO7 c8 (fun _ _=>by simp)
         have hb8:=hb7.chg0 c8
         have c8S:=c7S.nil c8
         refine⟨c8S,?_⟩
         generalize w7.alloc (.cells #[.string (str kx)] 9)=w8 at *
         obtain⟨A8',hA8'⟩:∃A8',w7.heap.size=A8':=⟨_,rfl⟩
         rw[hA8'] at hs8
         try rw[hA8']
         clear hA8' c8 hO7 hb7 c7S
         try simp only[Act.put,yA,yB,yC,yD,yE,yF]
         have y8:w8.cell? ⟨K2,1,none⟩=some (.slice ao3 j cap3):=hb8.cell 1
         refine oE 1 ?_
         have HL1:=zH c8S
         clear c8S
         go_simp
         have c8S:=HL1.out
         refine⟨c8S,?_⟩
         clear HL1
         try simp only[Act.put,yA,yB,yC,yD,yE,yF]
         clear y8
       all_goals
        refine oE 9 ?_
        clear w1a w2a
        refine wp_app _ _ 33 rfl sl_keys hO8 rfl hs8 rfl (by simp[names,Value.oneCell']) (by have h2:=HP.out.2.2;have h3:=HN.out.1;omega) (by have h2:=HP.out.2.2;have h3:=HN.out.1;omega) ?_
        intro v9 w9 ho9 c9 n9
        rw[HS.out] at c9 n9
        have c9S:Chg (K2::S) wE w9:=c8S.trans c9 (fun k hk=>.inl (List.mem_cons_of_mem _ hk))
        refine⟨c9S,?_⟩
        have hb9:=hb8.chg c9 hKS
        have hn9:∀k∈v9.ownBlock.toList,K2<k:=fun k hk=>by
         rcases n9 k hk with h | h
         ·exact HF.out.1 k (by rw[HS.out];exact h)
         ·have h1:=hb8.lt;omega
        obtain⟨ao9,cap9,rfl,-⟩:=ho9.sees.shape
        have x9:w9.cell? ⟨K2,1,none⟩=some (.slice ao3 j cap3):=hb9.cell 1
        have f9:w9.frozen? ⟨K2,1,none⟩=false:=hb9.frozen 1
        have c11:Chg [K2] w9 (w9.setCell ⟨K2,1,none⟩ (.slice ao9 (j+1) cap9)):=(Chg.refl _ _).setCell (by simp) _
        have c11S:Chg (K2::S) wE (w9.setCell ⟨K2,1,none⟩ (.slice ao9 (j+1) cap9)):=c9S.trans c11 (fun k hk=>.inl (by simp at hk;simp[hk]))
        have HC11:=zH c11S
        try simp only[Act.put,yA,yB,yC,yD,yE,yF]
        refine tE 12 (.pointer (some ⟨K2,1,none⟩)) c9S (fun w4 c4=>?_) ?_
        ·go_simp
        try simp only[Act.put,yA,yB,yC,yD,yE,yF]
        clear c11S
        refine oE 13 ?_
        go_simp
        refine⟨HC11.out,?_⟩
        try simp only[Act.put,yA,yB,yC,yD,yE,yF]
        refine tE 14 (.int .i64 (p2:Int)) HC11.out (fun w4 c4=>?_) ?_
        ·go_simp
        try simp only[Act.put,yA,yB,yC,yD,yE,yF]
        refine wpAnyE_done (by kernel_rfl) ?_ _
        have hb11:=hb9.set 1 (.slice ao9 (j+1) cap9)
        have ho11:=Aq.Own.chg ho9 c11 (fun k hk hk'=>by simp at hk';have:=hn9 k hk;omega)
        have HRr:=zD hb11 c11 ho11 hn9 c9S
        generalize w9.setCell ⟨K2,1,none⟩ (.slice ao9 (j+1) cap9)=w11 at *
        clear hb11 c11 ho11 hn9 c9S hb9 hs8 hb8 hO8 c8S c9 n9 ho9 x9 f9 y4 C0
        go_wp2_with fail
        go_roundg (gk - 1)
        case measure=>have:=HJ.out.1;have:=HP.out.2.2;omega
        case rel=>
         have hx:kx=hexL (((t.drop 33).drop (32 * j)).take 32):=by
          rw[←HKX.out,HJ.out.2.2.1,show 34+32 * j=(33+32 * j)+1 by omega,List.drop_succ_cons,List.drop_drop]
         refine⟨j+1,p2,ao9,cap9,rfl,by rw[HWJ.out],by have:=HJ.out.1;omega,HP.out.2.2,by have h1:=HJ.out.2.2.1;have h2:=HP.out.1;omega,?_,?_,HRr.out.2.2.2.1,?_⟩
         ·exact HRr.out.1
         ·rw[chunk_snoc,←hx,List.length_append,chunkN_len]
          have e:names (chunkN j (t.drop 33)++[kx])=names (chunkN j (t.drop 33))++names [kx]:=by simp[names]
          rw[e]
          exact HRr.out.2.2.1
         ·refine ((HF.out.2.nil HCD.out).trans HRr.out.2.2.2.2 (fun k hk=>?_)).trans HRr.out.2.1 (fun k hk=>.inl hk)
          rcases List.mem_cons.1 hk with rfl | hk
          ·exact .inl (by simp)
          ·have h1:=HF.out.1 k (by rw[HS.out];exact hk)
           have h2:=HB2.out.2.2.2.2
           exact .inr (by omega)
      ·have t3:decide ((j:Int)<(np:Int))=false:=decide_eq_false (by omega)
       have t3':decide (j<np)=false:=decide_eq_false hjq
       have hjq':j=np:=by have:=HJ.out.2.1;omega
       have hpA:p=A:=by have h1:=HJ.out.2.2.1;have h2:=HN.out.2.1;omega
       subst hjq' hpA
       have hbKr:=HB2.out.2.1.chg HJ.out.2.2.2.chg (by have:=HB2.out.2.2.2.1;simp;omega)
       have HFar:Hid (∀k∈(Value.slice ao3 j cap3).ownBlock.toList,K2<k):=HJ.out.2.2.2.far
       have hn6:=HNC.out.1 wr ctr
       have x2:wr.cell? ⟨K2,2,none⟩=some (.int .i64 0):=hbr.cell 2
       have f2:wr.frozen? ⟨K2,2,none⟩=false:=hbr.frozen 2
       have c2:Chg [K2] wr (wr.setCell ⟨K2,2,none⟩ (.int .i64 (st:Int))):=(Chg.refl _ _).setCell (by simp) _
       have hb5:Blk (wr.setCell ⟨K2,2,none⟩ (.int .i64 (st:Int))) K2 #[.string (str tr),.slice ao3 j cap3,.int .i64 (st:Int),.string ⟨#[]⟩,.string ⟨#[]⟩] 155:=hbr.set 2 _
       have hbK5:=hbKr.chg c2 (by have:=HB2.out.2.2.2.1;simp;omega)
       have hO5:=Aq.Own.chg hOr c2 (fun k hk hk'=>by simp at hk';have:=HFar.out k hk;omega)
       have ct5:=ctr.trans c2 (fun k hk=>by simp at hk;right;have h1:=HB2.out.2.2.2.1;have h2:=HC0.out.2.2;omega)
       have HX5:=zC hb5 hbK5 hO5 ct5
       have wn:=HCW.out.wn
       clear hbr hOr hbKr hcl c2 hb5 hbK5 hO5 ct5 hjq ctr
       go_wp2_with fail
       clear wn t3 t3'
       refine hn6.mono ?_
       rintro e w4 ⟨rfl,rfl⟩
       have hnA:=HNC.out.2.1 _ HX5.out.2.2.2
       have w6:=HCW.out.w6
       clear hn6
       go_wp2_with fail
       clear w6 x2 f2 m33
       generalize w4.setCell ⟨K2,2,none⟩ (.int .i64 (st:Int))=w5 at *
       refine hnA.mono ?_
       rintro e w6 ⟨rfl,rfl⟩
       clear hnA
       by_cases hq:q8<al+2
       ·obtain⟨al2,hal2⟩:∃al2,al+2=al2:=⟨_,rfl⟩
        have hlt2:q8<al2:=hal2▸hq
        have hCS:=cshort (n:=n) (A8:=A8) (q8:=q8) HN.out.2.2.2.2.1 hal2 HN.out.2.2.2.2.2.2 HCP.out.al2 hlt2
        clear hlt2
        obtain⟨e1,e2,e3,e3'⟩:=hCS
        have hno:Hid (¬refComm (3::t)):=cno HCP.out HN.out.2.2.2.1 HN.out.2.2.2.2.1 hq
        have hbK6:=HX5.out.2.1
        have ct6:=HX5.out.2.2.2
        have wc:=HCW.out.wc
        clear hq hal2
        go_wp2_with (with_reducible refine wpList_stA rfl 155 _ _ rfl hbK6 aT rfl (by simp[Value.oneCell']) rfl rfl ?_;intro w20 hb20 c20 hs20)
        refine bodyPost_ret (results_AT rfl _ _ hb20 aT rfl) rfl ?_
        exact AsCommEnd.no (c:=commZ) hno.out (ct6.trans c20 fun k hk=>by simp at hk;right;have:=HC0.out.2.2;omega)
       ·obtain⟨B,hB⟩:∃B,A8+al=B:=⟨_,rfl⟩
        obtain⟨r1,r2,hr1,hr2⟩:=cex hq
        obtain⟨P,hP⟩:∃P,B+2=P:=⟨_,rfl⟩
        obtain⟨al2,hal2⟩:∃al2,al+2=al2:=⟨_,rfl⟩
        have hF:=cfin (cap:=cap) HN.out.2.2.2.2.1 hal2 hB hr1 hr2 hP
        have HE:Hid (A8+al=B∧r1+al=q8∧r2+2=r1∧B+2=P∧P+r2=n∧P≤n∧(P:Int)≤(n:Int)):=⟨hB,hr1,hr2,hP,hF.e,hF.f,hF.fi⟩
        have HWr:=zH (cwraps2 (n:=n) (A8:=A8) HN.out.2.2.2.2.1 hal2 hB hr1 hr2 hP HN.out.2.2.2.2.2.2)
        have e3:=hF.d
        have e3':=hF.d'
        obtain⟨q1,q2,q2',q3,q3',q4,q5,q5'⟩:=ccuts (cap:=cap) hB hF.g HN.out.2.2.2.2.2.1
        have hnoR:=zH (ciff HCP.out HN.out.2.2.2.1 HN.out.2.2.2.2.1 hr1 hr2)
        obtain⟨au,hau⟩:∃au,((3::t).drop A8).take al=au:=⟨_,rfl⟩
        have hcv:(convert 36 9 (.slice (some ⟨g,off+A8,none⟩) al (cap - A8))).run Tryz.prog w6=.ok (.string (str au)) w6:=by
         rw[←hau]
         exact run_str8 ((HV.out w6 HX5.out.2.2.2).cut (hB▸q5) q1 HN.out.2.2.2.2.2.1)
        have haul:Hid (au.length≤1000000):=by show _≤_;rw[←hau,List.length_take];have:=HCP.out.al2;omega
        have HAU:=zH hau
        have hb5:=HX5.out.1
        have x3:w6.cell? ⟨K2,3,none⟩=some (.string ⟨#[]⟩):=hb5.cell 3
        have f3:w6.frozen? ⟨K2,3,none⟩=false:=hb5.frozen 3
        have c3:Chg [K2] w6 (w6.setCell ⟨K2,3,none⟩ (.string (str au))):=(Chg.refl _ _).setCell (by simp) _
        have hb6:Blk (w6.setCell ⟨K2,3,none⟩ (.string (str au))) K2 #[.string (str tr),.slice ao3 j cap3,.int .i64 (st:Int),.string (str au),.string ⟨#[]⟩] 155:=hb5.set 3 _
        have hbK6:=HX5.out.2.1.chg c3 (by have:=HB2.out.2.2.2.1;simp;omega)
        have hO6:=Aq.Own.chg HX5.out.2.2.1 c3 (fun k hk hk'=>by simp at hk';have:=HFar.out k hk;omega)
        have ct6:=HX5.out.2.2.2.trans c3 (fun k hk=>by simp at hk;right;have h1:=HB2.out.2.2.2.1;have h2:=HC0.out.2.2;omega)
        have hnT:=HNC.out.2.2 _ ct6 hF.g2
        have HX6:=zC hb6 hbK6 hO6 ct6
        rw[hB] at hnT
        obtain⟨u1,u2,u3,u4,u5,u6⟩:=HWr.out
        have wc:=HCW.out.wc
        clear hF hal2 hB hr1 hr2 hP hau hb5 c3 hb6 hbK6 hO6 ct6 hq
        go_wp2_with fail
        generalize w6.setCell ⟨K2,3,none⟩ (.string (str au))=w7 at *
        clear u1 u2 u3 u4 u5 u6 wc e3 e3' hcv x3 f3 q1 q2 q2' q3 q3' q4 q5 q5'
        refine hnT.mono ?_
        rintro e w8 ⟨rfl,rfl⟩
        clear hnT
        by_cases hr2:r2=tl
        ·have e4:((r2:Int) != (tl:Int))=false:=by simp[hr2]
         have HR2:=zH hr2
         have hPn:(P:Int)≤(n:Int):=HE.out.2.2.2.2.2.2
         have hPn':P≤n:=HE.out.2.2.2.2.2.1
         obtain⟨tx,htx⟩:∃tx,(3::t).drop P=tx:=⟨_,rfl⟩
         have hmt:=fun w' v hs=>rcmay_ok w' ⟨tr,chunkN j (t.drop 33),(st:Int),au,tx⟩ v j (chunkN_len _ _) hs (by have:=HN.out.1;omega) (chunkN_short _ _) HCP.out.trl haul.out (by show tx.length≤_;rw[←htx,List.length_drop,HLT.out];have:=HN.out;omega)
         have hDD:Hid (refCommD t=⟨tr,chunkN j (t.drop 33),(st:Int),au,tx⟩):=by
          show _=_
          rw[HCP.out.dat,HN.out.2.2.2.1,HE.out.1,HE.out.2.2.2.1,HAU.out,htx]
         unfold commV at hmt
         simp only at hmt
         by_cases hcP:cap=P
         case' pos=>
          have hPeq:P=n:=by have h1:=HE.out;have h2:=HN.out;omega
          have q9:(P:Int)=(n:Int):=by omega
          have hcv2:(convert 36 9 (.slice (some ⟨g,off,none⟩) (n - P) 0)).run Tryz.prog w8=.ok (.string (str tx)) w8:=by
           have h:=(HV.out w8 HX6.out.2.2.2).dropAt (k:=P) hPn' (if_pos hcP)
           rw[htx,show cap - P=0 by omega] at h
           exact run_str8 h
          clear hPeq q9
         case' neg=>
          have hcv2:(convert 36 9 (.slice (some ⟨g,off+P,none⟩) (n - P) (cap - P))).run Tryz.prog w8=.ok (.string (str tx)) w8:=by
           have h:=(HV.out w8 HX6.out.2.2.2).dropAt (k:=P) hPn' (if_neg hcP)
           rw[htx] at h
           exact run_str8 h
         all_goals
          have hb6:=HX6.out.1
          have x4:w8.cell? ⟨K2,4,none⟩=some (.string ⟨#[]⟩):=hb6.cell 4
          have f4:w8.frozen? ⟨K2,4,none⟩=false:=hb6.frozen 4
          have c4:Chg [K2] w8 (w8.setCell ⟨K2,4,none⟩ (.string (str tx))):=(Chg.refl _ _).setCell (by simp) _
          have hb8:Blk (w8.setCell ⟨K2,4,none⟩ (.string (str tx))) K2 #[.string (str tr),.slice ao3 j cap3,.int .i64 (st:Int),.string (str au),.string (str tx)] 155:=hb6.set 4 _
          have hbK8:=HX6.out.2.1.chg c4 (by have:=HB2.out.2.2.2.1;simp;omega)
          have hO8:=Aq.Own.chg HX6.out.2.2.1 c4 (fun k hk hk'=>by simp at hk';have:=HFar.out k hk;omega)
          have ct8:=HX6.out.2.2.2.trans c4 (fun k hk=>by simp at hk;right;have h1:=HB2.out.2.2.2.1;have h2:=HC0.out.2.2;omega)
          have hmt1:=hmt _ _ hO8.sees
          obtain⟨y0,y1,y2,y3,y4⟩:=Blk5 hb8
          have HX8:=zC hb8 hbK8 hO8 ct8
          obtain⟨u1,u2,u3,u4,u5,u6⟩:=HWr.out
          have wc:=HCW.out.wc
          clear hmt hb6 c4 hb8 hbK8 hO8 ct8 htx hr2
          cases hM:mayComm (refCommD t) with
          | false=>
           have hno:Hid (¬refComm (3::t)):=fun h=>by have h1:=(hnoR.out.1 h).2;rw[hM] at h1;cases h1
           rw[←hDD.out,hM] at hmt1
           clear hM
           go_wp2_with fail
           generalize w8.setCell ⟨K2,4,none⟩ (.string (str tx))=w9 at *
           clear u1 u2 u3 u4 u5 u6 wc
           refine hmt1.mono ?_
           rintro e w10 ⟨rfl,c9⟩
           have hbK9:=HX8.out.2.1.chg0 c9
           have ct9:=HX8.out.2.2.2.nil c9
           clear hmt1 y0 y1 y2 y3 y4 c9
           go_wp2_with (with_reducible refine wpList_stA rfl 155 _ _ rfl hbK9 aT rfl (by simp[Value.oneCell']) rfl rfl ?_;intro w20 hb20 c20 hs20)
           refine bodyPost_ret (results_AT rfl _ _ hb20 aT rfl) rfl ?_
           exact AsCommEnd.no (c:=commZ) hno.out (ct9.trans c20 fun k hk=>by simp at hk;right;have:=HC0.out.2.2;omega)
          | true=>
           have hyes:Hid (refComm (3::t)):=hnoR.out.2 ⟨HR2.out,hM⟩
           rw[←hDD.out,hM] at hmt1
           clear hM
           go_wp2_with fail
           generalize w8.setCell ⟨K2,4,none⟩ (.string (str tx))=w9 at *
           clear u1 u2 u3 u4 u5 u6 wc
           refine hmt1.mono ?_
           rintro e w10 ⟨rfl,c9⟩
           have hbK9:=HX8.out.2.1.chg0 c9
           have ct9:=HX8.out.2.2.2.nil c9
           have HO9:=zH (Aq.Own.chg HX8.out.2.2.1 c9 (fun _ _=>by simp))
           clear hmt1 y0 y1 y2 y3 y4
           obtain⟨y0,y1,y2,y3,y4⟩:=Blk5 (HX8.out.1.chg0 c9)
           clear c9
           have aT2:ArrTy Tryz.prog 155 (#[.string (str tr),.slice ao3 j cap3,.int .i64 (st:Int),.string (str au),.string (str tx)]:Array Value).size:=rcomm_ty
           have hss:(#[.string ⟨#[]⟩,.slice none 0 0,.int .i64 0,.string ⟨#[]⟩,.string ⟨#[]⟩]:Array Value).size=(#[.string (str tr),.slice ao3 j cap3,.int .i64 (st:Int),.string (str au),.string (str tx)]:Array Value).size:=rfl
           have hone:∀v∈(#[.string (str tr),.slice ao3 j cap3,.int .i64 (st:Int),.string (str au),.string (str tx)]:Array Value).toList,v.oneCell'=true:=by simp[Value.oneCell']
           go_wp2_with (with_reducible refine wpList_stA rfl 155 _ _ rfl hbK9 aT2 hss hone rfl rfl ?_;intro w20 hb20 c20 hs20)
           refine bodyPost_ret (results_AT rfl _ _ hb20 aT2 rfl) rfl ?_
           have hO20:=Aq.Own.chg HO9.out c20 (fun k hk hk'=>by simp at hk';have h1:=HFar.out k hk;have h2:=HB2.out.2.2.2.1;omega)
           refine⟨⟨commV ⟨tr,chunkN j (t.drop 33),(st:Int),au,tx⟩ (.slice ao3 j cap3),true,rfl,⟨fun _=>hyes.out,fun _=>rfl⟩,_,_,_,_,rfl,fun _=>⟨hDD.out.symm,?_,fun k hk=>?_⟩⟩,ct9.trans c20 fun k hk=>by simp at hk;right;have:=HC0.out.2.2;omega⟩
           ·show Sees w20 1 _ (chunkN j (t.drop 33)).length _
            rw[chunkN_len]
            exact hO20.sees
           ·have h1:=HFar.out k (eyes_own _ k hk)
            have h2:=HB2.out.2.2.2.1
            have h3:=HC0.out.2.2
            omega
        ·have e4:((r2:Int) != (tl:Int))=true:=by simp;omega
         have hno:Hid (¬refComm (3::t)):=fun h=>hr2 (hnoR.out.1 h).1
         obtain⟨u1,u2,u3,u4,u5,u6⟩:=HWr.out
         have wc:=HCW.out.wc
         have hbK7:=HX6.out.2.1
         have ct7:=HX6.out.2.2.2
         clear hr2
         go_wp2_with (with_reducible refine wpList_stA rfl 155 _ _ rfl hbK7 aT rfl (by simp[Value.oneCell']) rfl rfl ?_;intro w20 hb20 c20 hs20)
         refine bodyPost_ret (results_AT rfl _ _ hb20 aT rfl) rfl ?_
         exact AsCommEnd.no (c:=commZ) hno.out (ct7.trans c20 fun k hk=>by simp at hk;right;have:=HC0.out.2.2;omega)
   ·have n1:decide (2<(np:Int))=true:=by simp;omega
    have n1':decide (2<np)=true:=by simp;omega
    have hr:¬refComm (3::t):=by
     rw[refComm_cons]
     rintro⟨-,h,-⟩
     have h1:=h.np
     rw[hnp] at h1
     omega
    have HC0:=zC hc0 hbK hK hr
    clear hv hb hc0 hbK hr h34 hn htl hcell hn2 hnp hnp255 hc33
    go_enter Tryz.func85,Tryz.ntmps85
    go_wp2_with fail
    refine bodyPost_ret (results_AT rfl _ _ HC0.out.2.1 aT rfl) rfl ?_
    exact AsCommEnd.no (c:=commZ) HC0.out.2.2.2 HC0.out.1
  ·have k1:((k.toNat:Int) != 3)=true:=by
    have h2:k.toNat≠3:=fun e=>h3 (by rw[←UInt8.ofNat_toNat (x:=k),e];rfl)
    simp;omega
   have hr:¬refComm (k::t):=by
    rw[refComm_cons]
    exact fun h=>h3 h.1
   have HC0:=zC hc0 hbK hK hr
   clear hv hb hc0 hbK hr h34 hn htl hcell h3 hnp hnp255 hc33 m33 t33 t33'
   go_enter Tryz.func85,Tryz.ntmps85
   go_wp2_with fail
   refine bodyPost_ret (results_AT rfl _ _ HC0.out.2.1 aT rfl) rfl ?_
   exact AsCommEnd.no (c:=commZ) HC0.out.2.2.2 HC0.out.1
end Go.Proofs.YtlidiclfpklliaaGreatDoor
