/- RqB RqC -/
import Derived.Test.YtlbdklaggalgfaaGreatDoorG43
set_option linter.unusedSimpArgs false
set_option linter.unusedVariables false
set_option maxHeartbeats 4000000
namespace Go.Proofs.YtlbdklaggalgfaaGreatDoor
open Go.RowKit Go.Aq Go.Aq.Wd
set_option maxRecDepth 100000 in
theorem rmay_any (w:World) (v:Value) (l:List RefD) (hv:Sees w 3 v l.length (Rfs l)) (hl:l.length≤1000000) (hx:∀r∈l,r.name.length≤1000000∧r.key.length≤1000000):
  Calls Tryz.prog 138 #[v] w fun e w'=>e=.returned (.bool (mayL l))∧Chg [] w w':=by
 obtain⟨nl,HL⟩:∃n,Hid (l.length=n):=⟨_,rfl⟩;rw[HL.out] at hv hl;obtain⟨ao,cap,rfl,hcap,hno⟩:=hv.shape;have HNO:=zH hno;clear hno;go_enter Tryz.func138,Tryz.ntmps138;go_wp2_with fail;go_loopg [3] nl (fun k vi wr=>∃(i:Nat),vi=.int .i64 i∧i+k=nl∧i≤nl∧Hid ((List.range i).all (mayAt l)=true)∧Chg [] w wr);case atStart=>exact⟨0,rfl,by omega,by omega,rfl,Chg.refl _ _⟩
 case round=>
  obtain⟨i,rfl,hik,hin,HM,hc⟩:=hrel;by_cases hi:i<nl
  ·have t1:decide ((i:Int)<(nl:Int))=true:=by simp;omega
   have t1':decide (i<nl)=true:=by simp;omega
   have hil:i<l.length:=by rw[HL.out];exact hi
   obtain⟨g,off,cap',hs,-,hgl,hcell⟩:=hv.cells (by omega);simp only[Value.slice.injEq,true_and] at hs;obtain⟨rfl,rfl⟩:=hs;have HC:Hid (∀j (h:j<l.length),w.cell? ⟨g,off+j * 3,none⟩=some (.bool (l[j]'h).tag)∧w.cell? ⟨g,off+j * 3+1,none⟩=some (.string (str (l[j]'h).name))∧w.cell? ⟨g,off+j * 3+2,none⟩=some (.string (str (l[j]'h).key))):=fun j h=>Rfs_cells HL.out hcell j h
   obtain⟨x0,x1,x2⟩:=HC.out i hil;have y0:=hc.cell_some x0 (by simp);have y1:=hc.cell_some x1 (by simp);have y2:=hc.cell_some x2 (by simp);have hb:=hx _ (List.getElem_mem hil);have hgd:l.getD i default=l[i]:=by simp[List.getD,hil]
   have hM:mayAt l i=(nameL l[i].name&&validB l[i].key&&(i==0 || decide (cmpR (l.getD (i - 1) default) l[i]<0))):=by unfold mayAt;rw[hgd]
   have hib:(i:Int)≤1000000:=by omega
   clear x0 x1 x2 hcell hgd;have HMA:=zH hM;clear hM;generalize hr:l[i]=r at *;have HR:=zH hr;clear hr;obtain⟨tr,nm,ky⟩:=r;simp only at y0 y1 y2 hb;have cw:=hc;have f0:=y0;have f1:=y1;have f2:=y2;go_upto_region 4 with (fail);obtain⟨X,hne,F,x0,hF0,hF,hX⟩:=fam0 wr;have z0:=fun x=>(hF x).cell_some f0 (by simp)
   have z1:=fun x=>(hF x).cell_some f1 (by simp)
   have z2:=fun x=>(hF x).cell_some f2 (by simp)
   have HNa:=fun x=>rname_any nm (F x) (by omega)
   have HVa:=fun x=>refValid_any (F x) ky (by omega)
   have HC2:=zA hc cw;clear y0 y1 y2 hb f0 f1 f2;cases hN:nameL nm with
   | false=>
    have HF:Hid (mayL l=false):=mayL_bad l i hil (by rw[HMA.out];simp[hN]);rw[hN] at HNa;clear hN HVa HMA hc cw;refine wp_fam F (by kernel_rfl) (by kernel_rfl) x0 hF0 ?_;(repeat (go_big_quiet_step (exact fam_call hF hX (HNa _))));refine wpQuiet_nil ?_;rintro w' ⟨x1,rfl⟩;go_wp2_with fail;go_ret;exact⟨by rw[HF.out];rfl,HC2.out.2.nil (hF x1)⟩
   | true=>
    rw[hN] at HNa;cases hV:validB ky with
    | false=>
     have HF:Hid (mayL l=false):=mayL_bad l i hil (by rw[HMA.out];simp[hN,hV]);rw[hV] at HVa;clear hN hV HMA hc cw;refine wp_fam F (by kernel_rfl) (by kernel_rfl) x0 hF0 ?_;(repeat (go_big_quiet_step (first | exact fam_call hF hX (HNa _) | exact fam_call hF hX (HVa _))));refine wpQuiet_nil ?_;rintro w' ⟨x1,rfl⟩;go_wp2_with fail;go_ret;exact⟨by rw[HF.out];rfl,HC2.out.2.nil (hF x1)⟩
    | true=>
     rw[hV] at HVa;by_cases h0:i=0
     ·subst h0;have HG:Hid ((List.range 1).all (mayAt l)=true):=by
       show _=_;rw[range_all_succ,HM.out,HMA.out];simp[hN,hV]
      clear hN hV HMA hc cw;refine wp_fam F (by kernel_rfl) (by kernel_rfl) x0 hF0 ?_;(repeat (go_big_quiet_step (first | exact fam_call hF hX (HNa _) | exact fam_call hF hX (HVa _))));refine wpQuiet_nil ?_;rintro w' ⟨x1,rfl⟩;go_wp2_with fail;go_roundg (gk - 1);case measure=>omega
      case rel=>exact⟨1,rfl,by omega,by omega,HG,HC2.out.2.nil (hF x1)⟩
     ·obtain⟨m,rfl⟩:∃m,i=m+1:=⟨i - 1,by omega⟩;have hml:m<l.length:=by omega
      obtain⟨p0,p1,p2⟩:=HC.out m hml;have q0:=fun x=>(hF x).cell_some (cw.cell_some p0 (by simp)) (by simp)
      have q1:=fun x=>(hF x).cell_some (cw.cell_some p1 (by simp)) (by simp)
      have q2:=fun x=>(hF x).cell_some (cw.cell_some p2 (by simp)) (by simp)
      have hgd:l.getD (m+1 - 1) default=l[m]:=by simp[List.getD,hml]
      have hM:=HMA.out;rw[hgd,hN,hV] at hM;have HCa:=fun x=>rcompare_any l[m] ⟨tr,nm,ky⟩ (F x)
      have hmb:(m:Int)≤1000000:=by omega
      have hmn:m<nl:=by omega
      have HM2:=zH hM;clear hM hgd p0 p1 p2 h0 hN hV HMA hc cw;have hrg:=cmpR_range l[m] ⟨tr,nm,ky⟩;generalize l[m]=rp at *;generalize hcm:cmpR rp ⟨tr,nm,ky⟩=c at *;obtain⟨tp,np,kp⟩:=rp;simp only at q0 q1 q2;unfold rfV at HCa;simp only at HCa;clear hcm;have HP:=zB hik hin hil;by_cases hc0:c= -1;case neg=>
       have t2:(c != -1)=true:=by simpa using hc0
       have HF:Hid (mayL l=false):=mayL_bad l (m+1) hil (by rw[HM2.out];simp;omega);clear HR hik hil HM2 hc0 hrg;refine wp_fam F (by kernel_rfl) (by kernel_rfl) x0 hF0 ?_;(repeat (go_big_quiet_step (first | exact fam_call hF hX (HNa _) | exact fam_call hF hX (HVa _) | exact fam_call hF hX (HCa _))));refine wpQuiet_nil ?_;rintro w' ⟨x1,rfl⟩;go_wp2_with fail;go_ret;exact⟨by rw[HF.out];rfl,HC2.out.2.nil (hF x1)⟩
      case pos=>
       subst hc0;have HG:Hid ((List.range (m+1+1)).all (mayAt l)=true):=by
        show _=_;rw[range_all_succ,HM.out,HM2.out];simp
       clear HR hik hil HM2 hrg;refine wp_fam F (by kernel_rfl) (by kernel_rfl) x0 hF0 ?_;(repeat (go_big_quiet_step (first | exact fam_call hF hX (HNa _) | exact fam_call hF hX (HVa _) | exact fam_call hF hX (HCa _))));refine wpQuiet_nil ?_;rintro w' ⟨x1,rfl⟩;go_wp2_with fail;go_roundg (gk - 1);case measure=>have:=HP.out;omega
       case rel=>exact⟨m+1+1,by go_num,by have:=HP.out;omega,by omega,HG,HC2.out.2.nil (hF x1)⟩
  ·have t1:decide ((i:Int)<(nl:Int))=false:=by simp;omega
   have t1':decide (i<nl)=false:=by simp;omega
   obtain rfl:i=nl:=by omega
   have HF:Hid (mayL l=decide (i≤100)):=by
    show mayL l=_;unfold mayL;rw[HL.out,HM.out];rfl
   have e1:decide ((i:Int)≤100)=decide (i≤100):=by simp;omega
   clear hi hik;generalize decide (i≤100)=b at *;go_wp2_with fail;go_ret;exact⟨by rw[HF.out];rfl,hc⟩
end Go.Proofs.YtlbdklaggalgfaaGreatDoor
namespace Go.Aq
open Go.RowKit
theorem strCells_strR (l:List UInt8):Lib.strCells (str l)=Bs l:=by simp[Lib.strCells,str,Bs,Bc]
theorem wpList_appStrR {P:Program} {w0 W:World} {ops:Array Oper} {rest:List Oper} {o:Oper} {a:Act} {Q:Exit→Act→World→Prop} (hgd:o.guard=none) (s x:Operand) (t u:TypeId)
  (ho:o.op=.call { callee:=.builtin .append,args:=#[s,x],argTypes:=#[t,u] }) {e:TypeId} (ht:SliceTy P t e (.int .u8 0) 1 1) (hu:P.underlying u=some .string)
  {v:Value} {n:Nat} {xs:List Value} (hf:Fresh w0 W e 1 v n xs) (hs:a.eval s=v) (l:List UInt8) (hx:a.eval x=.string (str l)) (hb:n+l.length≤140737488355328)
  (h:∀v' W',Fresh w0 W' e 1 v' (n+l.length) (xs++Bs l)→wpList P ops Q rest (a.put o.dst v') W'):wpList P ops Q (o::rest) a W:=by
 obtain⟨ht1,ht2,ht3,ht4⟩:=ht;obtain⟨i,hi,hz0,hz1,hby⟩:=info_parts ht2;have hown:W.ownsRow w0.heap.size e 1 v n xs:=by
  obtain⟨h1,h2⟩:=hf.own;refine⟨h1,?_⟩;rcases h2 with h2 | ⟨g,cap,cs,h3,h4,h5⟩
  ·exact .inl h2
  ·exact .inr ⟨g,cap,cs,h3,hf.new g (by simp[h3,Value.ownBlock]),h5⟩
 refine Lib.wpList_append_own_string W hgd s x t u ho w0.heap.size e i ht1 hu hi hz0 hz1 hby v n xs hs hown (str l) hx (by rw[str_size];unfold maxLen;omega) (by rw[str_size];exact hb) hf.chg.size ?_;intro v' W' h1 h2 h3;rw[str_size,strCells_strR] at h1;obtain⟨k1,k2⟩:=h1;refine h v' W' ⟨⟨k1,?_⟩,hf.chg.trans (Chg.of_grown h2) (fun i hi=>.inr (hf.new i hi)),?_⟩
 ·rcases k2 with k2 | ⟨g,cap,cs,k3,k4,k5⟩
  ·exact .inl k2
  ·exact .inr ⟨g,cap,cs,k3,Nat.zero_le _,k5⟩
 ·intro k hk;rcases k2 with ⟨k2,-⟩ | ⟨g,cap,cs,k3,k4,k5⟩
  ·rw[k2] at hk;simp[Value.ownBlock] at hk
  ·rw[k3] at hk;simp[Value.ownBlock] at hk;omega
end Go.Aq
namespace Go.Proofs.YtlbdklaggalgfaaGreatDoor
open Go.RowKit Go.Aq Go.Aq.Wd
set_option maxRecDepth 100000 in
theorem rline_any (r:RefD) (w:World) (h:r.name.length≤1000000∧r.key.length≤1000000) (hq:(quoteL r.name).2=0):
  Calls Tryz.prog 139 #[rfV r] w fun e w'=>e=.returned (.string (str (lineR r)))∧Chg [] w w':=by
 obtain⟨tg,nm,ky⟩:=r;unfold rfV;simp only at h hq ⊢;have hl:Hid (lineR ⟨tg,nm,ky⟩=kindL tg++[32]++(quoteL nm).1++[32]++ky++[10]):=rfl;have hqa:=fun w'=>rquote_any nm w' (by omega)
 rw[hq] at hqa;have hql:=quoteL_len nm;generalize (quoteL nm).1=q at *;have b1:(str q).size=q.length:=str_size q;have b2:(str ky).size=ky.length:=str_size ky;obtain⟨K,hK⟩:∃K,w.heap.size=K:=⟨_,rfl⟩;have hbx:Blk (w.alloc (.cells #[.bool tg,.string (str nm),.string (str ky)] 64)) K #[.bool tg,.string (str nm),.string (str ky)] 64:=Blk.new_at w _ _ hK;have hcx:Chg [] w (w.alloc (.cells #[.bool tg,.string (str nm),.string (str ky)] 64)):=(Chg.refl _ _).alloc _;cases tg with
 | true=>
  have s1:(⟨#[116,97,103,32]⟩:ByteArray)++str q=str ([116,97,103,32]++q):=str_cat [116,97,103,32] q;have s2:str ([116,97,103,32]++q)++(⟨#[32]⟩:ByteArray)=str ([116,97,103,32]++q++[32]):=str_catL _ _;have s3:=str_cat ([116,97,103,32]++q++[32]) ky;have s4:str ([116,97,103,32]++q++[32]++ky)++(⟨#[10]⟩:ByteArray)=str ([116,97,103,32]++q++[32]++ky++[10]):=str_catL _ _;have z1:(str ([116,97,103,32]++q)).size=4+q.length:=by rw[str_size];simp;omega
  have z2:(str ([116,97,103,32]++q++[32])).size=5+q.length:=by rw[str_size];simp;omega
  have z3:(str ([116,97,103,32]++q++[32]++ky)).size=5+q.length+ky.length:=by rw[str_size];simp;omega
  have hE:Hid (lineR ⟨true,nm,ky⟩=[116,97,103,32]++q++[32]++ky++[10]):=by show _=_;rw[hl.out];simp[kindL]
  generalize [116,97,103,32]++q=a1 at *;generalize a1++[32]=a2 at *;generalize a2++ky=a3 at *;generalize a3++[10]=a4 at *;have r1:=fun w=>run_cat (P:=Tryz.prog) s1 (by have:(⟨#[116,97,103,32]⟩:ByteArray).size=4:=rfl;omega) w
  have r2:=fun w=>run_cat (P:=Tryz.prog) s2 (by have:(⟨#[32]⟩:ByteArray).size=1:=rfl;omega) w
  have r3:=fun w=>run_cat (P:=Tryz.prog) s3 (by omega) w
  have r4:=fun w=>run_cat (P:=Tryz.prog) s4 (by have:(⟨#[10]⟩:ByteArray).size=1:=rfl;omega) w
  obtain⟨⟨f0,f1,f2⟩,-⟩:=hbx.c3;have HC:=zA hcx hbx;clear s1 s2 s3 s4 z1 z2 z3 b1 b2 h hq hql hl hcx hbx;go_enter Tryz.func139,Tryz.ntmps139;go_wp2_with fail;generalize w.alloc (.cells #[.bool true,.string (str nm),.string (str ky)] 64)=wa at *;refine (hqa _).mono ?_;rintro e w1 ⟨rfl,c1⟩;clear f0 f1 f2 hqa;obtain⟨⟨f0,f1,f2⟩,-⟩:=(HC.out.2.chg0 c1).c3;have HC2:=zH (HC.out.1.nil c1);clear c1;go_wp2_with fail;go_ret;exact⟨by rw[hE.out];rfl,HC2.out⟩
 | false=>
  have s1:(⟨#[98,114,97,110,99,104,32]⟩:ByteArray)++str q=str ([98,114,97,110,99,104,32]++q):=str_cat [98,114,97,110,99,104,32] q;have s2:str ([98,114,97,110,99,104,32]++q)++(⟨#[32]⟩:ByteArray)=str ([98,114,97,110,99,104,32]++q++[32]):=str_catL _ _;have s3:=str_cat ([98,114,97,110,99,104,32]++q++[32]) ky;have s4:str ([98,114,97,110,99,104,32]++q++[32]++ky)++(⟨#[10]⟩:ByteArray)=str ([98,114,97,110,99,104,32]++q++[32]++ky++[10]):=str_catL _ _;have z1:(str ([98,114,97,110,99,104,32]++q)).size=7+q.length:=by rw[str_size];simp;omega
  have z2:(str ([98,114,97,110,99,104,32]++q++[32])).size=8+q.length:=by rw[str_size];simp;omega
  have z3:(str ([98,114,97,110,99,104,32]++q++[32]++ky)).size=8+q.length+ky.length:=by rw[str_size];simp;omega
  have hE:Hid (lineR ⟨false,nm,ky⟩=[98,114,97,110,99,104,32]++q++[32]++ky++[10]):=by show _=_;rw[hl.out];simp[kindL]
  generalize [98,114,97,110,99,104,32]++q=a1 at *;generalize a1++[32]=a2 at *;generalize a2++ky=a3 at *;generalize a3++[10]=a4 at *;have r1:=fun w=>run_cat (P:=Tryz.prog) s1 (by have:(⟨#[98,114,97,110,99,104,32]⟩:ByteArray).size=7:=rfl;omega) w
  have r2:=fun w=>run_cat (P:=Tryz.prog) s2 (by have:(⟨#[32]⟩:ByteArray).size=1:=rfl;omega) w
  have r3:=fun w=>run_cat (P:=Tryz.prog) s3 (by omega) w
  have r4:=fun w=>run_cat (P:=Tryz.prog) s4 (by have:(⟨#[10]⟩:ByteArray).size=1:=rfl;omega) w
  obtain⟨⟨f0,f1,f2⟩,-⟩:=hbx.c3;have HC:=zA hcx hbx;clear s1 s2 s3 s4 z1 z2 z3 b1 b2 h hq hql hl hcx hbx;go_enter Tryz.func139,Tryz.ntmps139;go_wp2_with fail;generalize w.alloc (.cells #[.bool false,.string (str nm),.string (str ky)] 64)=wa at *;refine (hqa _).mono ?_;rintro e w1 ⟨rfl,c1⟩;clear f0 f1 f2 hqa;obtain⟨⟨f0,f1,f2⟩,-⟩:=(HC.out.2.chg0 c1).c3;have HC2:=zH (HC.out.1.nil c1);clear c1;go_wp2_with fail;go_ret;exact⟨by rw[hE.out];rfl,HC2.out⟩
set_option maxRecDepth 100000 in
theorem rencode_any (w:World) (v:Value) (l:List RefD) (hv:Sees w 3 v l.length (Rfs l)) (hl:l.length≤1000000) (hx:∀r∈l,r.name.length≤1000000∧r.key.length≤1000000):
  Calls Tryz.prog 81 #[v] w fun e w'=>∃v',e=.returned (.tuple #[v',.int .i64 (encodeL l).2])∧Fresh w w' 5 1 v' (encodeL l).1.length (Bs (encodeL l).1):=by
 have hma:=rmay_any w v l hv hl hx;cases hM:mayL l with
 | false=>
  have hE:Hid (encodeL l=([],4)):=by show _=_;unfold encodeL;rw[hM];rfl
  rw[hM] at hma;obtain⟨ao,cap,rfl,-⟩:=hv.shape;clear hM;go_enter Tryz.func81,Tryz.ntmps81;go_wp2_with fail;refine hma.mono ?_;rintro e w1 ⟨rfl,c1⟩;have HC:=zH c1;clear c1 hma;go_wp2_with fail;go_ret2;rw[hE.out];exact⟨_,rfl,(Fresh.nil w _ _).to HC.out⟩
 | true=>
  have hE:Hid (encodeL l=(l.flatMap lineR,0)):=by show _=_;unfold encodeL;rw[hM];rfl
  have HMP:Hid (∀r∈l,(quoteL r.name).2=0):=fun r hr=>quoteL_name (may_parts hM r hr).1
  have hll:=lines_len l hx;have hm100:=mayL_len hM;rw[hM] at hma;obtain⟨nl,HL⟩:∃n,Hid (l.length=n):=⟨_,rfl⟩;rw[HL.out] at hv hl hll hm100;obtain⟨ao,cap,rfl,-⟩:=hv.shape;have HV:=zH hv;have HLL:Hid (∀i,((l.take i).flatMap lineR).length≤8000000 * nl):=fun i=>by
   have e:(l.take i).flatMap lineR++(l.drop i).flatMap lineR=l.flatMap lineR:=by rw[←List.flatMap_append,List.take_append_drop]
   have:=congrArg List.length e;rw[List.length_append] at this;omega
  clear hM hv hll;go_enter Tryz.func81,Tryz.ntmps81;go_wp2_with fail;refine hma.mono ?_;rintro e w1 ⟨rfl,c1⟩;have HC:=zH c1;clear c1 hma;go_wp2_with fail;go_loopg [4,5] nl (fun gk (v4 v5:Value) wr=>∃(i m:Nat) (a6:Option Addr) (c6:Nat),v4=.slice a6 m c6∧v5=.int .i64 (i:Int)∧i+gk=nl∧Hid (m=((l.take i).flatMap lineR).length)∧Hid (Fresh w wr 5 1 (.slice a6 m c6) m (Bs ((l.take i).flatMap lineR))));case atStart=>exact⟨0,0,none,0,rfl,rfl,by omega,rfl,(Fresh.nil _ _ _).to HC.out⟩
  case round=>
   obtain⟨i,m,a6,c6,rfl,rfl,hik,HM,HF⟩:=hrel;by_cases hin:i<nl
   ·have t1:decide ((i:Int)<(nl:Int))=true:=decide_eq_true (by omega);have t1':decide (i<nl)=true:=decide_eq_true hin;have hil:i<l.length:=by rw[HL.out];exact hin
    obtain⟨g,off,cap',hs,-,hgl,hcell⟩:=(HV.out.chg0 HF.out.chg).cells (by omega);simp only[Value.slice.injEq,true_and] at hs;obtain⟨hs1,hs2⟩:=hs;subst hs1;obtain⟨y0,y1,y2⟩:=Rfs_cells HL.out hcell i hil;have htk:=List.take_succ_eq_append_getElem hil;have hfm:((l.take (i+1)).flatMap lineR)=(l.take i).flatMap lineR++lineR l[i]:=by rw[htk,List.flatMap_append];simp
    have hli:=rline_any l[i] wr (hx _ (List.getElem_mem hil)) (HMP.out _ (List.getElem_mem hil));have hln:=lineR_len l[i] (hx _ (List.getElem_mem hil));have hmb:m≤8000000 * nl:=by rw[HM.out];exact HLL.out i
    have i1:(i:Int)≤1000000:=by omega
    have HI:=zC hik hfm hln hmb;have HM1:=zH hm100;clear hik htk hfm hcell hgl hs2 hln hmb hm100;generalize l[i]=rf at *;clear hil;obtain⟨tr,nm,ky⟩:=rf;unfold rfV at hli;simp only at hli y0 y1 y2;generalize lineR ⟨tr,nm,ky⟩=ln at *;have hbd:m+ln.length≤140737488355328:=by obtain⟨-,-,h1,h2⟩:=HI.out;have:=HM1.out;omega
    go_wp2_with fail;refine hli.mono ?_;rintro e w2 ⟨rfl,c2⟩;have hF2:=HF.out.to c2;clear y0 y1 y2 c2 hli;go_wp2_with (refine wpList_appStrR rfl _ _ 38 9 rfl sl_u8 Tryz.underlying9 hF2 rfl ln rfl hbd ?_;intro v3 w3 hF3;obtain⟨a3,c3,rfl,-⟩:=hF3.shape;have HF3:=zH hF3;clear hF3 hF2);go_roundg (gk - 1);case measure=>have:=HI.out.1;omega
    case rel=>
     obtain⟨h1,h2,h3,h4⟩:=HI.out;exact⟨i+1,m+ln.length,a3,c3,rfl,by go_num,by omega,by show _=_;rw[h2,List.length_append,←HM.out],by rw[h2,Bs_append];exact HF3.out⟩
   ·have t1:decide ((i:Int)<(nl:Int))=false:=decide_eq_false (by omega);have t1':decide (i<nl)=false:=decide_eq_false hin;obtain rfl:i=nl:=by omega
    have htk:l.take i=l:=by rw[←HL.out,List.take_length]
    rw[htk] at HM HF;go_wp2_with fail;go_ret2;rw[hE.out];refine⟨_,rfl,?_⟩;show Fresh _ _ _ _ _ (l.flatMap lineR).length _;rw[←HM.out];exact HF.out
end Go.Proofs.YtlbdklaggalgfaaGreatDoor
