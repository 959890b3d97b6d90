/- EkD EkE WordPlain WordDefs -/
import Derived.Test.YtlbdklaggalgfaaGreatDoorEkC
import Derived.Lib.DecodeN
import Derived.Lib.IndexMore
set_option linter.unusedSimpArgs false
set_option linter.unusedVariables false
set_option maxHeartbeats 16000000
namespace Go.Proofs.YtlbdklaggalgfaaGreatDoor
open Go.RowKit Go.Aq.Fy Go.Maps
open Go.Aq hiding Own
def FindC (L:List FC) (s:Nm) (r:Int):Prop:=(∃i x,L[i]?=some x∧x.nm=s∧r=(i:Nat))∨((∀x∈L,x.nm≠s)∧r= -1)
set_option maxRecDepth 100000 in
theorem dfindC_ok (w:World) (v:Value) (L:List FC) (s:Nm) (hv:Sees w 5 v L.length (fcc L)) (hl:L.length≤1000000):
  Calls Tryz.prog 77 #[v,.string (str s)] w fun e w'=>(∃r,FindC L s r∧e=.returned (.int .i64 r))∧w'=w:=by
 obtain⟨n,HN⟩:∃n,Hid (L.length=n):=⟨_,rfl⟩;rw[HN.out] at hv hl;obtain⟨ao,cap,rfl,-⟩:=hv.shape;have HV:=zH hv;clear hv;go_enter Tryz.func77,Tryz.ntmps77;go_wp2_with fail;go_loopg [5] n (fun gk (v5:Value) wr=>∃(i:Nat),v5=.int .i64 (i:Int)∧i+gk=n∧Hid (∀x∈L.take i,x.nm≠s)∧wr=w);case atStart=>exact⟨0,rfl,by omega,by simp[Hid],rfl⟩
 case round=>
  obtain⟨i,rfl,hik,HT,rfl⟩:=hrel;by_cases hin:i<n
  ·have t1:decide ((i:Int)<(n:Int))=true:=decide_eq_true (by omega);have t1':decide (i<n)=true:=decide_eq_true hin;have hil:i<L.length:=by rw[HN.out];exact hin
   obtain⟨g,off,cap',hs,-,hgl,hcell⟩:=HV.out.cells (by omega);simp only[Value.slice.injEq,true_and] at hs;obtain⟨hs1,hs2⟩:=hs;subst hs1;obtain⟨y0,-⟩:=fcc_cells HN.out hcell i hil;have htk:=List.take_succ_eq_append_getElem hil;have hgx:=List.getElem?_eq_getElem hil;have i1:(i:Int)≤1000000:=by omega
   have HI:=zB hik htk hgx;clear hik htk hgx hcell hgl hs2 hl;generalize L[i]=x at *;clear hil;have HW:=zH (show wrap64 ((i:Int)+1)=((i+1:Nat):Int) from by unfold wrap64;omega);by_cases hx:x.nm=s
   ·have e2:((str x.nm).toList==(str s).toList)=true:=by rw[str_eq];simpa using hx
    have HX:=zH hx;clear hx;go_wp2_with fail;go_ret;exact⟨⟨(i:Nat),.inl ⟨i,x,HI.out.2.2,HX.out,rfl⟩,rfl⟩,rfl⟩
   ·have e2:((str x.nm).toList==(str s).toList)=false:=by rw[str_eq];simpa using hx
    have HX:=zH hx;clear hx;go_wp2_with fail;go_roundg (gk - 1);case measure=>have:=HI.out;omega
    case rel=>
     refine⟨i+1,by first | rfl | rw[HW.out],by have:=HI.out;omega,?_,rfl⟩;show ∀x∈L.take (i+1),x.nm≠s;rw[HI.out.2.1];intro y hy;rcases List.mem_append.1 hy with h | h
     ·exact HT.out y h
     ·rw[List.mem_singleton.1 h];exact HX.out
  ·have t1:decide ((i:Int)<(n:Int))=false:=decide_eq_false (by omega);have t1':decide (i<n)=false:=decide_eq_false hin;obtain rfl:i=n:=by omega
   clear hik hin hl;go_wp2_with fail;go_ret;exact⟨⟨-1,.inr ⟨fun y hy=>HT.out y (by rw[List.take_of_length_le (by rw[HN.out];exact Nat.le_refl _)];exact hy),rfl⟩,rfl⟩,rfl⟩
set_option maxRecDepth 100000 in
theorem dbytesD_ok (w:World) (S:List Nat) (f p l sq ps:Nat) (v:Value) (now:Nat→Sec) (q:Nat) (hfd:FdB w f p l v) (hlg:LgD w l p sq ps) (hdk:DkR w S p 200 now q) (hq:q≤1000000) (nm:Nm) (sz:Nat) (ks:List Nat) (bl dv:Value)
  (hbl:Sees w 1 bl ks.length (ints ks)) (hkl:ks.length≤256) (hks:∀k∈ks,k<173) (hsz:sz≤256 * ks.length):
  Calls Tryz.prog 78 #[.pointer (some ⟨f,0,none⟩),.agg #[.string (str nm),.int .i64 sz,bl,.bool false,dv]] w fun e w'=>∃ao cap,e=.returned (.tuple #[.slice ao sz cap,.int .i64 0])∧Sees w' 1 (.slice ao sz cap) sz (Bs ((ks.flatMap fun k=>now (27+k)).take sz))∧Chg [] w w':=by
 obtain⟨m3,HM3⟩:∃m3,Hid (ks.length=m3):=⟨_,rfl⟩;rw[HM3.out] at hbl hkl hsz;obtain⟨ab,cb,rfl,-⟩:=hbl.shape;have hbx:Blk (w.alloc (.cells #[.string (str nm),.int .i64 (sz:Int),.slice ab m3 cb,.bool false,dv] 134)) w.heap.size #[.string (str nm),.int .i64 (sz:Int),.slice ab m3 cb,.bool false,dv] 134:=Blk.new w _ _;have hcx:Chg [] w (w.alloc (.cells #[.string (str nm),.int .i64 (sz:Int),.slice ab m3 cb,.bool false,dv] 134)):=(Chg.refl _ _).alloc _;have H:=zG hfd hlg hdk hq hbl hkl hks hsz;have hkl':=hkl;clear hfd hlg hdk hq hbl hks hkl;go_enter Tryz.func78,Tryz.ntmps78;go_upto_region 1 with (fail);generalize w.alloc (.cells #[.string (str nm),.int .i64 (sz:Int),.slice ab m3 cb,.bool false,dv] 134)=wa at *;generalize hK:w.heap.size=K at *;have f3:wa.cell? ⟨K,3,none⟩=some (.bool false):=hbx.cell 3;have HX:Hid (∀W,Chg [] wa W→W.cell? ⟨K,1,none⟩=some (.int .i64 (sz:Int))∧W.cell? ⟨K,2,none⟩=some (.slice ab m3 cb)):=fun W c=>⟨(hbx.chg0 c).cell 1,(hbx.chg0 c).cell 2⟩
 have HCX:=zH hcx;clear hbx hcx hK hsz;go_wp2_with fail;clear f3;go_loopg [6,7,8,9] m3 (fun gk (v6 v7 v8 v9:Value) wr=>∃(i m6:Nat) (a6:Option Addr) (c6:Nat),v6=.slice a6 m6 c6∧v7=.int .i64 (i:Int)∧i+gk=m3∧Hid (m6=256 * i∧Fresh wa wr 5 1 (.slice a6 m6 c6) m6 (Bs ((ks.take i).flatMap fun k=>now (27+k)))));case atStart=>exact⟨0,0,none,0,rfl,rfl,by omega,rfl,Fresh.nil _ _ _⟩
 case round=>
  obtain⟨i,m6,a6,c6,rfl,rfl,hik,HI⟩:=hrel;obtain⟨hm6,hF⟩:=HI.out;obtain⟨x1,x2⟩:=HX.out _ hF.chg;by_cases hi:i<m3
  ·have t1:decide ((i:Int)<(m3:Int))=true:=decide_eq_true (by omega);have t1':decide (i<m3)=true:=decide_eq_true hi;have i2:(i:Int)<(m3:Int):=by omega
   have hikl:i<ks.length:=by rw[HM3.out];exact hi
   have cw:=HCX.out.nil hF.chg;obtain⟨gk',ok',cpk,hsk,-,-,hck⟩:=(H.out.2.2.2.2.1.chg0 (cw.nil ((Chg.refl [] wr).drew))).cells (by omega);simp only[Value.slice.injEq,true_and] at hsk;obtain⟨hsk1,-⟩:=hsk;subst hsk1;have yk:=hck i (by omega);rw[show (ints ks)[i]?=some (.int .i64 ((ks[i]'hikl:Nat):Int)) by simp[ints,hikl]] at yk;have hlt:=H.out.2.2.2.2.2.2.1 _ (List.getElem_mem hikl);have htk:=List.take_succ_eq_append_getElem hikl;generalize ks[i]=key at *;have e1:IntKind.i64.wrap (27+(key:Int))=((27+key:Nat):Int):=by rw[IntKind.wrap_i64];omega
   have e23:IntKind.i64.wrap 23=23:=by decide
   have e27:IntKind.i64.wrap 27=27:=by decide
   obtain⟨k7,hk7⟩:∃k7,27+key=k7:=⟨_,rfl⟩;rw[hk7] at e1;have hrd:=fun W (c:Chg [] w W)=>dread_ok W S p 200 now q (H.out.2.2.1.chg0 c) (by have:=H.out.2.2.2.1;omega) k7 (by omega) (by decide)
   have hdl:(now k7).length=256:=H.out.2.2.1.len (by omega);have hfa:(ks.take (i+1)).flatMap (fun k=>now (27+k))=(ks.take i).flatMap (fun k=>now (27+k))++now k7:=by rw[htk,List.flatMap_append];simp[hk7]
   have hw3:=zH (show wrap64 ((i:Int)+1)=((i+1:Nat):Int) from by unfold wrap64;omega);have HG:=zE hm6 hF hik hi hfa hdl;have hm6b:m6≤70000:=by omega
   have HC0:Hid (∀w4,Chg [] wr.drew w4→Chg [] w w4∧w4.cell? ⟨K,2,none⟩=some (.slice (some ⟨gk',ok',none⟩) m3 cb)∧w4.cell? ⟨gk',ok'+i,none⟩=some (.int .i64 (key:Int))):=fun w4 c4=>⟨(cw.nil ((Chg.refl [] wr).drew)).nil c4,c4.cell_some ((Chg.refl [] wr).drew.cell_some x2 (by simp)) (by simp),c4.cell_some yk (by simp)⟩
   clear hm6 hF hik hi hck yk hlt htk hfa hdl hk7 HI hikl cw x1;go_upto_region 7 with (fail);refine wp_region_E [] (by kernel_rfl) ?_;have C0:Chg [] wr.drew wr.drew:=Chg.refl _ _;have D0:=zH (show Chg [] wr wr.drew from (Chg.refl [] wr).drew);generalize wr.drew=W0 at *;refine tE 0 (.pointer (some ⟨f,0,none⟩)) C0 (fun w4 c4=>?_) ?_;·go_simp
   refine yG ?_;refine tE 1 (.pointer (some ⟨f,0,none⟩)) C0 (fun w4 c4=>?_) ?_;·go_simp
   refine yG ?_;refine tE 2 (.pointer (some ⟨f,0,none⟩)) C0 (fun w4 c4=>?_) ?_;·go_simp
   refine yG ?_;refine tE 3 (.pointer (some ⟨p,0,none⟩)) C0 (fun w4 c4=>?_) ?_
   ·obtain⟨cc,z2,zk⟩:=HC0.out w4 c4;obtain⟨y0,y1,y2,-⟩:=fd4 (H.out.1.chg0 cc);go_simp
   refine yG ?_;refine tE 4 (.pointer (some ⟨f,0,none⟩)) C0 (fun w4 c4=>?_) ?_;·go_simp
   refine yG ?_;refine tE 5 (.pointer (some ⟨f,0,none⟩)) C0 (fun w4 c4=>?_) ?_;·go_simp
   refine yG ?_;refine tE 6 (.pointer (some ⟨f,1,none⟩)) C0 (fun w4 c4=>?_) ?_;·go_simp
   refine yG ?_;refine tE 7 (.pointer (some ⟨l,0,none⟩)) C0 (fun w4 c4=>?_) ?_
   ·obtain⟨cc,z2,zk⟩:=HC0.out w4 c4;obtain⟨y0,y1,y2,-⟩:=fd4 (H.out.1.chg0 cc);go_simp
   refine yG ?_;refine wpAnyE_call 8 (v:=(.int .i64 22)) C0 rfl (by kernel_rfl) (by kernel_rfl) (by kernel_rfl) (fun _ _ _ h=>h) (by rfl) (fun w4 c4=>?_) (fun w4 c4=>dhome w4 l p sq ps (H.out.2.1.chg0 (HC0.out w4 c4).1)) ?_;·go_simp
   refine yG ?_;refine tE 9 (.int .i64 23) C0 (fun w4 c4=>?_) ?_;·go_simp
   refine yG ?_;refine tE 10 (.pointer (some ⟨f,0,none⟩)) C0 (fun w4 c4=>?_) ?_;·go_simp
   refine yG ?_;refine tE 11 (.pointer (some ⟨f,0,none⟩)) C0 (fun w4 c4=>?_) ?_;·go_simp
   refine yG ?_;refine tE 12 (.pointer (some ⟨f,2,none⟩)) C0 (fun w4 c4=>?_) ?_;·go_simp
   refine yG ?_;refine tE 13 (.int .i64 4) C0 (fun w4 c4=>?_) ?_
   ·obtain⟨cc,z2,zk⟩:=HC0.out w4 c4;obtain⟨y0,y1,y2,-⟩:=fd4 (H.out.1.chg0 cc);go_simp
   refine yG ?_;refine tE 14 (.int .i64 27) C0 (fun w4 c4=>?_) ?_;·go_simp
   refine yG ?_;refine tE 15 (.pointer (some ⟨K,2,none⟩)) C0 (fun w4 c4=>?_) ?_;·go_simp
   refine yG ?_;refine tE 16 (.slice (some ⟨gk',ok',none⟩) m3 cb) C0 (fun w4 c4=>?_) ?_
   ·obtain⟨cc,z2,zk⟩:=HC0.out w4 c4;obtain⟨y0,y1,y2,-⟩:=fd4 (H.out.1.chg0 cc);go_simp
   refine yG ?_;refine tE 17 (.int .i64 (i:Int)) C0 (fun w4 c4=>?_) ?_;·go_simp
   refine yG ?_;refine tE 18 (.pointer (some ⟨gk',ok'+i,none⟩)) C0 (fun w4 c4=>?_) ?_;·go_simp
   refine yG ?_;refine tE 19 (.int .i64 (key:Int)) C0 (fun w4 c4=>?_) ?_
   ·obtain⟨cc,z2,zk⟩:=HC0.out w4 c4;obtain⟨y0,y1,y2,-⟩:=fd4 (H.out.1.chg0 cc);go_simp
   refine yG ?_;refine tE 20 (.int .i64 (k7:Int)) C0 (fun w4 c4=>?_) ?_;·go_simp
   refine yG ?_;refine oE 21 ?_;go_simp;refine (hrd W0 (HC0.out W0 C0).1).mono ?_;rintro e W1 ⟨ao,cap,rfl,hF1⟩;refine⟨hF1.chg,?_⟩;refine yG ?_;refine tE 22 (.tuple #[.slice ao 256 cap,.int .i64 0]) hF1.chg (fun w4 c4=>?_) ?_;·go_simp
   refine yG ?_;refine tE 23 (.slice ao 256 cap) hF1.chg (fun w4 c4=>?_) ?_;·go_simp
   refine yG ?_;refine tE 24 (.int .i64 0) hF1.chg (fun w4 c4=>?_) ?_;·go_simp
   refine yG ?_;refine tE 25 (.slice ao 256 cap) hF1.chg (fun w4 c4=>?_) ?_;·go_simp
   refine yG ?_;refine tE 26 (.int .i64 0) hF1.chg (fun w4 c4=>?_) ?_;·go_simp
   refine yG ?_;refine wpAnyE_done (by kernel_rfl) ?_ _;have HF1:=zA hF1.own.sees ((HG.out.2.1.to D0.out).to hF1.chg);clear hF1 hrd C0 HC0 x2 e1 e23 e27;go_wp2_with (at_builtin;refine wpList_appF (w0:=wa) rfl _ _ 38 rfl sl_u8D (by exact HF1.out.2) rfl (by exact HF1.out.1) rfl (Bs_one _) (by omega) (by omega) ?_;intro v4 w4 hF4 c4;obtain⟨a4,p4,rfl,-⟩:=hF4.shape;rw[←Bs_append,←HG.out.2.2.2.2.1] at hF4;have HF4:=zH hF4;clear hF4 c4);go_roundg (gk - 1);case measure=>have:=HG.out.2.2;omega
   case rel=>exact⟨i+1,m6+256,a4,p4,rfl,by first | rfl | rw[hw3.out],by have:=HG.out.2.2;omega,by have:=HG.out.1;omega,HF4.out⟩
  ·have t1:decide ((i:Int)<(m3:Int))=false:=decide_eq_false (by omega);have t1':decide (i<m3)=false:=decide_eq_false hi;obtain rfl:i=m3:=by omega
   rw[List.take_of_length_le (by rw[HM3.out];exact Nat.le_refl _)] at hF;have hszm:=H.out.2.2.2.2.2.2.2;obtain⟨ao',cp',he',hc6,-⟩:=hF.own.sees.shape;simp only[Value.slice.injEq,true_and] at he';obtain⟨-,rfl⟩:=he';have s1:(sz:Int)≤(c6:Int):=by omega
   have s2:sz≤c6:=by omega
   have hsl:=hF.own.sees.sliced (Nat.zero_le sz) (show sz≤m6 by omega);have e9:Go.sliced a6 0 sz c6 1=.slice a6 sz c6:=by unfold Go.sliced;cases a6 <;> simp[Addr.add]
   rw[e9,Nat.sub_zero,Nat.zero_mul,List.drop_zero,Nat.mul_one,show ∀b:Sec,(Bs b).take sz=Bs (b.take sz) from fun b=>by simp[Bs,List.map_take]] at hsl;have HS:=zA hsl (HCX.out.nil hF.chg);clear hsl e9 hF hm6 HI hik hi hszm;go_wp2_with fail;go_ret2;exact⟨_,_,rfl,HS.out⟩
def RdE (w:World) (o:Option Sec) (e:Ending) (w':World):Prop:=
 ∃(ao:Option Addr) (n cap:Nat) (er:Nat),e=.returned (.tuple #[.slice ao n cap,.int .i64 er])∧n=(o.getD []).length∧er=(if o.isSome then 0 else 6)∧Sees w' 1 (.slice ao n cap) n (Bs (o.getD []))∧Chg [] w w'
set_option maxRecDepth 100000 in
theorem dfread_ok (w0 w:World) (f p q:Nat) (V:View) (h:EndR w0 f p q V w) (hq:q≤1000000) (hA:Asc V) (s:Nm):
  Calls Tryz.prog 24 #[.pointer (some ⟨f,0,none⟩),.string (str s)] w (RdE w (lookK s V)):=by
 obtain⟨o,ho⟩:∃o,lookK s V=o:=⟨_,rfl⟩;rw[ho];obtain⟨S,l,sq,ps,v,M,now,hfd,hlg,hdk,hv,hm,hl,hrow⟩:=h;obtain⟨-,-,-,c3⟩:=fd4 hfd;have hfi:=dfindC_ok w v M s hv (by omega);have H:=zE hfd hlg hdk hv hl hrow;obtain⟨ao,cap,rfl,-⟩:=hv.shape;clear hfd hlg hdk hv hl hrow;go_enter Tryz.func24,Tryz.ntmps24;go_wp2_with fail;refine hfi.mono ?_;rintro e w1 ⟨⟨r,hr,rfl⟩,hW⟩;subst hW;clear hfi;rcases hr with ⟨i,x,hi,hxn,rfl⟩ | ⟨hno,rfl⟩
 ·obtain⟨d,hV,e1,e2,e3,e4,e5,e6⟩:=H.out.2.2.2.2.2 i x hi;have hlk:lookK s V=some d:=by rw[←hxn];exact look_of_mem hA (List.mem_of_getElem? hV)
  rw[ho] at hlk;subst hlk;have hil:=(List.getElem?_eq_some_iff.1 hi).1;obtain⟨g,off,cap',hs,-,-,hcell⟩:=H.out.2.2.2.1.cells (by omega);simp only[Value.slice.injEq,true_and] at hs;obtain⟨hs1,-⟩:=hs;subst hs1;obtain⟨y0,y1,y2,y3,y4⟩:=fcc_cells rfl hcell i hil;rw[(List.getElem?_eq_some_iff.1 hi).2] at y0 y1 y2 y3 y4;rw[e1] at y3;have hszk:x.sz≤256 * x.ks.length:=by
   have h1:=congrArg List.length e6;rw[List.length_take] at h1;have h2:(x.ks.flatMap fun k=>now (27+k)).length=256 * x.ks.length:=by
    have key:∀ks:List Nat,(∀k∈ks,k<173)→(ks.flatMap fun k=>now (27+k)).length=256 * ks.length:=fun ks=>by
     induction ks with
     | nil=>intro _;rfl
     | cons k t ih=>
      intro hk;rw[List.flatMap_cons,List.length_append,ih (fun z hz=>hk z (.tail _ hz)),H.out.2.2.1.len (by have:=hk k (.head _);omega),List.length_cons];omega
    exact key x.ks e4
   omega
  have hby:=dbytesD_ok w1 S f p l sq ps _ now q H.out.1 H.out.2.1 H.out.2.2.1 hq x.nm x.sz x.ks x.bl x.dv e5 e3 e4 hszk;have j1:decide ((i:Int)<0)=false:=by simp
  have j2:(i:Int)<(M.length:Int):=by omega
  rw[e2,e6] at hby;rw[e2] at y1;obtain⟨nm,sz,ks,bl,fr,dv⟩:=x;simp only at y0 y1 y2 y4 hby;clear hcell hi hV e1 e2 e3 e4 e5 e6 hil hszk hm hxn;go_wp2_with fail;refine hby.mono ?_;rintro e w2 ⟨a2,c2,rfl,h2,h3⟩;have HH:=zA h2 h3;clear hby h2 h3 y0 y1 y2 y3 y4;go_wp2_with fail;go_ret2;exact⟨_,_,_,0,rfl,rfl,rfl,HH.out.1,HH.out.2⟩
 ·have hlk:lookK s V=none:=look_no fun pr hp=>by
   obtain⟨j,hj,rfl⟩:=List.getElem_of_mem hp;have hjM:j<M.length:=by rw[H.out.2.2.2.2.1];exact hj
   obtain⟨d,h1,-⟩:=H.out.2.2.2.2.2 j _ (List.getElem?_eq_getElem hjM);rw[List.getElem?_eq_getElem hj] at h1;simp only[Option.some.injEq] at h1;rw[h1];exact hno _ (List.getElem_mem hjM)
  rw[ho] at hlk;subst hlk;clear hno hm;go_wp2_with fail;go_ret2;exact⟨_,_,_,6,rfl,rfl,rfl,Sees.nil _ _,Chg.refl _ _⟩
end Go.Proofs.YtlbdklaggalgfaaGreatDoor
namespace Go.Aq.Wd
def dec (l:List UInt8):Nat×Nat:=Lib.decodeN l.length (l.getD 0 0).toNat (l.getD 1 0).toNat (l.getD 2 0).toNat (l.getD 3 0).toNat
def bad (d:Nat×Nat):Bool:=d.1==65533&&d.2==1
def okR (c:Nat):Prop:=c<55296∨(57344≤c∧c≤1114111)
instance (c:Nat):Decidable (okR c):=inferInstanceAs (Decidable (_∨_))
def enc1 (c:Nat):List UInt8:=
 if c<128 then [UInt8.ofNat c]
 else if c<2048 then [UInt8.ofNat (192+c / 64),UInt8.ofNat (128+c % 64)]
 else if c<65536 then [UInt8.ofNat (224+c / 4096),UInt8.ofNat (128+c / 64 % 64),UInt8.ofNat (128+c % 64)]
 else [UInt8.ofNat (240+c / 262144),UInt8.ofNat (128+c / 4096 % 64),UInt8.ofNat (128+c / 64 % 64),UInt8.ofNat (128+c % 64)]
theorem enc1_len (c:Nat):1≤(enc1 c).length∧(enc1 c).length≤4:=by
 unfold enc1;(repeat' split);all_goals simp
theorem u8n (n:Nat) (h:n<256):(UInt8.ofNat n).toNat=n:=by rw[UInt8.toNat_ofNat'];exact Nat.mod_eq_of_lt h
theorem u8e (x:UInt8) (n:Nat) (h:x.toNat=n):UInt8.ofNat n=x:=by subst h;simp
theorem dec_enc (c:Nat) (h:okR c) (t:List UInt8):dec (enc1 c++t)=(c,(enc1 c).length):=by
 unfold okR at h;unfold dec enc1;by_cases h1:c<128
 ·simp only[if_pos h1,List.cons_append,List.nil_append,List.getD_cons_zero,List.length_cons,List.length_nil];rw[u8n c (by omega)];simp[Lib.decodeN,h1]
 ·by_cases h2:c<2048
  ·simp only[if_neg h1,if_pos h2,List.cons_append,List.nil_append,List.getD_cons_zero,List.getD_cons_succ,List.length_cons,List.length_nil];rw[u8n (192+c / 64) (by omega),u8n (128+c % 64) (by omega)];unfold Lib.decodeN;rw[if_neg (by omega),if_pos (by omega),if_pos (by omega)];ext
   ·show (192+c / 64) % 32 * 64+(128+c % 64) % 64=c;omega
   ·rfl
  ·by_cases h3:c<65536
   ·simp only[if_neg h1,if_neg h2,if_pos h3,List.cons_append,List.nil_append,List.getD_cons_zero,List.getD_cons_succ,List.length_cons,List.length_nil];rw[u8n (224+c / 4096) (by omega),u8n (128+c / 64 % 64) (by omega),u8n (128+c % 64) (by omega)];unfold Lib.decodeN;rw[if_neg (by omega),if_neg (by omega),if_pos (by omega),if_pos (by omega)];ext
    ·show (224+c / 4096) % 16 * 4096+(128+c / 64 % 64) % 64 * 64+(128+c % 64) % 64=c;omega
    ·rfl
   ·simp only[if_neg h1,if_neg h2,if_neg h3,List.cons_append,List.nil_append,List.getD_cons_zero,List.getD_cons_succ,List.length_cons,List.length_nil];rw[u8n (240+c / 262144) (by omega),u8n (128+c / 4096 % 64) (by omega),u8n (128+c / 64 % 64) (by omega),u8n (128+c % 64) (by omega)];unfold Lib.decodeN;rw[if_neg (by omega),if_neg (by omega),if_neg (by omega),if_pos (by omega),if_pos (by omega)];ext
    ·show (240+c / 262144) % 8 * 262144+(128+c / 4096 % 64) % 64 * 4096+(128+c / 64 % 64) % 64 * 64+(128+c % 64) % 64=c;omega
    ·rfl
theorem bad_iff (d:Nat×Nat):bad d=true↔d=(65533,1):=by
 obtain⟨a,b⟩:=d;simp[bad]
theorem not_bad (c n:Nat) (h:¬(c=65533∧n=1)):bad (c,n)=false:=by
 cases hb:bad (c,n) with
 | false=>rfl
 | true=>rw[bad_iff] at hb;simp only[Prod.mk.injEq] at hb;exact absurd hb h
theorem dec_good (l:List UInt8) (h:l≠[]) (hb:bad (dec l)=false):
  okR (dec l).1∧(dec l).2=(enc1 (dec l).1).length∧l=enc1 (dec l).1++l.drop (dec l).2:=by
 obtain⟨x0,t0,rfl⟩:∃x t,l=x::t:=by cases l;(exact absurd rfl h);exact⟨_,_,rfl⟩
 have b0:=x0.toNat_lt;unfold dec at hb ⊢;simp only[List.getD_cons_zero,List.getD_cons_succ,List.length_cons] at hb ⊢;unfold Lib.decodeN at hb ⊢;by_cases h1:x0.toNat<128
 ·simp only[if_pos h1] at hb ⊢;refine⟨.inl (by omega),by simp[enc1,h1],?_⟩;simp[enc1,h1]
 ·simp only[if_neg h1] at hb ⊢;split at hb
  ·rename_i h2;rw[if_pos h2];obtain⟨x1,t1,rfl⟩:∃x t,t0=x::t:=by cases t0;(simp at h2);exact⟨_,_,rfl⟩
   have b1:=x1.toNat_lt;simp only[List.getD_cons_zero,List.length_cons] at hb h2 ⊢;split at hb
   ·rename_i h3;rw[if_pos h3];have hc:x0.toNat % 32 * 64+x1.toNat % 64<2048:=by omega
    have e:enc1 (x0.toNat % 32 * 64+x1.toNat % 64)=[x0,x1]:=by
     unfold enc1;rw[if_neg (by omega),if_pos hc,u8e x0 _ (by omega),u8e x1 _ (by omega)]
    refine⟨.inl (by omega),by simp only[e];rfl,by simp only[e];rfl⟩
   ·simp[bad] at hb
  ·rename_i h2;rw[if_neg h2];split at hb
   ·rename_i h3;rw[if_pos h3];obtain⟨x1,t1,rfl⟩:∃x t,t0=x::t:=by cases t0;(simp at h3);exact⟨_,_,rfl⟩
    obtain⟨x2,t2,rfl⟩:∃x t,t1=x::t:=by cases t1;(simp at h3);exact⟨_,_,rfl⟩
    have b1:=x1.toNat_lt;have b2:=x2.toNat_lt;simp only[List.getD_cons_zero,List.getD_cons_succ,List.length_cons] at hb h3 ⊢;split at hb
    ·rename_i h4;rw[if_pos h4];have e:enc1 (x0.toNat % 16 * 4096+x1.toNat % 64 * 64+x2.toNat % 64)=[x0,x1,x2]:=by
      unfold enc1;rw[if_neg (by omega),if_neg (by omega),if_pos (by omega),u8e x0 _ (by omega),u8e x1 _ (by omega),u8e x2 _ (by omega)]
     refine⟨by unfold okR;simp only;omega,by simp only[e];rfl,by simp only[e];rfl⟩
    ·simp[bad] at hb
   ·rename_i h3;rw[if_neg h3];split at hb
    ·rename_i h4;rw[if_pos h4];obtain⟨x1,t1,rfl⟩:∃x t,t0=x::t:=by cases t0;(simp at h4);exact⟨_,_,rfl⟩
     obtain⟨x2,t2,rfl⟩:∃x t,t1=x::t:=by cases t1;(simp at h4);exact⟨_,_,rfl⟩
     obtain⟨x3,t3,rfl⟩:∃x t,t2=x::t:=by cases t2;(simp at h4);exact⟨_,_,rfl⟩
     have b1:=x1.toNat_lt;have b2:=x2.toNat_lt;have b3:=x3.toNat_lt;simp only[List.getD_cons_zero,List.getD_cons_succ,List.length_cons] at hb h4 ⊢;split at hb
     ·rename_i h5;rw[if_pos h5];have e:enc1 (x0.toNat % 8 * 262144+x1.toNat % 64 * 4096+x2.toNat % 64 * 64+x3.toNat % 64)=[x0,x1,x2,x3]:=by
       unfold enc1;rw[if_neg (by omega),if_neg (by omega),if_neg (by omega),u8e x0 _ (by omega),u8e x1 _ (by omega),u8e x2 _ (by omega),u8e x3 _ (by omega)]
      refine⟨by unfold okR;simp only;omega,by simp only[e];rfl,by simp only[e];rfl⟩
     ·simp[bad] at hb
    ·simp[bad] at hb
theorem decN_snd (n b0 b1 b2 b3:Nat):1≤(Lib.decodeN n b0 b1 b2 b3).2∧(Lib.decodeN n b0 b1 b2 b3).2≤4:=by
 unfold Lib.decodeN;(repeat' split);all_goals simp
theorem dec_pos (l:List UInt8):1≤(dec l).2∧(dec l).2≤4:=decN_snd _ _ _ _ _
theorem dec_le (l:List UInt8) (h:l≠[]):(dec l).2≤l.length:=by
 have hp:1≤l.length:=List.length_pos_iff.2 h;cases hb:bad (dec l) with
 | true=>rw[bad_iff] at hb;rw[hb];exact hp
 | false=>
  obtain⟨-,h2,h3⟩:=dec_good l h hb;have:=congrArg List.length h3;rw[List.length_append,List.length_drop,←h2] at this;omega
theorem dec_ascii (x:UInt8) (t:List UInt8) (h:x.toNat<128):dec (x::t)=(x.toNat,1):=by
 simp[dec,Lib.decodeN,h]
theorem dec_high (x:UInt8) (t:List UInt8) (h:128≤x.toNat):128≤(dec (x::t)).1:=by
 unfold dec;simp only[List.getD_cons_zero];unfold Lib.decodeN;rw[if_neg (by omega)];(repeat' split);(all_goals simp only);all_goals omega
def sigsF:Nat→List UInt8→Option (List Nat)
 | 0,_=>some []
 | f+1,l=>if l=[] then some [] else if bad (dec l) then none else (sigsF f (l.drop (dec l).2)).map ((dec l).1::·)
def sigs (l:List UInt8):Option (List Nat):=sigsF l.length l
theorem sigsF_eq:∀(f g:Nat) (l:List UInt8),l.length≤f→l.length≤g→sigsF f l=sigsF g l
 | 0,0,_,_,_=>rfl
 | 0,g+1,l,h,_=>by
  have:l=[]:=List.eq_nil_of_length_eq_zero (by omega);simp[sigsF,this]
 | f+1,0,l,_,h=>by
  have:l=[]:=List.eq_nil_of_length_eq_zero (by omega);simp[sigsF,this]
 | f+1,g+1,l,hf,hg=>by
  simp only[sigsF];split;·rfl
  ·split;·rfl
   ·rename_i hne _;have:=dec_pos l;rw[sigsF_eq f g _ (by rw[List.length_drop];omega) (by rw[List.length_drop];omega)]
theorem sigs_nil:sigs []=some []:=rfl
theorem sigs_step (l:List UInt8) (h:l≠[]):sigs l=if bad (dec l) then none else (sigs (l.drop (dec l).2)).map ((dec l).1::·):=by
 unfold sigs;have hp:1≤l.length:=List.length_pos_iff.2 h;obtain⟨n,hn⟩:∃n,l.length=n+1:=⟨l.length - 1,by omega⟩;rw[hn];simp only[sigsF,if_neg h];split;·rfl
 ·have:=dec_pos l;rw[sigsF_eq n _ _ (by rw[List.length_drop];omega) (Nat.le_refl _)]
def encL (rs:List Nat):List UInt8:=rs.flatMap enc1
theorem encL_cons (c:Nat) (rs:List Nat):encL (c::rs)=enc1 c++encL rs:=by simp[encL]
theorem encL_append (a b:List Nat):encL (a++b)=encL a++encL b:=by simp[encL]
theorem enc1_ne (c:Nat):enc1 c≠[]:=by have:=enc1_len c;intro h;rw[h] at this;simp at this
theorem not_bad_enc (c:Nat) (h:okR c):bad (c,(enc1 c).length)=false:=by
 refine not_bad _ _ ?_;rintro⟨rfl,h2⟩;revert h2;decide
theorem sigs_some:∀(n:Nat) (l:List UInt8) (rs:List Nat),l.length≤n→sigs l=some rs→l=encL rs∧∀c∈rs,okR c
 | 0,l,rs,hn,h=>by
  have hl:l=[]:=List.eq_nil_of_length_eq_zero (by omega);subst hl;rw[sigs_nil] at h;cases h;exact⟨rfl,by simp⟩
 | n+1,l,rs,hn,h=>by
  by_cases hl:l=[]
  ·subst hl;rw[sigs_nil] at h;cases h;exact⟨rfl,by simp⟩
  ·rw[sigs_step l hl] at h;cases hb:bad (dec l) with
   | true=>rw[hb] at h;simp at h
   | false=>
    rw[hb] at h;simp only[Bool.false_eq_true,if_false,Option.map_eq_some_iff] at h;obtain⟨r,hr,rfl⟩:=h;obtain⟨h1,h2,h3⟩:=dec_good l hl hb;have hp:=dec_pos l;have hlen:1≤l.length:=List.length_pos_iff.2 hl;obtain⟨e,ok⟩:=sigs_some n (l.drop (dec l).2) r (by rw[List.length_drop];omega) hr;refine⟨?_,?_⟩;·rw[encL_cons,←e];exact h3
    ·intro c hc;simp only[List.mem_cons] at hc;rcases hc with rfl | hc
     ·exact h1
     ·exact ok c hc
theorem sigs_enc {l:List UInt8} {rs:List Nat} (h:sigs l=some rs):l=encL rs∧∀c∈rs,okR c:=sigs_some _ l rs (Nat.le_refl _) h
def countL (l:List UInt8):Nat×Nat:=match sigs l with | some rs=>(rs.length,0) | none=>(0,4)
def letter (c:Nat):Bool:=(decide (97≤c)&&decide (c≤122)) || (decide (65≤c)&&decide (c≤90)) || (decide (48≤c)&&decide (c≤57)) || c==45 || c==95 || c==46 || c==47 ||
 (decide (192≤c)&&decide (c≤591)&&c != 215&&c != 247) || (decide (880≤c)&&decide (c≤1279)) || (decide (19968≤c)&&decide (c≤40959))
def low (c:Nat):Bool:=decide (c<32) || (decide (127≤c)&&decide (c≤159))
def dbl:List Nat→Bool
 | a::b::t=>(a==47&&b==47) || dbl (b::t)
 | _=>false
def headBad (c:Nat):Bool:=c==45 || c==46 || c==47
def lastBad (c:Nat):Bool:=c==46 || c==47
def nameR (rs:List Nat):Bool:=decide (1≤rs.length)&&decide (rs.length≤40)&&rs.all letter&&!dbl rs&&!headBad (rs.headD 0)&&!lastBad (rs.getLastD 0)
def nameL (l:List UInt8):Bool:=match sigs l with | some rs=>nameR rs | none=>false
def hxd (n:Nat):UInt8:=if n<10 then UInt8.ofNat (48+n) else UInt8.ofNat (87+n)
def hexC (c:Nat):List UInt8:=if c<16 then [hxd c] else [hxd (c / 16),hxd (c % 16)]
def special (c:Nat):Bool:=c==34 || c==92 || low c
def writ (c:Nat):List UInt8:=if c=34∨c=92 then [92,UInt8.ofNat c] else if c=10 then [92,110] else if low c then [92,117,123]++hexC c++[125] else enc1 c
def quoteR (rs:List Nat):List UInt8:=[34]++rs.flatMap writ++[34]
def quoteL (l:List UInt8):List UInt8×Nat:=match sigs l with | some rs=>(quoteR rs,0) | none=>([],4)
def plainF:Nat→List UInt8→Nat×Bool
 | 0,_=>(0,true)
 | f+1,r=>if r=[] then (0,true) else if bad (dec r) || low (dec r).1 then (0,false) else if (dec r).1=32 then (0,true) else if (dec r).1=34 then (0,false)
  else ((dec r).2+(plainF f (r.drop (dec r).2)).1,(plainF f (r.drop (dec r).2)).2)
def plainW (r:List UInt8):Nat×Bool:=plainF r.length r
def escs:List Nat:=[34,92]++List.range 32++(List.range 33).map (127+·)
def escO (r:List UInt8):Option Nat:=escs.find? fun c=>(writ c).isPrefixOf r
def escShort (r:List UInt8):Bool:=escs.any fun c=>r.isPrefixOf (writ c)
def quotF:Nat→List UInt8→List UInt8×Nat×Nat
 | 0,_=>([],0,2)
 | f+1,r=>if r=[] then ([],0,2) else if bad (dec r) || low (dec r).1 then ([],0,4) else if (dec r).1=34 then ([],1,0) else if (dec r).1=92 then
   (match escO r with
    | some k=>(enc1 k++(quotF f (r.drop (writ k).length)).1,(writ k).length+(quotF f (r.drop (writ k).length)).2.1,(quotF f (r.drop (writ k).length)).2.2)
    | none=>if escShort r then ([],r.length,2) else ([],0,4))
  else (enc1 (dec r).1++(quotF f (r.drop (dec r).2)).1,(dec r).2+(quotF f (r.drop (dec r).2)).2.1,(quotF f (r.drop (dec r).2)).2.2)
def quotW (r:List UInt8):List UInt8×Nat×Nat:=quotF r.length r
def wordW (r:List UInt8):List UInt8×Nat×Nat:=
 if r.headD 0=34 then
  (if (quotW (r.drop 1)).2.2≠0 then ([],1+(quotW (r.drop 1)).2.1,(quotW (r.drop 1)).2.2)
   else if r.drop (1+(quotW (r.drop 1)).2.1)≠[]∧(r.drop (1+(quotW (r.drop 1)).2.1)).headD 0≠32 then ([],1+(quotW (r.drop 1)).2.1,4)
   else ((quotW (r.drop 1)).1,1+(quotW (r.drop 1)).2.1,0))
 else (r.take (plainW r).1,(plainW r).1,if (plainW r).2 then 0 else 4)
def blanks:List UInt8→Nat
 | 32::t=>blanks t+1
 | _=>0
def wordsF (n:Nat):Nat→List UInt8→List (List UInt8)→List (List UInt8)×Nat×Nat
 | 0,_,acc=>(acc,0,0)
 | f+1,r,acc=>
  let r1:=r.drop (blanks r)
  if r1=[] then (acc,0,0) else if acc.length=50 then ([],n - r1.length,17)
  else if (wordW r1).2.2≠0 then ([],n - r1.length+(wordW r1).2.1,(wordW r1).2.2)
  else wordsF n f (r1.drop (wordW r1).2.1) (acc++[(wordW r1).1])
def wordsL (l:List UInt8):List (List UInt8)×Nat×Nat:=wordsF l.length (l.length+1) l []
theorem enc1_high (c:Nat) (h:128≤c) (hc:okR c):∀x∈enc1 c,128≤x.toNat:=by
 unfold okR at hc;unfold enc1;rw[if_neg (by omega)];intro x hx;split at hx
 ·simp only[List.mem_cons,List.not_mem_nil,or_false] at hx;rcases hx with rfl | rfl <;> rw[u8n _ (by omega)] <;> omega
 ·split at hx
  ·simp only[List.mem_cons,List.not_mem_nil,or_false] at hx;rcases hx with rfl | rfl | rfl <;> rw[u8n _ (by omega)] <;> omega
  ·simp only[List.mem_cons,List.not_mem_nil,or_false] at hx;rcases hx with rfl | rfl | rfl | rfl <;> rw[u8n _ (by omega)] <;> omega
theorem enc1_low (c:Nat) (h:c<128):enc1 c=[UInt8.ofNat c]:=by simp[enc1,h]
def has2 (l:List UInt8):Bool:=Lib.contains l [47,47]
theorem has2_nil:has2 []=false:=rfl
theorem has2_cons (b:UInt8) (l:List UInt8):has2 (b::l)=((b==47&&l.headD 0==47) || has2 l):=by
 unfold has2 Lib.contains;have hge:=Lib.index_ge l [47,47];have hp:([47,47]:List UInt8).isPrefixOf (b::l)=(b==47&&l.headD 0==47):=by
  cases l with
  | nil=>simp[List.isPrefixOf]
  | cons x t=>simp[List.isPrefixOf,Bool.beq_eq_decide_eq,eq_comm]
 rw[Lib.index,hp];cases hq:(b==47&&l.headD 0==47) with
 | true=>simp
 | false=>
  simp only[Bool.false_eq_true,if_false,Bool.false_or];split;·rename_i h;rw[beq_iff_eq] at h;rw[h]
  ·rename_i h;have h':¬(Lib.index l [47,47]= -1):=by simpa using h
   rw[decide_eq_decide];omega
theorem has2_high:∀(a t:List UInt8),(∀x∈a,128≤x.toNat)→has2 (a++t)=has2 t
 | [],_,_=>rfl
 | x::a,t,h=>by
  have hx:=h x (by simp);have:(x==47)=false:=by
   rw[beq_eq_false_iff_ne];rintro rfl;revert hx;decide
  rw[List.cons_append,has2_cons,this,has2_high a t (fun y hy=>h y (by simp[hy]))];simp
theorem head_encL (rs:List Nat) (ok:∀c∈rs,okR c) (k:Nat) (hk:k<128) (hk0:0<k):((encL rs).headD 0=UInt8.ofNat k)↔rs.headD 0=k:=by
 cases rs with
 | nil=>
  simp only[encL,List.flatMap_nil,List.headD_nil];constructor;·intro h;have:=congrArg UInt8.toNat h;rw[u8n k (by omega)] at this;simpa using this
  ·rintro rfl;omega
 | cons c t=>
  rw[encL_cons];simp only[List.headD_cons];by_cases hc:c<128
  ·rw[enc1_low c hc];simp only[List.cons_append,List.headD_cons];constructor;·intro h;have:=congrArg UInt8.toNat h;rw[u8n k (by omega),u8n c (by omega)] at this;exact this
   ·rintro rfl;rfl
  ·have hh:=enc1_high c (by omega) (ok c (by simp));have hne:=enc1_ne c;cases he:enc1 c with
   | nil=>exact absurd he hne
   | cons x s=>
    have hx:=hh x (by rw[he];simp);simp only[List.cons_append,List.headD_cons];constructor;·intro h;rw[h,u8n k (by omega)] at hx;omega
    ·rintro rfl;omega
theorem getLastD_append {α:Type} (a b:List α) (d:α) (h:b≠[]):(a++b).getLastD d=b.getLastD d:=by
 cases b with
 | nil=>exact absurd rfl h
 | cons x t=>
  rw[List.getLastD_eq_getLast?,List.getLastD_eq_getLast?,List.getLast?_append,List.getLast?_eq_some_getLast (by simp:x::t≠[])];simp
theorem last_encL:∀(rs:List Nat),rs≠[]→(∀c∈rs,okR c)→∀k,k<128→0<k→(((encL rs).getLastD 0=UInt8.ofNat k)↔rs.getLastD 0=k)
 | [],h,_,_,_,_=>absurd rfl h
 | [c],_,ok,k,hk,hk0=>by
  have e:encL [c]=enc1 c:=by simp[encL]
  rw[e];simp only[List.getLastD_cons,List.getLastD_nil];by_cases hc:c<128
  ·rw[enc1_low c hc];simp only[List.getLastD_cons,List.getLastD_nil];constructor;·intro h;have:=congrArg UInt8.toNat h;rw[u8n k (by omega),u8n c (by omega)] at this;exact this
   ·rintro rfl;rfl
  ·have hh:=enc1_high c (by omega) (ok c (by simp));have hm:(enc1 c).getLastD 0∈enc1 c:=by
    rw[List.getLastD_eq_getLast?,List.getLast?_eq_some_getLast (enc1_ne c)];exact List.getLast_mem _
   have:=hh _ hm;constructor;·intro h;rw[h,u8n k (by omega)] at this;omega
   ·rintro rfl;omega
 | c::d::t,_,ok,k,hk,hk0=>by
  have hne:encL (d::t)≠[]:=by rw[encL_cons];simp[enc1_ne]
  rw[encL_cons,getLastD_append _ _ _ hne,last_encL (d::t) (by simp) (fun x hx=>ok x (by simp at hx ⊢;right;exact hx)) k hk hk0];simp only[List.getLastD_cons]
theorem has2_encL:∀rs:List Nat,(∀c∈rs,okR c)→has2 (encL rs)=dbl rs
 | [],_=>rfl
 | [c],ok=>by
  have e:encL [c]=enc1 c:=by simp[encL]
  rw[e];by_cases hc:c<128;·rw[enc1_low c hc,has2_cons,has2_nil];simp[dbl]
  ·have:=has2_high (enc1 c) [] (enc1_high c (by omega) (ok c (by simp)));rw[List.append_nil] at this;rw[this];rfl
 | c::d::t,ok=>by
  have ok':∀x∈d::t,okR x:=fun x hx=>ok x (by simp at hx ⊢;right;exact hx)
  have ih:=has2_encL (d::t) ok';rw[encL_cons,dbl];by_cases hc:c<128
  ·have hh:=head_encL (d::t) ok' 47 (by decide) (by decide);rw[enc1_low c hc,List.cons_append,List.nil_append,has2_cons,ih];congr 1;have h1:(UInt8.ofNat c==47)=(c==47):=by
    rw[Bool.eq_iff_iff,beq_iff_eq,beq_iff_eq];constructor;·intro h;have:=congrArg UInt8.toNat h;rw[u8n c (by omega)] at this;exact this
    ·rintro rfl;rfl
   have h2:((encL (d::t)).headD 0==47)=(d==47):=by
    rw[Bool.eq_iff_iff,beq_iff_eq,beq_iff_eq];exact hh
   rw[h1,h2]
  ·rw[has2_high _ _ (enc1_high c (by omega) (ok c (by simp))),ih];have:(c==47)=false:=jB (by omega);rw[this];simp
end Go.Aq.Wd
