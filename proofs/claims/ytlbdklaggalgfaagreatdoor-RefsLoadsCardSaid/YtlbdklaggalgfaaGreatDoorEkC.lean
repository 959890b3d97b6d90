/- The document's files: Do, on fresh files. No statement of the seat is proved here. -/
import Derived.Test.YtlbdklaggalgfaaGreatDoorG30
set_option linter.unusedSimpArgs false
set_option linter.unusedVariables false
set_option maxHeartbeats 32000000
namespace Go.Proofs.YtlbdklaggalgfaaGreatDoor
open Go.RowKit Go.Aq.Fy Go.Maps
open Go.Aq hiding Own
def EndF (w:World) (now:Nat→Sec) (x:FC) (d:Sec):Prop:=x.fr=false∧x.sz=d.length∧x.ks.length≤256∧(∀k∈x.ks,k<173)∧Sees w 1 x.bl x.ks.length (ints x.ks)∧(x.ks.flatMap fun k=>now (27+k)).take d.length=d
def EndR (w:World) (f p:Nat) (q:Nat) (V:View) (w':World):Prop:=
 ∃(S:List Nat) (l sq ps:Nat) (v:Value) (M:List FC) (now:Nat→Sec),FdB w' f p l v∧LgD w' l p sq ps∧DkR w' S p 200 now q∧Sees w' 5 v M.length (fcc M)∧M.length≤100∧M.length=V.length∧∀(j:Nat) (x:FC),M[j]?=some x→∃d,V[j]?=some (x.nm,d)∧EndF w' now x d
def DoD (w:World) (f p l:Nat) (q:Nat) (S:List Nat) (cs:List ChangeD) (w':World):Prop:=
 (¬((allV [] cs).2=0∧Go.Aq.Fy.Roomy (allV [] cs).1)∧Chg [] w w')∨(((allV [] cs).2=0∧Go.Aq.Fy.Roomy (allV [] cs).1)∧EndR w f p q (allV [] cs).1 w'∧Chg (f::l::S) w w')
theorem DkR.setNe {w:World} {S:List Nat} {p n q:Nat} {now:Nat→Sec} (h:DkR w S p n now q) {A:Addr} {y:Value} (hA:w.cell? A=some y) (hy:∀x:Int,y≠.int .u8 x) (hS:A.block∉S) (u':Value):DkR (w.setCell A u') S p n now q:=by
 obtain⟨sure,pl,wr,vs,vp,ys,zs,h,rfl⟩:=h;have c:Chg [A.block] w (w.setCell A u'):=(Chg.refl _ _).setCell (.inl (by simp)) _;simp only[List.mem_cons,List.mem_append,not_or] at hS;have sec:∀{v:Value} {b:Sec},SecV w (p::(vs.ownBlock.toList++vp.ownBlock.toList)) v b→SecV (w.setCell A u') (p::(vs.ownBlock.toList++vp.ownBlock.toList)) v b:=fun {v b} hv=>
  ⟨hv.sees.setNe hA (fun u hu e=>by
   simp only[Bs,List.mem_map,Bc] at hu;obtain⟨k,-,rfl⟩:=hu;exact hy _ e.symm) u',hv.off⟩
 have pend:∀{l:Puts} {xs:List Value},PendR w (p::(vs.ownBlock.toList++vp.ownBlock.toList)) l xs→PendR (w.setCell A u') (p::(vs.ownBlock.toList++vp.ownBlock.toList)) l xs:=by
  intro l xs hx
  induction hx with
  | nil=>exact .nil
  | cons h1 _ ih=>exact .cons (sec h1) ih
 exact⟨sure,pl,wr,vs,vp,ys,zs,⟨h.blk.chg c (by simpa using fun e=>hS.1 e.symm),h.os.chg c (fun k hk=>by simp;rintro rfl;exact hS.2.1 hk),h.op.chg c (fun k hk=>by simp;rintro rfl;exact hS.2.2 hk),h.ne,fun k hk=>by
  obtain⟨y,h1,h2⟩:=h.rows k hk;exact⟨y,h1,sec h2⟩,pend h.pend,h.now_eq,h.ok,h.cnt⟩,rfl⟩
theorem fcc_set34:∀(M:List FC) (i:Nat) (y:FC),M[i]?=some y→((fcc M).set (i * 5+3) (.bool false)).set (i * 5+4) (.slice none 0 0)=fcc (M.set i { y with fr:=false,dv:=.slice none 0 0 })
 | [],i,y,h=>by simp at h
 | a::t,0,y,h=>by
  simp only[List.getElem?_cons_zero,Option.some.injEq] at h;subst h;rfl
 | a::t,i+1,y,h=>by
  have ih:=fcc_set34 t i y (by simpa using h);show ((a.cs++fcc t).set ((i+1) * 5+3) (.bool false)).set ((i+1) * 5+4) (.slice none 0 0)=a.cs++fcc (t.set i { y with fr:=false,dv:=.slice none 0 0 });have e3:a.cs.length=5:=rfl;rw[List.set_append_right _ _ (by rw[e3];omega),List.set_append_right _ _ (by rw[e3];omega),e3,←ih];congr 2
  ·congr 1;omega
  ·omega
def LastR (w:World) (L:List DF) (j k:Nat) (x:DF) (y:FC):Prop:=
 y.nm=x.nm∧y.sz=x.dat.length∧y.ks=List.range' (pcL (L.take k)).length (cnt x.dat.length)∧Sees w 1 y.bl y.ks.length (ints y.ks)∧(∃a n c,y.dv=.slice a n c)∧(k<j→y.fr=false)
theorem sl_PutsD:SliceTy Tryz.prog 138 140 (.agg #[.int .i64 0,.slice none 0 0]) 2 32:=⟨Tryz.underlying138,by kernel_rfl,rfl,by decide⟩
theorem ptc_snoc (P:List (Nat×Value)) (k:Nat) (v:Value):ptc (P++[(k,v)])=ptc P++[.int .i64 (k:Int),v]:=by simp[ptc]
theorem wr_k (k:Nat) (h:k≤1000):IntKind.i64.wrap ((k:Int) * 256)=((256 * k:Nat):Int)∧IntKind.i64.wrap ((k:Int)+1)=((k+1:Nat):Int)∧IntKind.i64.wrap (((k+1:Nat):Int) * 256)=((256 * (k+1):Nat):Int)∧IntKind.i64.wrap (((k:Int)+1) * 256)=((256 * (k+1):Nat):Int):=by
 refine⟨?_,?_,?_,?_⟩ <;> rw[IntKind.wrap_i64] <;> omega
theorem fcc_set:∀(M:List FC) (i:Nat) (y:FC) (ks:List Nat) (v:Value),M[i]?=some y→(fcc M).set (i * 5+2) v=fcc (M.set i { y with ks:=ks,bl:=v })
 | [],i,y,ks,v,h=>by simp at h
 | a::t,0,y,ks,v,h=>by
  simp only[List.getElem?_cons_zero,Option.some.injEq] at h;subst h;rfl
 | a::t,i+1,y,ks,v,h=>by
  have ih:=fcc_set t i y ks v (by simpa using h);show (a.cs++fcc t).set ((i+1) * 5+2) v=a.cs++fcc (t.set i { y with ks:=ks,bl:=v });have e3:a.cs.length=5:=rfl;rw[List.set_append_right _ _ (by rw[e3];omega),e3,←ih];congr 2;omega
theorem oneV_name {V:View} (c:ChangeD) (h:∀p∈V,nameOk p.1=true):∀p∈(oneV V c).1,nameOk p.1=true:=by
 have hi:∀(s:Nm) (b:Sec) (U:View),nameOk s=true→(∀p∈U,nameOk p.1=true)→∀p∈insK s b U,nameOk p.1=true:=fun s b U hs hU p hp=>by
  rcases mem_ins hp with rfl | hp
  ·exact hs
  ·exact hU p hp
 have hd:∀(s:Nm) (U:View),(∀p∈U,nameOk p.1=true)→∀p∈delK s U,nameOk p.1=true:=fun s U hU p hp=>hU p (mem_del hp).1
 have s':∀e:Nat,∀p∈((V,e):View×Nat).1,nameOk p.1=true:=fun _=>h
 unfold oneV;split;·exact s' 16
 ·next hno=>
  have hn:nameOk c.name=true:=by
   cases hb:nameOk c.name with
   | true=>rfl
   | false=>exact absurd (.inl hb) hno
  have t:∀b,∀p∈(tellV V c.name b).1,nameOk p.1=true:=fun b=>by
   unfold tellV;split;·exact h
   ·exact hi _ _ _ hn h
  split;·exact t _
  ·split;·exact s' 7
   ·split
    ·split;·exact t _
     ·exact s' 6
    ·split
     ·next hk=>
      have ht:nameOk c.tonm=true:=by
       cases hb:nameOk c.tonm with
       | true=>rfl
       | false=>exact absurd (.inr ⟨hk,hb⟩) hno
      unfold renameV;split;·exact s' 6
      ·split;·exact s' 0
       ·split;·exact s' 7
        ·exact hd _ _ (hi _ _ _ ht h)
     ·split;·exact s' 1
      ·split;·exact hd _ _ h
       ·exact s' 6
theorem allV_name:∀(l:List ChangeD) {V:View},(∀p∈V,nameOk p.1=true)→∀p∈(allV V l).1,nameOk p.1=true
 | [],V,h=>h
 | c::l,V,h=>by
  unfold allV;split;·exact allV_name l (oneV_name c h)
  ·exact oneV_name c h
theorem nameOk_len {s:Nm} (h:nameOk s=true):s.length≤80:=by
 unfold nameOk at h;simp only[Bool.and_eq_true,decide_eq_true_eq] at h;exact h.2
theorem tlM_tab {M:List FC} {L:List DF} (hl:M.length=L.length) (h:∀(j:Nat) (x:DF),L[j]?=some x→∃y:FC,M[j]?=some y∧y.nm=x.nm∧y.ks.length=cnt x.dat.length):tlM M=tabN (L.map DF.pr):=by
 unfold tlM tabN;congr 2;rw[List.map_map];refine List.ext_getElem? fun j=>?_
 rw[List.getElem?_map,List.getElem?_map];cases hx:L[j]? with
 | none=>
  have:M[j]?=none:=List.getElem?_eq_none_iff.2 (by rw[hl];exact List.getElem?_eq_none_iff.1 hx);rw[this];rfl
 | some x=>
  obtain⟨y,h1,h2,h3⟩:=h j x hx;rw[h1];simp[DF.pr,h2,h3]
def RowI (B:Nat) (w:World) (L:List DF) (i j:Nat) (x:DF) (y:FC):Prop:=
 y.nm=x.nm∧y.sz=x.dat.length∧y.fr=true∧y.dv=x.dv∧(i≤j→y.ks=[]∧y.bl=.slice none 0 0)∧(j<i→y.ks=List.range' (pcL (L.take j)).length (cnt x.dat.length)∧Sees w 1 y.bl y.ks.length (ints y.ks)∧∀z∈eyes y.bl,B≤z)
structure LpR (B:Nat) (w3:World) (bm:Nat) (a5:Option Addr) (m5 c5 K9:Nat) (L:List DF) (i T m9 o9 c9:Nat) (M:List FC) (F:Value→Option Value) (wr:World):Prop where
 tt:T=(pcL (L.take i)).length∧T+m9=173
 free:Sees wr 1 (.slice (some ⟨K9,o9,none⟩) m9 c9) m9 (ints (List.range' T m9))
 len:M.length=m5
 own:Aq.Own wr 134 5 (.slice a5 m5 c5) m5 (fcc M)
 rows:∀(j:Nat) (x:DF),L[j]?=some x→∃y,M[j]?=some y∧RowI B wr L i j x y
 dat:DatR B wr L
 chg:Chg (bm::(Value.slice a5 m5 c5).ownBlock.toList) w3 wr
structure MpR (B:Nat) (bm:Nat) (L:List DF) (T:Nat) (F:Value→Option Value) (wr:World):Prop where
 map:MapF Tryz.prog 3 wr bm F
 inn:∀k:Nat,k<T→∃a c,F (.int .i64 (k:Int))=some (.slice a 256 c)∧Sees wr 1 (.slice a 256 c) 256 (Bs ((pcL L).getD k []))∧∀z∈eyes (.slice a 256 c),B≤z
 out:∀k:Nat,T≤k→F (.int .i64 (k:Int))=none
set_option maxRecDepth 100000 in
theorem ddo_ok (w:World) (S:List Nat) (f p l:Nat) (now:Nat→Sec) (q:Nat) (v:Value) (cs:List ChangeD) (xs:List Value) (h:DsR w S f p l 1 0 (.slice none 0 0) now q) (hfS:f∉S) (hlS:l∉S) (hfl:f≠l) (hq:q≤100)
  (hv:Sees w 4 v cs.length xs) (hx:CellsC w cs xs) (hcs:FewC cs):
  Calls Tryz.prog 20 #[.pointer (some ⟨f,0,none⟩),v] w fun e w'=>(∃er:Int,e=.returned (.int .i64 er))∧DoD w f p l (q+200) S cs w':=by
 obtain⟨lo,lcap,rfl,-⟩:=hv.shape;obtain⟨-,-,-,d3⟩:=fd4 h.fs;have hc40:=hcs.1;have d3':=((Chg.refl [] w).alloc (.cells #[] 134)).cell_some d3 (by simp);have H:=zG h hfS hlS hfl hq hv hx hcs;clear h hfS hlS hfl hq hv hx hcs;obtain⟨n,HN⟩:∃n,Hid (cs.length=n):=⟨_,rfl⟩;rw[HN.out] at hc40 ⊢;go_enter Tryz.func20,Tryz.ntmps20;have HF1:Hid (Fresh w (w.alloc (.cells #[] 134)) 134 5 (.slice (some ⟨w.heap.size,0,none⟩) 0 0) 0 (fcs [])):=⟨Aq.Own.made w 134 5,(Chg.refl [] w).alloc _,by intro k hk;simp[Value.ownBlock] at hk;exact Nat.le_of_eq hk.symm⟩;go_upto_region 2 with (fail);clear d3';go_wp2_with fail;go_loopg [5,6,7,8] n (fun gk (v5 v6 v7 v8:Value) wr=>∃(i m5:Nat) (a5:Option Addr) (c5:Nat),v5=.slice a5 m5 c5∧v6=.int .i64 (i:Int)∧i+gk=n∧Hid (∃L:List DF,L.length=m5∧m5≤i∧Fresh w wr 134 5 (.slice a5 m5 c5) m5 (fcs L)∧DatR w.heap.size wr L∧allV [] (cs.take i)=(L.map DF.pr,0)));case atStart=>exact⟨0,0,_,_,rfl,rfl,by omega,[],rfl,Nat.le_refl _,HF1.out,fun x hx=>by simp at hx,rfl⟩
 case round=>
  obtain⟨i,m5,a5,c5,rfl,rfl,hik,HI⟩:=hrel;obtain⟨L,hL,hmi,hF,hD,hV⟩:=HI.out;by_cases hi:i<n
  ·have t1:decide ((i:Int)<(n:Int))=true:=decide_eq_true (by omega);have t1':decide (i<n)=true:=decide_eq_true hi;have i2:(i:Int)<(n:Int):=by omega
   have hil:i<cs.length:=by rw[HN.out];exact hi
   obtain⟨g,off,cap',hs,-,hgl,hcell⟩:=(H.out.2.2.2.2.2.1.chg0 hF.chg).cells (by omega);rw[HN.out] at hs hcell;simp only[Value.slice.injEq,true_and] at hs;obtain⟨hs1,hs2⟩:=hs;obtain⟨dv,k0,k1,k2,k3,k4⟩:=H.out.2.2.2.2.2.2.1.get (List.getElem?_eq_getElem hil);have hfew:=H.out.2.2.2.2.2.2.2.2 _ (List.getElem_mem hil);subst hs1;rw[Nat.mul_comm] at k0 k1 k2 k3;have y0:wr.cell? ⟨g,off+i * 4,none⟩=some (.int .i64 cs[i].kind):=(hcell (i * 4) (by omega)).trans k0;have y1:wr.cell? ⟨g,off+i * 4+1,none⟩=some (.string (str cs[i].name)):=(hcell (i * 4+1) (by omega)).trans k1;have y2:wr.cell? ⟨g,off+i * 4+2,none⟩=some (.string (str cs[i].tonm)):=(hcell (i * 4+2) (by omega)).trans k2;have y3:wr.cell? ⟨g,off+i * 4+3,none⟩=some dv:=(hcell (i * 4+3) (by omega)).trans k3;have hsp:cs.take (i+1)=cs.take i++[cs[i]]:=List.take_succ_eq_append_getElem hil;generalize hcc:cs[i]=c at *;obtain⟨kd,nm,tn,data⟩:=c;simp only at y0 y1 y2 y3 k4 hfew;obtain⟨da,dm,dc,rfl⟩:∃a m c,dv=.slice a m c:=by
    obtain⟨a,c,h,-⟩:=k4.shape;exact⟨a,_,c,h⟩
   have hAs:=allV_asc (cs.take i) (V:=[]) asc_nil;rw[hV] at hAs;simp only at hAs;have HAs:=zH hAs.1;have HL:=zH hL;have hone:=done1_ok w.heap.size wr (.pointer (some ⟨f,0,none⟩)) (.slice a5 m5 c5) L kd nm tn data (.slice da dm dc) (by rw[hL];exact hF.own.sees) (by omega) hAs.1 hD hF.chg.size (k4.chg0 hF.chg) hfew;have hw3:=zH (show wrap64 ((i:Int)+1)=((i+1:Nat):Int) from by unfold wrap64;omega);have hpre:Hid (allV [] (cs.take (i+1))=allV (L.map DF.pr) [⟨kd,nm,tn,data⟩]):=by
    show _=_;rw[hsp,allV_app,hV];exact if_pos rfl
   have HP:=zC hik hi hmi hF.chg;have hall:Hid ((oneV (L.map DF.pr) ⟨kd,nm,tn,data⟩).2≠0→(allV [] cs).2≠0):=fun he=>by
    have e:cs=cs.take i++⟨kd,nm,tn,data⟩::cs.drop (i+1):=by rw[←hcc,←List.drop_eq_getElem_cons hil,List.take_append_drop]
    have e1:allV (L.map DF.pr) (⟨kd,nm,tn,data⟩::cs.drop (i+1))=oneV (L.map DF.pr) ⟨kd,nm,tn,data⟩:=if_neg he;rw[e,allV_app,hV,if_pos rfl,e1];exact he
   clear k0 k1 k2 k3 k4 hfew hcell hgl hs2 hsp hcc hAs hF hD hV HI hik hi hmi hil hL;go_wp2_with fail;refine hone.mono ?_;rintro e w2 (⟨hz,v2,L2,rfl,hF2,hD2,hm2⟩ | ⟨hz,er,her,rfl,hc2⟩)
   ·obtain⟨a2,c2,rfl,-⟩:=hF2.shape;have hl2:L2.length≤m5+1:=by
     have h1:=congrArg List.length hm2;rw[List.length_map] at h1;have h2:=(oneV_asc (V:=L.map DF.pr) ⟨kd,nm,tn,data⟩ HAs.out).2;rw[List.length_map,HL.out] at h2;omega
    have HN2:Hid (allV [] (cs.take (i+1))=(L2.map DF.pr,0)):=by
     have h1:allV (L.map DF.pr) [⟨kd,nm,tn,data⟩]=(if (oneV (L.map DF.pr) ⟨kd,nm,tn,data⟩).2=0 then ((oneV (L.map DF.pr) ⟨kd,nm,tn,data⟩).1,0) else oneV (L.map DF.pr) ⟨kd,nm,tn,data⟩):=rfl;show _=_;rw[hpre.out,h1,if_pos hz,hm2]
    have HF2:=zB hF2 hD2 hl2;clear hz hF2 hD2 hm2 hl2 hone;go_wp2_with fail;go_roundg (gk - 1);case measure=>have:=HP.out;omega
    case rel=>exact⟨i+1,L2.length,a2,c2,rfl,by first | rfl | rw[hw3.out],by have:=HP.out;omega,L2,rfl,by have:=HP.out;have:=HF2.out.2.2;omega,⟨HF2.out.1.own,HP.out.2.2.2.nil HF2.out.1.chg,fun k hk=>Nat.le_trans HP.out.2.2.2.size (HF2.out.1.new k hk)⟩,HF2.out.2.1,HN2.out⟩
   ·have herr:¬er=0:=her;have HC:=zA hz hc2;clear hone hz hc2 her;go_wp2_with fail;go_ret;exact⟨⟨er,rfl⟩,.inl ⟨fun hg=>hall.out HC.out.1 hg.1,HP.out.2.2.2.nil HC.out.2⟩⟩
  ·have t1:decide ((i:Int)<(n:Int))=false:=decide_eq_false (by omega);have t1':decide (i<n)=false:=decide_eq_false hi;obtain rfl:i=n:=by omega
   rw[List.take_of_length_le (by rw[HN.out];exact Nat.le_refl _)] at hV;have hfr:=dfree_ok wr S f p l 1 0 now q (H.out.1.chg0 hF.chg);have HL:=zD hL hmi hF hD hV;have hm40:m5≤40:=by omega
   clear hik hi hL hmi hF hD hV HI d3;go_wp2_with fail;refine hfr.mono ?_;rintro e w2 ⟨v9,rfl,hF9⟩;obtain⟨K9,cap9,rfl,hc9,-,-⟩:=hF9.own.pos (by decide);obtain⟨bm,hbm⟩:∃bm,w2.heap.size=bm:=⟨_,rfl⟩;obtain⟨w3,hw3⟩:∃w3,w2.alloc (.map #[] 0)=w3:=⟨_,rfl⟩;have rm:(Instr.makeMap 76 none).run Tryz.prog w2=.ok (.map (some bm)) w3:=by rw[←hw3,←hbm];kernel_rfl
   have hM0:MapF Tryz.prog 3 w3 bm (fun _=>none):=by rw[←hw3,←hbm];exact MapF.new _ _ _
   have c23:Chg [] w2 w3:=by rw[←hw3];exact (Chg.refl _ _).alloc _
   have HK9:Hid (w.heap.size≤K9):=Nat.le_trans HL.out.2.2.1.chg.size (hF9.new K9 (by simp[Value.ownBlock]));have HX3:Hid (Chg [] w w2∧Chg [] w w3∧w.heap.size≤bm):=⟨HL.out.2.2.1.chg.nil hF9.chg,(HL.out.2.2.1.chg.nil hF9.chg).nil c23,by rw[←hbm];exact (HL.out.2.2.1.chg.nil hF9.chg).size⟩;have c13:=hF9.chg.nil c23;have HP0:Hid (LpR w.heap.size w3 bm a5 m5 c5 K9 L 0 0 173 0 cap9 (L.map f0) (fun _=>none) w3):=
    ⟨⟨rfl,rfl⟩,by
     have:=(hF9.to c23).own.sees;rw[List.range_eq_range'] at this;exact this,by rw[List.length_map];exact HL.out.1,by rw[←fcs_f0];exact (HL.out.2.2.1.to c13).own,fun j x hx=>⟨f0 x,by rw[List.getElem?_map,hx];rfl,rfl,rfl,rfl,rfl,fun _=>⟨rfl,rfl⟩,fun h=>absurd h (Nat.not_lt_zero _)⟩,HL.out.2.2.2.1.chg0 c13,Chg.refl _ _⟩
   have HM0:Hid (MpR w.heap.size bm L 0 (fun _=>none) w3):=⟨hM0,fun k hk=>absurd hk (Nat.not_lt_zero _),fun _ _=>rfl⟩;clear hM0 c23 hF9 c13 hfr hw3 hbm hc9;go_wp2_with fail;clear rm;go_loopg [9,11,12,13,14] m5 (fun gk (v9 v11 v12 v13 v14:Value) wr=>∃(i T m9 o9 c9:Nat),v9=.slice (some ⟨K9,o9,none⟩) m9 c9∧v11=.int .i64 (i:Int)∧i+gk=m5∧Hid (∃M F,LpR w.heap.size w3 bm a5 m5 c5 K9 L i T m9 o9 c9 M F wr∧MpR w.heap.size bm L T F wr));case atStart=>exact⟨0,0,173,0,cap9,rfl,rfl,by omega,_,_,HP0.out,HM0.out⟩
   case round=>
    obtain⟨i,T,m9,o9,c9,rfl,rfl,hik,HI⟩:=hrel;obtain⟨M,F,hP,hM⟩:=HI.out;by_cases hi:i<m5
    ·have t1:decide ((i:Int)<(m5:Int))=true:=decide_eq_true (by omega);have t1':decide (i<m5)=true:=decide_eq_true hi;have i2:(i:Int)<(m5:Int):=by omega
     have hil:i<L.length:=by rw[HL.out.1];exact hi
     obtain⟨g5,cc5,h5,-,-,-⟩:=hP.own.pos (by omega);simp only[Value.slice.injEq,true_and] at h5;obtain⟨rfl,-⟩:=h5;obtain⟨y,hy,hRy⟩:=hP.rows i _ (List.getElem?_eq_getElem hil);have hMl:i<M.length:=by rw[hP.len];exact hi
     have hyM:M[i]=y:=(List.getElem?_eq_some_iff.1 hy).2;have q1:=(hP.own.cellAt (i * 5+1) (by omega)).trans (fcc_at M i hMl 1 (by decide));have q2:=(hP.own.cellAt (i * 5+2) (by omega)).trans (fcc_at M i hMl 2 (by decide));have q3:=(hP.own.cellAt (i * 5+3) (by omega)).trans (fcc_at M i hMl 3 (by decide));have q4:=(hP.own.cellAt (i * 5+4) (by omega)).trans (fcc_at M i hMl 4 (by decide));have qf:=hP.own.frozenAt (i * 5+2);obtain⟨r1,r2,r3,r4,r5,-⟩:=hRy;have hdx:=hP.dat _ (List.getElem_mem hil);generalize hxx:L[i]=x at *;rw[hyM] at q1 q2 q3 q4;unfold FC.cs at q1 q2 q3 q4;simp only[List.getElem?_cons_zero,List.getElem?_cons_succ,r2,r3,r4,(r5 (Nat.le_refl _)).2] at q1 q2 q3 q4;obtain⟨nm,dat,dao,dcap⟩:=x;unfold DF.dv at q4 hdx;simp only at q1 q4 hdx;have hct:=dcount_ok wr dat.length (by have:=hdx.1;omega);have hgx:L[i]?=some ⟨nm,dat,dao,dcap⟩:=by rw[List.getElem?_eq_getElem hil,hxx]
     have hpt:=pcL_take L i hil;rw[hxx] at hpt;simp only at hpt;have hple:=pcL_le L (i+1);obtain⟨dl,hdl⟩:∃dl,dat.length=dl:=⟨_,rfl⟩;obtain⟨cn,hcn⟩:∃cn,cnt dl=cn:=⟨_,rfl⟩;rw[hdl] at q1 q4 hdx hct hpt;rw[hcn] at hct hpt;have hcb:dl≤cn * 256∧cn≤256∧cn * 256<dl+256:=by have:=hdx.1;rw[←hcn];unfold cnt;omega
     have HC:Hid (Chg [] w wr):=HX3.out.2.1.trans hP.chg (fun k hk=>.inr (by
      rcases List.mem_cons.1 hk with rfl | hk
      ·exact HX3.out.2.2
      ·exact HL.out.2.2.1.new k hk))
     have HP:=zH (And.intro hP (And.intro hM (And.intro hik (And.intro hi (And.intro hil (And.intro hgx (And.intro hpt (And.intro hple (And.intro hdl hcn)))))))));have hT:=hP.tt;clear hy r1 r2 r3 r4 r5 hyM hMl HI hM hik hi hgx hxx hil hple;go_wp2_with fail;refine hct.mono ?_;rintro e w5 ⟨rfl,hW⟩;subst hW;clear hct;by_cases hbig:m9<cn
     ·have t2:decide ((m9:Int)<(cn:Int))=true:=decide_eq_true (by omega);have t2':decide (m9<cn)=true:=decide_eq_true hbig;have hno:¬((allV [] cs).2=0∧Go.Aq.Fy.Roomy (allV [] cs).1):=fun hg=>by
       have h1:=hg.2.1;rw[HL.out.2.2.2.2] at h1;simp only at h1;rw[←pcL_len] at h1;have:=HP.out.2.2.2.2.2.2.2.1;omega
      have HN:=zH hno;clear hno hbig hpt hT hP;go_wp2_with fail;go_ret;exact⟨⟨8,rfl⟩,.inl ⟨HN.out,HC.out⟩⟩
     ·have t2:decide ((m9:Int)<(cn:Int))=false:=decide_eq_false (by omega);have t2':decide (m9<cn)=false:=decide_eq_false hbig;obtain⟨ao',cap',he',hc9,-⟩:=hP.free.shape;simp only[Value.slice.injEq,true_and] at he';obtain⟨-,rfl⟩:=he';have b1:(cn:Int)≤(c9:Int):=by omega
      have b2:(cn:Int)≤(m9:Int):=by omega
      have b3:(0:Int)≤(cn:Int):=by omega
      have b4:cn≤c9:=by omega
      have b5:cn≤m9:=by omega
      have hP:=HP.out.1;have hne:∀u∈ints (List.range' T m9),u≠Value.slice none 0 0:=fun u hu e=>by
       simp only[ints,List.mem_map] at hu;obtain⟨k,-,rfl⟩:=hu;cases e
      have hfr6:=hP.free.setNe q2 hne (.slice (some ⟨K9,o9,none⟩) cn c9);have how6:=hP.own.set (i * 5+2) (.slice (some ⟨K9,o9,none⟩) cn c9);have hbl6:Sees (w5.setCell ⟨g5,i * 5+2,none⟩ (.slice (some ⟨K9,o9,none⟩) cn c9)) 1 (.slice (some ⟨K9,o9,none⟩) cn c9) cn (ints (List.range' T cn)):=by
       have h1:=hfr6.sliced (Nat.zero_le cn) b5;have h2:Go.sliced (some ⟨K9,o9,none⟩) 0 cn c9 1=.slice (some ⟨K9,o9,none⟩) cn c9:=by unfold Go.sliced;simp[Addr.add]
       rw[h2] at h1;have h3:((ints (List.range' T m9)).drop (0 * 1)).take ((cn - 0) * 1)=ints (List.range' T cn):=by
        rw[Nat.zero_mul,List.drop_zero,Nat.sub_zero,Nat.mul_one];unfold ints;rw[←List.map_take,List.take_range'_of_length_ge b5]
       rw[h3] at h1;exact h1
      have c6:Chg (Value.slice (some ⟨g5,0,none⟩) m5 c5).ownBlock.toList w5 (w5.setCell ⟨g5,i * 5+2,none⟩ (.slice (some ⟨K9,o9,none⟩) cn c9)):=(Chg.refl _ _).setCell (.inl (by simp[Value.ownBlock])) _;have hset:∀(n:Nat) (v:Value) (b:Sec),Sees w5 1 v n (Bs b)→Sees (w5.setCell ⟨g5,i * 5+2,none⟩ (.slice (some ⟨K9,o9,none⟩) cn c9)) 1 v n (Bs b):=fun n v b h=>h.setNe q2 (fun u hu e=>by
       simp only[Bs,List.mem_map,Bc] at hu;obtain⟨k,-,rfl⟩:=hu;cases e) _
      have hseti:∀(n:Nat) (v:Value) (b:List Nat),Sees w5 1 v n (ints b)→Sees (w5.setCell ⟨g5,i * 5+2,none⟩ (.slice (some ⟨K9,o9,none⟩) cn c9)) 1 v n (ints b):=fun n v b h=>h.setNe q2 (fun u hu e=>by
       simp only[ints,List.mem_map] at hu;obtain⟨k,-,rfl⟩:=hu;cases e) _
      have hlen6:=HP.out.2.2.2.1;have x1:(w5.setCell ⟨g5,i * 5+2,none⟩ (.slice (some ⟨K9,o9,none⟩) cn c9)).cell? ⟨g5,i * 5+1,none⟩=some (.int .i64 (dl:Int)):=by
       rw[World.cell?_setCell_other _ _ _ _ (fun e=>by have h:=congrArg Addr.off e;simp only at h;omega)];exact q1
      have x4:(w5.setCell ⟨g5,i * 5+2,none⟩ (.slice (some ⟨K9,o9,none⟩) cn c9)).cell? ⟨g5,i * 5+4,none⟩=some (.slice dao dl dcap):=by
       rw[World.cell?_setCell_other _ _ _ _ (fun e=>by have h:=congrArg Addr.off e;simp only at h;omega)];exact q4
      have x2:(w5.setCell ⟨g5,i * 5+2,none⟩ (.slice (some ⟨K9,o9,none⟩) cn c9)).cell? ⟨g5,i * 5+2,none⟩=some (.slice (some ⟨K9,o9,none⟩) cn c9):=World.cell?_setCell_same' _ _ _ (by rw[q2];rfl);have hdt6:=hset _ _ _ hdx.2.1;have HS:=zE hfr6 how6 hbl6 c6 hdx.2.2 hdx.1;have HSS:=zA hset hseti;clear hP hne hfr6 how6 hbl6 c6 hset hseti hdx hlen6;go_upto_region 19 with (fail);generalize w5.setCell ⟨g5,i * 5+2,none⟩ (.slice (some ⟨K9,o9,none⟩) cn c9)=W6 at *;clear q1 q2 q3 q4 qf;go_cut [9] from 50 to 117 (fun s wx=>wx=W6∧∃(o2 c2 m2:Nat),s=.slice (some ⟨K9,o2,none⟩) m2 c2∧Hid (m2=m9 - cn∧Sees W6 1 (.slice (some ⟨K9,o2,none⟩) m2 c2) m2 (ints (List.range' (T+cn) m2))));case first=>
       have hsl:=HS.out.1.sliced b5 (Nat.le_refl m9);have h3:((ints (List.range' T m9)).drop (cn * 1)).take ((m9 - cn) * 1)=ints (List.range' (T+cn) (m9 - cn)):=by
        rw[Nat.mul_one,Nat.mul_one];unfold ints;rw[←List.map_drop,←List.map_take,List.drop_range',Nat.mul_one,List.take_of_length_le (by simp)]
       rw[h3] at hsl;by_cases hcc:c9=cn
       ·have e9:Go.sliced (some ⟨K9,o9,none⟩) cn m9 c9 1=.slice (some ⟨K9,o9,none⟩) (m9 - cn) (c9 - cn):=by unfold Go.sliced;rw[if_pos hcc]
        rw[e9,show c9 - cn=0 by omega] at hsl;have HSL:=zH hsl;clear hsl e9 h3;go_wp2_with fail;go_meet;exact⟨rfl,_,_,_,rfl,rfl,HSL.out⟩
       ·have e9:Go.sliced (some ⟨K9,o9,none⟩) cn m9 c9 1=.slice (some ⟨K9,o9+cn,none⟩) (m9 - cn) (c9 - cn):=by unfold Go.sliced;rw[if_neg hcc];simp[Addr.add_lit]
        rw[e9] at hsl;have HSL:=zH hsl;clear hsl e9 h3;go_wp2_with fail;go_meet;exact⟨rfl,_,_,_,rfl,rfl,HSL.out⟩
      case rest=>
       obtain⟨hwc,o2,c2,m2,rfl,hR2⟩:=hcut;subst hwc;have hcp:=copy_any wc.drew (.slice dao dl dcap) dl dat (hdt6.chg0 ((Chg.refl [] wc).drew)) (by have:=HS.out.2.2.2.2.2;omega) sl_u8D;have hcw:wrap64 ((cn:Int) * 256)=((cn * 256:Nat):Int):=by unfold wrap64;omega
       have hcw':IntKind.i64.wrap ((cn:Int) * 256)=((cn * 256:Nat):Int):=wIqD hcw;obtain⟨z,hz⟩:∃z,dl+z=cn * 256:=⟨cn * 256 - dl,by omega⟩;have hsw:wrap64 (((cn * 256:Nat):Int) - (dl:Int))=(z:Int):=by unfold wrap64;omega
       have hsw':IntKind.i64.wrap (((cn * 256:Nat):Int) - (dl:Int))=(z:Int):=wIqD hsw;have hsw2:IntKind.i64.wrap ((cn:Int) * 256 - (dl:Int))=(z:Int):=by rw[←hsw'];congr 1
       have hzz:z=0∨0<dl:=by omega
       have HZ:=zB hz hzz HS.out.2.2.2.2.2;have HC0:Hid (∀w4,Chg [] wc.drew w4→w4.cell? ⟨g5,i * 5+1,none⟩=some (.int .i64 (dl:Int))∧w4.cell? ⟨g5,i * 5+4,none⟩=some (.slice dao dl dcap)):=fun w4 c4=>⟨c4.cell_some x1 (by simp),c4.cell_some x4 (by simp)⟩
       clear hz hzz hcw hsw;go_upto_region 20 with (fail);refine wp_region_E [] (by kernel_rfl) ?_;have C0:Chg [] wc.drew wc.drew:=Chg.refl _ _;have D0:=zH (show Chg [] wc wc.drew from (Chg.refl [] wc).drew);generalize wc.drew=W0 at *;refine tE 0 (.slice (some ⟨g5,0,none⟩) m5 c5) C0 (fun w4 c4=>?_) ?_;·go_simp
       refine yG ?_;refine tE 1 (.int .i64 (i:Int)) C0 (fun w4 c4=>?_) ?_;·go_simp
       refine yG ?_;refine tE 2 (.pointer (some ⟨g5,i * 5,none⟩)) C0 (fun w4 c4=>?_) ?_;·go_simp
       refine yG ?_;refine tE 3 (.pointer (some ⟨g5,i * 5+4,none⟩)) C0 (fun w4 c4=>?_) ?_;·go_simp
       refine yG ?_;refine tE 4 (.slice dao dl dcap) C0 (fun w4 c4=>?_) ?_
       ·obtain⟨z1,z4⟩:=HC0.out w4 c4;go_simp
       refine yG ?_;refine tE 6 (.int .i64 (cn:Int)) C0 (fun w4 c4=>?_) ?_;·go_simp
       refine yG ?_;refine tE 7 (.int .i64 ((cn * 256:Nat):Int)) C0 (fun w4 c4=>?_) ?_;·go_simp
       refine yG ?_;refine tE 8 (.slice (some ⟨g5,0,none⟩) m5 c5) C0 (fun w4 c4=>?_) ?_;·go_simp
       refine yG ?_;refine tE 9 (.int .i64 (i:Int)) C0 (fun w4 c4=>?_) ?_;·go_simp
       refine yG ?_;refine tE 10 (.pointer (some ⟨g5,i * 5,none⟩)) C0 (fun w4 c4=>?_) ?_;·go_simp
       refine yG ?_;refine tE 11 (.pointer (some ⟨g5,i * 5+1,none⟩)) C0 (fun w4 c4=>?_) ?_;·go_simp
       refine yG ?_;refine tE 12 (.int .i64 (dl:Int)) C0 (fun w4 c4=>?_) ?_
       ·obtain⟨z1,z4⟩:=HC0.out w4 c4;go_simp
       refine yG ?_;refine tE 13 (.int .i64 (z:Int)) C0 (fun w4 c4=>?_) ?_;·go_simp
       refine yG ?_;refine oE 5 ?_;go_simp;refine hcp.mono ?_;rintro e Wa ⟨va,rfl,oa,ca,na⟩;obtain⟨aa,pa,rfl,-⟩:=oa.sees.shape;refine⟨ca,?_⟩;refine yG ?_;have hFa:Fresh W0 Wa 5 1 (.slice aa dl pa) dl (Bs dat):=⟨oa,ca,na⟩;clear hcp oa na;refine oE 14 ?_;refine wp_appZ (k:=z) _ _ 38 3 (by rfl) sl_u8D rfl rfl Tryz.underlying3 hFa (by rfl) (by rfl) HZ.out.2.1 (by have:=HZ.out;omega) (by have:=HZ.out;omega) ?_;intro vb Wb hFb cb;obtain⟨ab,pb,rfl,-⟩:=hFb.shape;rw[HZ.out.1] at hFb;(try rw[HZ.out.1]);refine⟨hFb.chg,?_⟩;refine yG ?_;refine tE 15 (.slice ab (cn * 256) pb) hFb.chg (fun w4 c4=>?_) ?_;·go_simp
       refine yG ?_;refine wpAnyE_done (by kernel_rfl) ?_ _;have HFB:=zH hFb;clear hFa ca cb hFb C0 HC0;go_wp2_with fail;obtain⟨G,hG⟩:∃G,G=gk:=⟨_,rfl⟩;have HG:=zH hG;clear hG hdt6 x1 x4;have hP:=HP.out.1;have hMm:=HP.out.2.1;have hbg5:=hMm.map.own hP.own;have c6b:Chg [] wc Wb:=D0.out.nil HFB.out.chg;have cSb:Chg (Value.slice (some ⟨g5,0,none⟩) m5 c5).ownBlock.toList w5 Wb:=HS.out.2.2.2.1.nil c6b;have HM0:Hid (MpR w.heap.size bm L (T+0) F Wb):=⟨hMm.map.chg cSb hbg5,fun k hk=>by
        obtain⟨a,c,h1,h2,h3⟩:=hMm.inn k hk;exact⟨a,c,h1,(HSS.out.1 _ _ _ h2).chg0 c6b,h3⟩,hMm.out⟩
       have HOW:Hid (Aq.Own Wb 134 5 (.slice (some ⟨g5,0,none⟩) m5 c5) m5 ((fcc M).set (i * 5+2) (.slice (some ⟨K9,o9,none⟩) cn c9))∧Sees Wb 1 (.slice (some ⟨K9,o9,none⟩) cn c9) cn (ints (List.range' T cn))∧Sees Wb 1 (.slice (some ⟨K9,o2,none⟩) m2 c2) m2 (ints (List.range' (T+cn) m2))):=⟨HS.out.2.1.chg c6b (fun _ _=>by simp),HS.out.2.2.1.chg0 c6b,hR2.out.2.chg0 c6b⟩;have HBK:=zA c6b cSb;have x2b:Wb.cell? ⟨g5,i * 5+2,none⟩=some (.slice (some ⟨K9,o9,none⟩) cn c9):=c6b.cell_some x2 (by simp);have g5b:g5∉[bm]:=fun e=>by rw[List.mem_singleton] at e;exact hbg5 (by rw[e];simp[Value.ownBlock])
       have hkb:=hT.2;clear x2 hP hMm hbg5 c6b cSb;go_loopg [14] cn (fun gk2 (v14:Value) wr2=>∃k:Nat,v14=.int .i64 (k:Int)∧k+gk2=cn∧Hid (∃F',MpR w.heap.size bm L (T+k) F' wr2∧Chg [bm] Wb wr2));case atStart=>exact⟨0,rfl,by omega,F,HM0.out,Chg.refl _ _⟩
       case round=>
        obtain⟨k,rfl,hk,HK⟩:=hrel;obtain⟨F2,hM2,cM2⟩:=HK.out;by_cases hkc:k<cn
        ·have t3:decide ((k:Int)<(cn:Int))=true:=decide_eq_true (by omega);have t3':decide (k<cn)=true:=decide_eq_true hkc;have k2:(k:Int)<(cn:Int):=by omega
         obtain⟨gb,pb',hgb,hpb,-,-⟩:=HFB.out.own.pos (by omega);simp only[Value.slice.injEq,true_and] at hgb;obtain⟨hgb1,hgb2⟩:=hgb;subst hgb1;rw[←hgb2] at hpb;have hbK:K9∉[bm]:=fun e=>by
          rw[List.mem_singleton] at e;exact hM2.map.eyes (HOW.out.2.1.chg cM2 (fun x hx hx'=>HM0.out.map.eyes HOW.out.2.1 (by decide) (by rw[List.mem_singleton.1 hx'] at hx;exact hx))) (by decide) (by rw[←e];show K9∈(if cn=0 then [] else [K9]);rw[if_neg (by omega)];simp)
         have hsg:Bs dat++List.replicate z (Value.int .u8 0)=Bs (dat++nul z):=by rw[Bs_append];simp[nul,Bs,Bc]
         have hpc0:Sees Wb 1 (.slice (some ⟨gb,256 * k,none⟩) 256 (pb - 256 * k)) 256 (Bs (((dat++nul z).drop (256 * k)).take 256)):=by
          have h1:=HFB.out.own.sees;rw[hsg,Nat.mul_comm cn 256] at h1;exact pieceD h1 hkc
         have hbG:gb∉[bm]:=fun e=>by
          rw[List.mem_singleton] at e;exact HM0.out.map.eyes hpc0 (by decide) (by rw[←e];simp[eyes])
         have HCK:Hid (∀w4,Chg [bm] wr.drew w4→w4.cell? ⟨g5,i * 5+2,none⟩=some (.slice (some ⟨K9,o9,none⟩) cn c9)∧w4.cell? ⟨K9,o9+k,none⟩=some (.int .i64 ((T+k:Nat):Int))):=fun w4 c4=>by
          have cc:Chg [bm] Wb w4:=(cM2.drew).tr c4;obtain⟨h1,ao,cap,h2,h3,h4,h5⟩:=HOW.out.2.1;simp only[Value.slice.injEq,true_and] at h2;obtain⟨rfl,-⟩:=h2;have h6:=h5 _ rfl k (.int .i64 ((T+k:Nat):Int)) (by simp[ints,hkc]);rw[Addr.add_lit] at h6;exact⟨cc.cell_some x2b g5b,cc.cell_some h6 hbK⟩
         have hpcw:Hid (∀W,Chg [bm] Wb W→Sees W 1 (.slice (some ⟨gb,256 * k,none⟩) 256 (pb - 256 * k)) 256 (Bs (((dat++nul z).drop (256 * k)).take 256))):=fun W c=>hpc0.chg c (fun x hx=>by
          have:x=gb:=by simpa[eyes] using hx
          rw[this];exact hbG)
         have hpl:=pcL_get L i k (by exact HP.out.2.2.2.2.1) (by rw[(List.getElem?_eq_some_iff.1 HP.out.2.2.2.2.2.1).2];show k<cnt dat.length;rw[HP.out.2.2.2.2.2.2.2.2.1,HP.out.2.2.2.2.2.2.2.2.2];exact hkc);rw[(List.getElem?_eq_some_iff.1 HP.out.2.2.2.2.2.1).2] at hpl;simp only at hpl;rw[HP.out.2.2.2.2.2.2.2.2.1,HP.out.2.2.2.2.2.2.2.2.2,←hT.1,show cn * 256 - dl=z by have:=HZ.out.1;omega] at hpl;have hbz:Hid (w.heap.size≤gb):=Nat.le_trans HC.out.size (Nat.le_trans HS.out.2.2.2.1.size (Nat.le_trans D0.out.size (HFB.out.new gb (by simp[Value.ownBlock]))));obtain⟨A,hA⟩:∃A,256 * k=A:=⟨_,rfl⟩;obtain⟨C1,hC1⟩:∃C1,k+1=C1:=⟨_,rfl⟩;obtain⟨B,hB⟩:∃B,256 * C1=B:=⟨_,rfl⟩;have hwk:=wr_k k (by omega);have e1':IntKind.i64.wrap ((k:Int) * 256)=(A:Int):=by rw[←hA];exact hwk.1
         have e2':IntKind.i64.wrap ((k:Int)+1)=(C1:Int):=by rw[←hC1];exact hwk.2.1
         have e3':IntKind.i64.wrap ((C1:Int) * 256)=(B:Int):=by rw[←hB,←hC1];exact hwk.2.2.1
         have HE:=zB e1' e2' e3';clear hwk e1' e2' e3';have l0:(0:Int)≤(A:Int):=by omega
         have l1:(A:Int)≤(B:Int):=by omega
         have l2:(B:Int)≤(pb:Int):=by omega
         have l3:B≤pb:=by omega
         have l4:A≤B:=by omega
         have l5:¬pb=A:=by omega
         have l6:B - A=256:=by omega
         rw[hA] at hpcw;clear hB;have HA:=zH hA;clear hA hC1;have hMd:MpR w.heap.size bm L (T+k) F2 wr.drew:=⟨hM2.map.chg ((Chg.refl [] wr).drew) (by simp),fun j hj=>by
          obtain⟨a,c,h1,h2,h3⟩:=hM2.inn j hj;exact⟨a,c,h1,h2.chg0 ((Chg.refl [] wr).drew),h3⟩,hM2.out⟩
         have HK2:=zD hk hkc cM2.drew hMd hpl;clear hk hkc cM2 hMd hpl hM2 HK hpc0 hbG hbK hsg hgb2 hpb;obtain⟨e1',e2',e3'⟩:=HE.out;go_upto_region 24 with (fail);refine wp_region_E [bm] (by kernel_rfl) ?_;have C0:Chg [bm] wr.drew wr.drew:=Chg.refl _ _;generalize wr.drew=W2 at *;refine tE 0 (.map (some bm)) C0 (fun w4 c4=>?_) ?_;·go_simp
         refine yG ?_;refine tE 1 (.slice (some ⟨g5,0,none⟩) m5 c5) C0 (fun w4 c4=>?_) ?_;·go_simp
         refine yG ?_;refine tE 2 (.int .i64 (i:Int)) C0 (fun w4 c4=>?_) ?_;·go_simp
         refine yG ?_;refine tE 3 (.pointer (some ⟨g5,i * 5,none⟩)) C0 (fun w4 c4=>?_) ?_;·go_simp
         refine yG ?_;refine tE 4 (.pointer (some ⟨g5,i * 5+2,none⟩)) C0 (fun w4 c4=>?_) ?_;·go_simp
         refine yG ?_;refine tE 5 (.slice (some ⟨K9,o9,none⟩) cn c9) C0 (fun w4 c4=>?_) ?_
         ·obtain⟨z2,zk⟩:=HCK.out w4 c4;go_simp
         refine yG ?_;refine tE 6 (.int .i64 (k:Int)) C0 (fun w4 c4=>?_) ?_;·go_simp
         refine yG ?_;refine tE 7 (.pointer (some ⟨K9,o9+k,none⟩)) C0 (fun w4 c4=>?_) ?_;·go_simp
         refine yG ?_;refine tE 8 (.int .i64 ((T+k:Nat):Int)) C0 (fun w4 c4=>?_) ?_
         ·obtain⟨z2,zk⟩:=HCK.out w4 c4;go_simp
         refine yG ?_;refine tE 9 (.slice (some ⟨gb,0,none⟩) (cn * 256) pb) C0 (fun w4 c4=>?_) ?_;·go_simp
         refine yG ?_;refine tE 10 (.int .i64 (k:Int)) C0 (fun w4 c4=>?_) ?_;·go_simp
         refine yG ?_;refine tE 11 (.int .i64 (A:Int)) C0 (fun w4 c4=>?_) ?_;·go_simp
         refine yG ?_;refine tE 12 (.int .i64 (k:Int)) C0 (fun w4 c4=>?_) ?_;·go_simp
         refine yG ?_;refine tE 13 (.int .i64 (C1:Int)) C0 (fun w4 c4=>?_) ?_;·go_simp
         refine yG ?_;refine tE 14 (.int .i64 (B:Int)) C0 (fun w4 c4=>?_) ?_;·go_simp
         refine yG ?_;refine tE 15 (.slice (some ⟨gb,A,none⟩) 256 (pb - A)) C0 (fun w4 c4=>?_) ?_;·go_simp
         refine yG ?_;refine oE 16 ?_;refine wp_putF _ _ _ 76 (by rfl) lawI Tryz.underlying76 HK2.out.2.2.2.1.map (by rfl) (goodI (T+k) (by omega)) (by rfl) (by rfl) ?_;intro W3 hM3 c3;refine⟨c3,?_⟩;refine yG ?_;refine wpAnyE_done (by kernel_rfl) ?_ _;have HN3:Hid (∃F',MpR w.heap.size bm L (T+(k+1)) F' W3∧Chg [bm] Wb W3):=by
          refine⟨_,⟨hM3,fun j hj=>?_,fun j hj=>?_⟩,HK2.out.2.2.1.tr c3⟩
          ·by_cases hjk:j=T+k
           ·subst hjk;exact⟨some ⟨gb,A,none⟩,pb - A,by unfold updF;rw[if_pos rfl];rfl,by rw[HK2.out.2.2.2.2,HA.out];exact hpcw.out W3 (HK2.out.2.2.1.tr c3),fun x hx=>by
             have:x=gb:=by simpa[eyes] using hx
             rw[this];exact hbz.out⟩
           ·obtain⟨a,c,h1,h2,h3⟩:=HK2.out.2.2.2.1.inn j (by omega);refine⟨a,c,?_,h2.chg c3 (fun x hx hx'=>HK2.out.2.2.2.1.map.eyes h2 (by decide) (by rw[List.mem_singleton.1 hx'] at hx;exact hx)),h3⟩;unfold updF;rw[if_neg (fun e=>by injection e with _ e;omega)];exact h1
          ·unfold updF;rw[if_neg (fun e=>by injection e with _ e;omega)];exact HK2.out.2.2.2.1.out j (by omega)
         clear hM3 c3 C0 HCK hpcw e1' e2' e3' l0 l1 l2 l3 l4 l5 l6;have hw9:=zH (show wrap64 ((k:Int)+1)=((k+1:Nat):Int) from by unfold wrap64;have:=HK2.out.2.1;omega);go_wp2_with fail;go_roundg (gk - 1);case measure=>have:=HK2.out.1;have:=HK2.out.2.1;omega
         case rel=>exact⟨k+1,by first | rfl | rw[hw9.out],by have:=HK2.out.1;have:=HK2.out.2.1;omega,HN3.out⟩
        ·have t3:decide ((k:Int)<(cn:Int))=false:=decide_eq_false (by omega);have t3':decide (k<cn)=false:=decide_eq_false hkc;obtain rfl:k=cn:=by omega
         have hP:=HP.out.1;have hnb:∀{n:Nat} {v:Value} {b:Sec},Sees Wb 1 v n (Bs b)→Sees wr 1 v n (Bs b):=fun h=>h.chg cM2 (fun x hx hx'=>HM0.out.map.eyes h (by decide) (by rw[List.mem_singleton.1 hx'] at hx;exact hx))
         have hni:∀{n:Nat} {v:Value} {b:List Nat},Sees Wb 1 v n (ints b)→Sees wr 1 v n (ints b):=fun h=>h.chg cM2 (fun x hx hx'=>HM0.out.map.eyes h (by decide) (by rw[List.mem_singleton.1 hx'] at hx;exact hx))
         obtain⟨y,hy,r1,r2,r3,r4,-,-⟩:=hP.rows i _ HP.out.2.2.2.2.2.1;have hiM:i<M.length:=(List.getElem?_eq_some_iff.1 hy).1;have HNX:Hid (∃M' F',LpR w.heap.size w3 bm (some ⟨g5,0,none⟩) m5 c5 K9 L (i+1) (T+k) m2 o2 c2 M' F' wr∧MpR w.heap.size bm L (T+k) F' wr):=by
          refine⟨M.set i { y with ks:=List.range' T k,bl:=.slice (some ⟨K9,o9,none⟩) k c9 },F2,⟨⟨by have:=HP.out.2.2.2.2.2.2.1;have:=hT.1;omega,by have:=hR2.out.1;have:=hT.2;omega⟩,hni HOW.out.2.2,by rw[List.length_set];exact hP.len,?_,fun j x hx=>?_,fun x hx=>?_,?_⟩,hM2⟩
          ·rw[←fcc_set M i y _ _ hy];exact HOW.out.1.chg cM2 (fun x hx hx'=>by
            rw[List.mem_singleton.1 hx'] at hx;exact HM0.out.map.own HOW.out.1 hx)
          ·by_cases hji:j=i
           ·subst hji;have hxe:=hx.symm.trans HP.out.2.2.2.2.2.1;simp only[Option.some.injEq] at hxe;subst hxe;refine⟨_,List.getElem?_set_self hiM,r1,r2,r3,r4,fun h=>absurd h (by omega),fun _=>⟨?_,?_,fun z hz=>?_⟩⟩
            ·show List.range' T k=List.range' (pcL (L.take j)).length (cnt dat.length);rw[←hT.1,HP.out.2.2.2.2.2.2.2.2.1,HP.out.2.2.2.2.2.2.2.2.2]
            ·show Sees wr 1 (.slice (some ⟨K9,o9,none⟩) k c9) (List.range' T k).length (ints (List.range' T k));rw[List.length_range'];exact hni HOW.out.2.1
            ·have hz':z∈(if k=0 then [] else [K9]):=hz;by_cases hk0:k=0;·rw[if_pos hk0] at hz';cases hz'
             ·rw[if_neg hk0,List.mem_singleton] at hz';rw[hz'];exact HK9.out
           ·obtain⟨y2,h1,s1,s2,s3,s4,s5,s6⟩:=hP.rows j x hx;refine⟨y2,by rw[List.getElem?_set_ne (fun e=>hji e.symm)];exact h1,s1,s2,s3,s4,fun h=>s5 (by omega),fun h=>?_⟩;obtain⟨u1,u2,u3⟩:=s6 (by omega);exact⟨u1,hni ((HSS.out.2 _ _ _ u2).chg0 HBK.out.1),u3⟩
          ·obtain⟨d1,d2,d3⟩:=hP.dat x hx;exact⟨d1,hnb ((HSS.out.1 _ _ _ d2).chg0 HBK.out.1),d3⟩
          ·exact (hP.chg.tr (HBK.out.2.mono fun x hx=>.inl (.tail _ hx))).tr (cM2.mono fun x hx=>.inl (by rw[List.mem_singleton.1 hx];exact .head _))
         have hw8:=zH (show wrap64 ((i:Int)+1)=((i+1:Nat):Int) from by unfold wrap64;omega);clear hk hkc HK hM2 cM2 hP hnb hni hy r1 r2 r3 r4 hiM;go_wp2_with fail;go_roundg (G - 1);case measure=>have:=HP.out.2.2.1;have:=HP.out.2.2.2.1;have:=HG.out;omega
         case rel=>exact⟨i+1,T+k,m2,o2,c2,rfl,by first | rfl | rw[hw8.out],by have:=HP.out.2.2.1;have:=HP.out.2.2.2.1;have:=HG.out;omega,HNX.out⟩
    ·have t1:decide ((i:Int)<(m5:Int))=false:=decide_eq_false (by omega);have t1':decide (i<m5)=false:=decide_eq_false hi;obtain rfl:i=m5:=by omega
     have hTl:T=(pcL L).length:=by rw[hP.tt.1,List.take_of_length_le (by rw[HL.out.1];exact Nat.le_refl _)]
     have HC:Hid (Chg [] w wr):=HX3.out.2.1.trans hP.chg (fun k hk=>.inr (by
      rcases List.mem_cons.1 hk with rfl | hk
      ·exact HX3.out.2.2
      ·exact HL.out.2.2.1.new k hk))
     have hnm:=allV_name cs (V:=[]) (fun p hp=>by cases hp);rw[HL.out.2.2.2.2] at hnm;have hrow:∀(j:Nat) (x:DF),L[j]?=some x→∃y:FC,M[j]?=some y∧y.nm=x.nm∧y.ks.length=cnt x.dat.length∧y.sz=x.dat.length∧x.dat.length≤65535∧x.nm.length≤80∧y.ks=List.range' (pcL (L.take j)).length (cnt x.dat.length)∧Sees wr 1 y.bl y.ks.length (ints y.ks)∧∀z∈eyes y.bl,w.heap.size≤z:=fun j x hx=>by
      obtain⟨y,h1,r1,r2,r3,r4,-,r6⟩:=hP.rows j x hx;have hj:j<i:=by have:=(List.getElem?_eq_some_iff.1 hx).1;rw[HL.out.1] at this;exact this
      obtain⟨u1,u2,u3⟩:=r6 hj;exact⟨y,h1,r1,by rw[u1,List.length_range'],r2,(hP.dat x (List.mem_of_getElem? hx)).1,nameOk_len (hnm (x.nm,x.dat) (List.mem_map.2 ⟨x,List.mem_of_getElem? hx,rfl⟩)),u1,u2,u3⟩
     have hML:M.length=L.length:=by rw[hP.len,HL.out.1]
     have htl:tlM M=tabN (L.map DF.pr):=tlM_tab hML fun j x hx=>by
      obtain⟨y,h1,h2,h3,-⟩:=hrow j x hx;exact⟨y,h1,h2,h3⟩
     have hkk:∀(j:Nat) (x:DF),L[j]?=some x→(pcL (L.take j)).length+cnt x.dat.length≤173:=fun j x hx=>by
      obtain⟨hj,hxe⟩:=List.getElem?_eq_some_iff.1 hx;have h1:=pcL_take L j hj;rw[hxe] at h1;have h2:=pcL_le L (j+1);have:=hP.tt.2;omega
     have hfc:∀y∈M,FcR wr y:=fun y hy=>by
      obtain⟨j,hj,rfl⟩:=List.getElem_of_mem hy;have hjL:j<L.length:=by rw[←hML];exact hj
      obtain⟨y2,h1,h2,h3,h4,h5,h6,h7,h8,h9⟩:=hrow j _ (List.getElem?_eq_getElem hjL);rw[List.getElem?_eq_getElem hj] at h1;cases h1;have hk:=hkk j _ (List.getElem?_eq_getElem hjL);exact⟨by rw[h2];exact h6,by rw[h4];exact h5,by rw[h3];unfold cnt at hk ⊢;omega,fun k hk'=>by
       rw[h7,List.mem_range'] at hk';obtain⟨a,ha,rfl⟩:=hk';omega,h8⟩
     have htb:=fun (W:World) (c:Chg [] wr W)=>dtable_ok W (.slice a5 i c5) M (by rw[hP.len];exact (hP.own.sees).chg0 c) (fun y hy=>(hfc y hy).chg0 c) (by rw[hP.len];omega)
     obtain⟨tl,htl'⟩:∃tl,tlM M=tl:=⟨_,rfl⟩;rw[htl'] at htb;have HQ:=zF hP hM hTl hrow hML (htl.symm.trans htl') hkk;have hfb:∀W,Chg [] wr W→FdB W f p l (.slice none 0 0):=fun W c=>H.out.1.fs.chg0 (HC.out.nil c)
     have HFB:=zA hfb htb;obtain⟨bb,hbb⟩:∃bb,decide ((1024:Int)<(tl:Int))=bb:=⟨_,rfl⟩;have HBB:=zH hbb;clear hik hi hP hM HI hTl hnm hrow hML htl hkk hfc htl' hfb htb;have e1024:IntKind.i64.wrap 1024=1024:=by decide
     go_upto_region 25 with (fail);refine wp_region_E [] (by kernel_rfl) ?_;have C0:Chg [] wr.drew wr.drew:=Chg.refl _ _;have D0:=zH (show Chg [] wr wr.drew from (Chg.refl [] wr).drew);have htb:=HFB.out.2 wr.drew D0.out;generalize wr.drew=W0 at *;refine tE 0 (.slice a5 i c5) C0 (fun w4 c4=>?_) ?_;·go_simp
     refine yG ?_;refine tE 3 (.pointer (some ⟨f,0,none⟩)) C0 (fun w4 c4=>?_) ?_;·go_simp
     refine yG ?_;refine tE 4 (.pointer (some ⟨f,0,none⟩)) C0 (fun w4 c4=>?_) ?_;·go_simp
     refine yG ?_;refine tE 5 (.pointer (some ⟨f,2,none⟩)) C0 (fun w4 c4=>?_) ?_;·go_simp
     refine yG ?_;refine tE 6 (.int .i64 4) C0 (fun w4 c4=>?_) ?_
     ·have z:=(fd4 (HFB.out.1 w4 (D0.out.nil c4))).2.2.1;go_simp
     refine yG ?_;refine tE 7 (.int .i64 1024) C0 (fun w4 c4=>?_) ?_;·go_simp
     refine yG ?_;refine oE 1 ?_;go_simp;refine htb.mono ?_;rintro e W1 ⟨a1',c1',bs1,rfl,hF1⟩;refine⟨hF1.chg,?_⟩;refine yG ?_;refine tE 2 (.int .i64 (tl:Int)) hF1.chg (fun w4 c4=>?_) ?_;·go_simp
     refine yG ?_;refine tE 8 (.bool bb) hF1.chg (fun w4 c4=>?_) ?_;·go_simp
     refine yG ?_;refine wpAnyE_done (by kernel_rfl) ?_ _;have HT1:=zH hF1.chg;clear hF1 C0 hbb htb;cases bb with
     | true=>
      have hno:¬((allV [] cs).2=0∧Go.Aq.Fy.Roomy (allV [] cs).1):=fun hg=>by
       have h1:=hg.2.2;rw[HL.out.2.2.2.2] at h1;simp only at h1;rw[HQ.out.2.2.2.2.2.1] at h1;have:=of_decide_eq_true HBB.out;omega
      have HNO:=zH hno;clear hno;go_wp2_with fail;go_ret;exact⟨⟨8,rfl⟩,.inl ⟨HNO.out,(HC.out.nil D0.out).nil HT1.out⟩⟩
     | false=>
      have htl4:tl≤1024:=by
       have:=of_decide_eq_false HBB.out;omega
      have cW1:Chg [] wr W1:=D0.out.nil HT1.out;have hlt:f<W1.heap.size:=Nat.lt_of_lt_of_le (Blk.lt H.out.1.fs) (HC.out.nil cW1).size;have htn:=dtable_ok W1 (.slice none 0 0) [] (Sees.nil _ _) (fun y hy=>by cases hy) (by decide);have x3:=(fd4 (HFB.out.1 W1 cW1)).2.2.2;have HW1:=zA cW1 hlt;clear cW1 hlt;go_wp2_with fail;refine htn.mono ?_;rintro e W2 ⟨a2',c2',bs2,rfl,hF2⟩;have hs1:=dsect_ok W1 W2 f p l 2 c2' (.slice none 0 0) a2' bs2 (HFB.out.1 W2 (HW1.out.1.nil hF2.chg)) hF2 (by decide) (by decide) HW1.out.2;clear htn hF2;go_wp2_with fail;refine hs1.mono ?_;rintro e W3 ⟨v15,xs15,rfl,hF3,hX3⟩;obtain⟨a15,c15,rfl,-⟩:=hF3.shape;have cW3:Chg [] wr W3:=HW1.out.1.nil hF3.chg;have htb3:=HFB.out.2 W3 cW3;have h3lt:f<W3.heap.size:=Nat.lt_of_lt_of_le HW1.out.2 hF3.chg.size;have H15:=zC hF3 hX3 cW3 h3lt;clear hs1 hF3 hX3 cW3 h3lt x3;go_wp2_with fail;refine htb3.mono ?_;rintro e W4 ⟨a4',c4',bs4,rfl,hF4⟩;have hs2:=dsect_ok W3 W4 f p l tl c4' (.slice none 0 0) a4' bs4 (HFB.out.1 W4 (H15.out.2.2.1.nil hF4.chg)) hF4 (by rw[←HQ.out.2.2.2.2.2.1];unfold tabN;omega) htl4 H15.out.2.2.2;clear htb3 hF4;go_wp2_with fail;refine hs2.mono ?_;rintro e W5 ⟨v16,xs16,rfl,hF5,hX5⟩;obtain⟨a16,c16,rfl,-⟩:=hF5.shape;have H16:Hid (Chg [] wr W5∧Sees W5 1 (.slice a15 4 c15) 4 xs15∧(∀x∈xs15,PcR w.heap.size W5 x)∧Sees W5 1 (.slice a16 4 c16) 4 xs16∧∀x∈xs16,PcR w.heap.size W5 x):=
       ⟨H15.out.2.2.1.nil hF5.chg,H15.out.1.own.sees.chg0 hF5.chg,fun x hx=>by
        obtain⟨a,c,b,h1,h2,h3⟩:=(H15.out.2.1 x hx).chg0 hF5.chg;exact⟨a,c,b,h1,h2,fun z hz=>Nat.le_trans (Nat.le_trans HC.out.size (Nat.le_trans HW1.out.1.size (Nat.le_refl _))) (h3 z hz)⟩,hF5.own.sees,fun x hx=>by
        obtain⟨a,c,b,h1,h2,h3⟩:=hX5 x hx;exact⟨a,c,b,h1,h2,fun z hz=>Nat.le_trans (Nat.le_trans HC.out.size H15.out.2.2.1.size) (h3 z hz)⟩⟩
      clear hs2 hF5 hX5;go_wp2_with fail;go_loopg [17,18] 4 (fun gk (v17 v18:Value) w6=>∃(i m17:Nat) (a17:Option Addr) (c17:Nat),v17=.slice a17 m17 c17∧v18=.int .i64 (i:Int)∧i+gk=4∧Hid (∃P:List (Nat×Value),P.length=m17∧m17≤i∧Fresh W5 w6 140 2 (.slice a17 m17 c17) m17 (ptc P)∧(∀x∈P,(23≤x.1∧x.1<23+i)∧PcR w.heap.size W5 x.2)∧(P.map (·.1)).Nodup));case atStart=>exact⟨0,0,none,0,rfl,rfl,rfl,[],rfl,Nat.le_refl _,Fresh.nil _ _ _,(fun x hx=>absurd hx (by simp)),List.nodup_nil⟩
      case round=>
       obtain⟨i6,m17,a17,c17,rfl,rfl,hik,HI⟩:=hrel;obtain⟨P,hPl,hPi,hF,hPx,hPd⟩:=HI.out;have x2:=(fd4 (HFB.out.1 _ (H16.out.1.nil hF.chg))).2.2.1;by_cases hi:i6<4
       ·have t4:decide ((i6:Int)<4)=true:=decide_eq_true (by omega);have i64:(i6:Int)<4:=by omega
        have l15:xs15.length=4 * 1:=H16.out.2.1.len;have l16:xs16.length=4 * 1:=H16.out.2.2.2.1.len;obtain⟨ax,cx,bx,hx,hsx,hex⟩:=H16.out.2.2.1 _ (List.getElem_mem (show i6<xs15.length by omega));obtain⟨ay,cy,by',hy,hsy,hey⟩:=H16.out.2.2.2.2 _ (List.getElem_mem (show i6<xs16.length by omega));obtain⟨g15,o15,cp15,hv15,-,-,hc15⟩:=H16.out.2.1.cells (by decide);obtain⟨g16,o16,cp16,hv16,-,-,hc16⟩:=H16.out.2.2.2.1.cells (by decide);simp only[Value.slice.injEq,true_and] at hv15 hv16;obtain⟨hv15,-⟩:=hv15;obtain⟨hv16,-⟩:=hv16;subst hv15 hv16;have hz15:W5.cell? ⟨g15,o15+i6,none⟩=some (.slice ax 256 cx):=by rw[hc15 i6 (by omega),List.getElem?_eq_getElem (by omega),hx]
        have hz16:W5.cell? ⟨g16,o16+i6,none⟩=some (.slice ay 256 cy):=by rw[hc16 i6 (by omega),List.getElem?_eq_getElem (by omega),hy]
        have hw6:=zH (show wrap64 ((i6:Int)+1)=((i6+1:Nat):Int) from by unfold wrap64;omega);obtain⟨bq,hbq⟩:∃bq,decide (bx=by')=bq:=⟨_,rfl⟩;have HZ:Hid (∀W,Chg [] W5 W→W.cell? ⟨g15,o15+i6,none⟩=some (.slice ax 256 cx)∧W.cell? ⟨g16,o16+i6,none⟩=some (.slice ay 256 cy)∧Calls Tryz.prog 60 #[.slice ax 256 cx,.slice ay 256 cy] W fun e w'=>e=.returned (.bool bq)∧w'=W):=fun W c=>⟨c.cell_some hz15 (by simp),c.cell_some hz16 (by simp),by
         rw[←hbq];exact (same_any W _ _ 256 256 bx by' (hsx.chg0 c) (hsy.chg0 c)).mono fun e w' h=>⟨h.1,h.2.symm⟩⟩
        have HPY:=zH (And.intro hPl (And.intro hPi (And.intro hF (And.intro hPx (And.intro hPd (And.intro hik (And.intro hi (And.intro hsy hey))))))));clear hPl hPi hPx hPd hik hi hsx hsy hex hey hx hy hc15 hc16 hz15 hz16 l15 l16 HI hbq;go_upto_region 32 with (fail);refine wp_region_E [] (by kernel_rfl) ?_;have C0:Chg [] wr.drew wr.drew:=Chg.refl _ _;have D6:Chg [] W5 wr.drew:=hF.chg.drew;have D6w:Chg [] wr wr.drew:=(Chg.refl [] wr).drew;have HD6:=zA D6 D6w;generalize wr.drew=W0' at *;clear hF D6 D6w;refine tE 0 (.slice (some ⟨g15,o15,none⟩) 4 c15) C0 (fun w4 c4=>?_) ?_;·go_simp
        refine yG ?_;refine tE 1 (.int .i64 (i6:Int)) C0 (fun w4 c4=>?_) ?_;·go_simp
        refine yG ?_;refine tE 2 (.pointer (some ⟨g15,o15+i6,none⟩)) C0 (fun w4 c4=>?_) ?_;·go_simp
        refine yG ?_;refine tE 3 (.slice ax 256 cx) C0 (fun w4 c4=>?_) ?_
        ·obtain⟨z1,z2,-⟩:=HZ.out w4 (HD6.out.1.nil c4);go_simp
        refine yG ?_;refine tE 4 (.slice (some ⟨g16,o16,none⟩) 4 c16) C0 (fun w4 c4=>?_) ?_;·go_simp
        refine yG ?_;refine tE 5 (.int .i64 (i6:Int)) C0 (fun w4 c4=>?_) ?_;·go_simp
        refine yG ?_;refine tE 6 (.pointer (some ⟨g16,o16+i6,none⟩)) C0 (fun w4 c4=>?_) ?_;·go_simp
        refine yG ?_;refine tE 7 (.slice ay 256 cy) C0 (fun w4 c4=>?_) ?_
        ·obtain⟨z1,z2,-⟩:=HZ.out w4 (HD6.out.1.nil c4);go_simp
        refine yG ?_;refine wpAnyE_call 8 (v:=(.bool bq)) C0 rfl (by kernel_rfl) (by kernel_rfl) (by kernel_rfl) (fun _ _ _ h=>h) (by rfl) (fun w4 c4=>?_) (fun w4 c4=>(HZ.out w4 (HD6.out.1.nil c4)).2.2) ?_;·go_simp
        refine yG ?_;refine tE 9 (.bool (!bq)) C0 (fun w4 c4=>?_) ?_;·go_simp
        refine yG ?_;refine wpAnyE_done (by kernel_rfl) ?_ _;cases bq with
        | true=>
         clear C0;go_wp2_with fail;go_roundg (gk - 1);case measure=>have:=HPY.out.2.2.2.2.2.1;have:=HPY.out.2.2.2.2.2.2.1;omega
         case rel=>exact⟨i6+1,m17,a17,c17,rfl,by first | rfl | rw[hw6.out],by have:=HPY.out.2.2.2.2.2.1;have:=HPY.out.2.2.2.2.2.2.1;omega,P,HPY.out.1,by have:=HPY.out.2.1;omega,HPY.out.2.2.1.to HD6.out.2,fun x hx=>by
          have:=HPY.out.2.2.2.1 x hx;exact⟨⟨this.1.1,by omega⟩,this.2⟩,HPY.out.2.2.2.2.1⟩
        | false=>
         clear C0;have e23:IntKind.i64.wrap 23=23:=by decide
         obtain⟨k6,hk6⟩:∃k6,23+i6=k6:=⟨_,rfl⟩;have e24:IntKind.i64.wrap (23+(i6:Int))=(k6:Int):=by rw[IntKind.wrap_i64];omega
         have HK6:=zH hk6;clear hk6;have hS17:Hid (∀k∈(Value.slice a17 m17 c17).ownBlock.toList,W5.heap.size≤k):=HPY.out.2.2.1.new;go_upto_region 33 with (fail);refine wp_region_E (Value.slice a17 m17 c17).ownBlock.toList (by kernel_rfl) ?_;have C0:Chg (Value.slice a17 m17 c17).ownBlock.toList W0'.drew W0'.drew:=Chg.refl _ _;have D7:Chg [] W5 W0'.drew:=HD6.out.1.drew;have hF7:=HPY.out.2.2.1.to (w':=W0'.drew) (HD6.out.2.drew);have hm17:m17≤4:=by have:=HPY.out.2.1;have:=HPY.out.2.2.2.2.2.2.1;omega
         generalize W0'.drew=W7 at *;have HC7:Hid (∀w4,Chg (Value.slice a17 m17 c17).ownBlock.toList W7 w4→Chg [] W5 w4):=fun w4 c4=>D7.trans c4 (fun k hk=>.inr (hS17.out k hk))
         have HL7:Hid (∀w4,Chg (Value.slice a17 m17 c17).ownBlock.toList W7 w4→LgD w4 l p 1 0):=fun w4 c4=>H.out.1.lg.chg0 ((HC.out.nil H16.out.1).nil (HC7.out w4 c4))
         refine tE 0 (.slice a17 m17 c17) C0 (fun w4 c4=>?_) ?_;·go_simp
         refine yG ?_;refine tE 1 (.pointer (some ⟨f,0,none⟩)) C0 (fun w4 c4=>?_) ?_;·go_simp
         refine yG ?_;refine tE 2 (.pointer (some ⟨f,0,none⟩)) C0 (fun w4 c4=>?_) ?_;·go_simp
         refine yG ?_;refine tE 3 (.pointer (some ⟨f,1,none⟩)) C0 (fun w4 c4=>?_) ?_;·go_simp
         refine yG ?_;refine tE 4 (.pointer (some ⟨l,0,none⟩)) C0 (fun w4 c4=>?_) ?_
         ·have z:=(fd4 (HFB.out.1 w4 (H16.out.1.nil (HC7.out w4 c4)))).2.1;go_simp
         refine yG ?_;refine wpAnyE_call 5 (v:=(.int .i64 22)) C0 rfl (by kernel_rfl) (by kernel_rfl) (by kernel_rfl) (fun _ _ _ h=>h) (by rfl) (fun w4 c4=>?_) (fun w4 c4=>dhome w4 l p 1 0 (HL7.out w4 c4)) ?_;·go_simp
         refine yG ?_;refine tE 6 (.int .i64 23) C0 (fun w4 c4=>?_) ?_;·go_simp
         refine yG ?_;refine tE 7 (.int .i64 (i6:Int)) C0 (fun w4 c4=>?_) ?_;·go_simp
         refine yG ?_;refine tE 8 (.int .i64 (k6:Int)) C0 (fun w4 c4=>?_) ?_;·go_simp
         refine yG ?_;refine tE 9 (.slice (some ⟨g16,o16,none⟩) 4 c16) C0 (fun w4 c4=>?_) ?_;·go_simp
         refine yG ?_;refine tE 10 (.int .i64 (i6:Int)) C0 (fun w4 c4=>?_) ?_;·go_simp
         refine yG ?_;refine tE 11 (.pointer (some ⟨g16,o16+i6,none⟩)) C0 (fun w4 c4=>?_) ?_;·go_simp
         refine yG ?_;refine tE 12 (.slice ay 256 cy) C0 (fun w4 c4=>?_) ?_
         ·obtain⟨z1,z2,-⟩:=HZ.out w4 (HC7.out w4 c4);go_simp
         refine yG ?_;refine tE 13 (.agg #[.int .i64 (k6:Int),.slice ay 256 cy]) C0 (fun w4 c4=>?_) ?_;·go_simp
         refine yG ?_;refine oE 14 ?_;go_simp;have cA:Chg [] W7 (W7.alloc (.cells #[.int .i64 (k6:Int),.slice ay 256 cy] 140)):=(Chg.refl [] _).alloc _;have hS1:Sees (W7.alloc (.cells #[.int .i64 (k6:Int),.slice ay 256 cy] 140)) 2 (.slice (some ⟨W7.heap.size,0,none⟩) 1 1) 1 [.int .i64 (k6:Int),.slice ay 256 cy]:=Sees.rowsY (m:=1) (cs:=#[.int .i64 (k6:Int),.slice ay 256 cy]) (Blk.new W7 _ _) rfl;have hF8:=hF7.to cA;have C1:=C0.nil cA;refine⟨C1,?_⟩;generalize W7.alloc (.cells #[.int .i64 (k6:Int),.slice ay 256 cy] 140)=W8 at *;generalize hK1:W7.heap.size=K1 at *;clear cA;refine yG ?_;refine oE 15 ?_;refine wp_app _ _ 138 (by rfl) sl_PutsD hF8.own (by rfl) (vx:=.slice (some ⟨K1,0,none⟩) 1 1) (m:=1) (news:=[.int .i64 (k6:Int),.slice ay 256 cy]) hS1 (by rfl) (by intro u hu;simp at hu;rcases hu with rfl | rfl <;> rfl) (by omega) (by omega) ?_;intro v9' W9 o9' e9' n9';have hF9:=hF8.app o9' e9' n9';have C9:Chg (Value.slice a17 m17 c17).ownBlock.toList W7 W9:=C1.tr e9';obtain⟨a9',c9',rfl,-⟩:=hF9.shape;refine⟨C9,?_⟩;clear o9' e9' n9' hS1 hF8 C1;refine yG ?_;refine tE 16 (.slice a9' (m17+1) c9') C9 (fun w4 c4=>?_) ?_;·go_simp
         refine yG ?_;refine wpAnyE_done (by kernel_rfl) ?_ _;have HF8:Hid (Fresh W5 W9 140 2 (.slice a9' (m17+1) c9') (m17+1) (ptc (P++[(k6,.slice ay 256 cy)]))):=by rw[ptc_snoc];exact hF9
         clear hF9 hF7 C9 C0 HL7 e23 e24;go_wp2_with fail;go_roundg (gk - 1);case measure=>have:=HPY.out.2.2.2.2.2.1;have:=HPY.out.2.2.2.2.2.2.1;omega
         case rel=>exact⟨i6+1,m17+1,a9',c9',rfl,by first | rfl | rw[hw6.out],by have:=HPY.out.2.2.2.2.2.1;have:=HPY.out.2.2.2.2.2.2.1;omega,P++[(k6,.slice ay 256 cy)],by rw[List.length_append,HPY.out.1];rfl,by have:=HPY.out.2.1;omega,HF8.out,fun x hx=>by
          rcases List.mem_append.1 hx with hx | hx
          ·have:=HPY.out.2.2.2.1 x hx;exact⟨⟨this.1.1,by omega⟩,this.2⟩
          ·rw[List.mem_singleton.1 hx];exact⟨⟨by show 23≤k6;have:=HK6.out;omega,by show k6<23+(i6+1);have:=HK6.out;omega⟩,⟨_,_,_,rfl,HPY.out.2.2.2.2.2.2.2.1,HPY.out.2.2.2.2.2.2.2.2⟩⟩,by
          rw[List.map_append];refine List.nodup_append.2 ⟨HPY.out.2.2.2.2.1,by simp,fun a ha b hb=>?_⟩;obtain⟨x,hx,rfl⟩:=List.mem_map.1 ha;have:=(HPY.out.2.2.2.1 x hx).1.2;simp at hb;have:=HK6.out;omega⟩
       ·obtain rfl:i6=4:=by omega
        have hS0:∀z∈l::S,z<w.heap.size:=fun z hz=>by
         rcases List.mem_cons.1 hz with rfl | hz
         ·exact Blk.lt H.out.1.lg
         ·exact H.out.1.dk.lt z hz
        have hm17:m17≤4:=by omega
        have hnn:need m17<20:=by unfold need;split <;> omega
        have d20:decide ((20:Int)<((need m17:Nat):Int))=false:=by simp;omega
        have cwr:Chg [] w wr:=(HC.out.nil H16.out.1).nil hF.chg;have HE6:=zF hPl hF hPx hPd hS0 cwr hm17;have hnd:=fun W=>needD W m17 (by omega)
        clear hik hi hPl hPi hPx hPd hS0 hnn HI;go_upto_region 34 with (fail);refine wp_region_E [] (by kernel_rfl) ?_;have C0:Chg [] wr.drew wr.drew:=Chg.refl _ _;have D6w:Chg [] wr wr.drew:=(Chg.refl [] wr).drew;have HDD:=zA D6w (cwr.nil D6w);clear D6w cwr hF hm17;generalize wr.drew=Wg at *;refine tE 0 (.slice a17 m17 c17) C0 (fun w4 c4=>?_) ?_;·go_simp
        refine yG ?_;refine tE 1 (.int .i64 (m17:Int)) C0 (fun w4 c4=>?_) ?_;·go_simp
        refine yG ?_;refine wpAnyE_call 2 (v:=(.int .i64 ((need m17:Nat):Int))) C0 rfl (by kernel_rfl) (by kernel_rfl) (by kernel_rfl) (fun _ _ _ h=>h) (by rfl) (fun w4 c4=>?_) (fun w4 c4=>hnd w4) ?_;·go_simp
        refine yG ?_;refine tE 3 (.pointer (some ⟨f,0,none⟩)) C0 (fun w4 c4=>?_) ?_;·go_simp
        refine yG ?_;refine tE 4 (.pointer (some ⟨f,0,none⟩)) C0 (fun w4 c4=>?_) ?_;·go_simp
        refine yG ?_;refine tE 5 (.pointer (some ⟨f,1,none⟩)) C0 (fun w4 c4=>?_) ?_;·go_simp
        refine yG ?_;refine tE 6 (.pointer (some ⟨l,0,none⟩)) C0 (fun w4 c4=>?_) ?_
        ·have z:=(fd4 (H.out.1.fs.chg0 (HDD.out.2.nil c4))).2.1;go_simp
        refine yG ?_;refine wpAnyE_call 7 (v:=(.int .i64 20)) C0 rfl (by kernel_rfl) (by kernel_rfl) (by kernel_rfl) (fun _ _ _ h=>h) (by rfl) (fun w4 c4=>?_) (fun w4 c4=>dring w4 l p 1 0 (H.out.1.lg.chg0 (HDD.out.2.nil c4))) ?_;·go_simp
        refine yG ?_;refine tE 8 (.bool false) C0 (fun w4 c4=>?_) ?_;·go_simp
        refine yG ?_;refine wpAnyE_done (by kernel_rfl) ?_ _;clear C0 d20 hnd x2;have cg:=(H16.out.1.nil HE6.out.2.1.chg).nil HDD.out.1;have hSn:∀z,w.heap.size≤z→z∉l::S:=fun z hz hm=>by have:=HE6.out.2.2.2.2.1 z hm;omega
        have hSS:∀z,w.heap.size≤z→z∉S:=fun z hz hm=>hSn z hz (.tail _ hm)
        have hTk:T≤173:=by have:=HQ.out.1.tt.2;omega
        have hfi:=dfill_ok Wg S f p l (.slice none 0 0) now q bm F T (fun k=>(pcL L).getD k []) (H.out.1.chg0 HDD.out.2) (HQ.out.2.1.map.chg cg (by simp)) (hSS bm HX3.out.2.2) H.out.2.2.1 H.out.2.1 (by have:=H.out.2.2.2.2.1;omega) hTk (fun k hk=>by
         obtain⟨a,c,h1,h2,h3⟩:=HQ.out.2.1.inn k hk;exact⟨a,c,h1,h2.chg0 cg,fun z hz hs=>hSS z (h3 z hz) hs⟩) HQ.out.2.1.out
        have HPU:Hid (PutsR Wg S (.slice a17 m17 c17) P):=⟨by rw[HE6.out.1];exact (HE6.out.2.1.to HDD.out.1).own.sees,by rw[HE6.out.1];exact HE6.out.2.2.2.2.2.2,fun x hx=>⟨(HE6.out.2.2.1 x hx).1.1,by have:=(HE6.out.2.2.1 x hx).1.2;omega⟩,HE6.out.2.2.2.1,fun x hx=>by
         obtain⟨a,c,b,h1,h2,h3⟩:=(HE6.out.2.2.1 x hx).2;exact⟨a,c,b,h1,h2.chg0 (HE6.out.2.1.chg.nil HDD.out.1),fun z hz hs=>hSS z (h3 z hz) hs⟩,fun z hz hs=>by
         have h1:=HE6.out.2.1.new z (eyes_own _ z hz);have h2:=HC.out.size;have h3:=H16.out.1.size;exact hSS z (by omega) hs⟩
        have HSn:=zB cg hSn hTk;clear cg hSn hSS hTk;go_wp2_with fail;refine hfi.mono ?_;rintro e Wf ⟨rfl,S1,now1,hD1,u1,g1⟩;have hlg1:LgD Wf l p 1 0:=Blk.chg (H.out.1.lg.chg0 HDD.out.2) u1.chg H.out.2.2.1;have hfs1:FdB Wf f p l (.slice none 0 0):=Blk.chg (H.out.1.fs.chg0 HDD.out.2) u1.chg H.out.2.1;have hlS1:=u1.notin H.out.2.2.1 (Blk.lt (H.out.1.lg.chg0 HDD.out.2));have hcm:=dcommit_ok Wf S1 l p now1 (q+173) (.slice a17 m17 c17) P hlg1 hD1 hlS1 (HPU.out.upd u1) (by have:=H.out.2.2.2.2.1;omega);have xf:=(fd4 hfs1).2.1;have HU1:=zB u1 g1 hfs1;clear hfi hD1 u1 g1 hlg1 hfs1 hlS1;go_wp2_with fail;refine hcm.mono ?_;rintro e Wc ⟨rfl,S2,sq,ps,now2,hl2,hD2,u2,hlS2,g2⟩;have UT:Upd (l::S) (l::S2) Wg Wc:=(HU1.out.1.cons l).trans u2;have hffS:f∉l::S:=fun hm=>by
         rcases List.mem_cons.1 hm with e | hm
         ·exact H.out.2.2.2.1 e
         ·exact H.out.2.1 hm
        have hfsC:FdB Wc f p l (.slice none 0 0):=Blk.chg (H.out.1.fs.chg0 HDD.out.2) UT.chg hffS;have hfS2:f∉S2:=fun hm=>UT.notin hffS (Blk.lt (H.out.1.fs.chg0 HDD.out.2)) (.tail _ hm)
        have hownC:Aq.Own Wc 134 5 (.slice a5 i c5) i (fcc M):=(HQ.out.1.own.chg HSn.out.1 (fun _ _=>by simp)).chg UT.chg (fun z hz hm=>HSn.out.2.1 z (HL.out.2.2.1.new z hz) hm);have hrowC:∀(k:Nat) (x:DF),L[k]?=some x→∃y,M[k]?=some y∧LastR Wc L 0 k x y:=fun k x hx=>by
         obtain⟨y,h1,h2,h3,h4,h5,h6,h7,h8,h9⟩:=HQ.out.2.2.2.1 k x hx;obtain⟨y2,k1,r1,r2,r3,r4,-,-⟩:=HQ.out.1.rows k x hx;rw[h1] at k1;cases k1;exact⟨y,h1,h2,h4,h7,(h8.chg0 HSn.out.1).chg UT.chg (fun z hz hm=>HSn.out.2.1 z (h9 z hz) hm),by rw[r4];exact⟨_,_,_,rfl⟩,fun h=>absurd h (Nat.not_lt_zero _)⟩
        have HLo:Hid (∀z∈(Value.slice a5 i c5).ownBlock.toList,z∉l::S2∧z≠f):=fun z hz=>⟨UT.notin (HSn.out.2.1 z (HL.out.2.2.1.new z hz)) ((HQ.out.1.own.chg HSn.out.1 (fun _ _=>by simp)).lt z hz),fun e=>by have h1:=HL.out.2.2.1.new z hz;have h2:=Blk.lt H.out.1.fs;omega⟩
        have HR0:Hid (∃M2:List FC,M2.length=i∧Aq.Own Wc 134 5 (.slice a5 i c5) i (fcc M2)∧(∀(k:Nat) (x:DF),L[k]?=some x→∃y,M2[k]?=some y∧LastR Wc L 0 k x y)∧FdB Wc f p l (.slice none 0 0)∧LgD Wc l p sq ps∧DkR Wc S2 p 200 now2 (q+173+11)∧Chg (f::l::S) w Wc):=⟨M,HQ.out.1.len,hownC,hrowC,hfsC,hl2,hD2,HDD.out.2.toS.tr (UT.chg.mono fun z hz=>.inl (.tail _ hz))⟩;have HG2:=zB hfS2 hlS2 (fun k (hk:27≤k)=>g2 k hk);clear hcm hl2 hD2 u2 hlS2 g2 UT hffS hfsC hfS2 hownC hrowC xf;go_wp2_with fail;go_loopg [20] i (fun gk (v20:Value) wr=>∃j:Nat,v20=.int .i64 (j:Int)∧j+gk=i∧Hid (∃M2:List FC,M2.length=i∧Aq.Own wr 134 5 (.slice a5 i c5) i (fcc M2)∧(∀(k:Nat) (x:DF),L[k]?=some x→∃y,M2[k]?=some y∧LastR wr L j k x y)∧FdB wr f p l (.slice none 0 0)∧LgD wr l p sq ps∧DkR wr S2 p 200 now2 (q+173+11)∧Chg (f::l::S) w wr));case atStart=>exact⟨0,rfl,by omega,HR0.out⟩
        case round=>
         obtain⟨j,rfl,hjk,HJ⟩:=hrel;obtain⟨M2,hM2l,hown,hrow,hfs,hlg,hdk,hcg⟩:=HJ.out;by_cases hj:j<i
         ·have t7:decide ((j:Int)<(i:Int))=true:=decide_eq_true (by omega);have t7':decide (j<i)=true:=decide_eq_true hj;have j2:(j:Int)<(i:Int):=by omega
          have hjL:j<L.length:=by rw[HL.out.1];exact hj
          obtain⟨y,hy,r1,r2,r3,r4,⟨da,dn,dc,r5⟩,-⟩:=hrow j _ (List.getElem?_eq_getElem hjL);obtain⟨g5,cc5,h5,-,-,-⟩:=hown.pos (by omega);simp only[Value.slice.injEq,true_and] at h5;obtain⟨rfl,-⟩:=h5;have hMl:j<M2.length:=by rw[hM2l];exact hj
          have hyM:M2[j]=y:=(List.getElem?_eq_some_iff.1 hy).2;have q3:=(hown.cellAt (j * 5+3) (by omega)).trans (fcc_at M2 j hMl 3 (by decide));have q4:=(hown.cellAt (j * 5+4) (by omega)).trans (fcc_at M2 j hMl 4 (by decide));rw[hyM] at q3 q4;unfold FC.cs at q3 q4;simp only[List.getElem?_cons_zero,List.getElem?_cons_succ,r5] at q3 q4;have qf3:=hown.frozenAt (j * 5+3);have how1:=hown.set (j * 5+3) (.bool false);have qf4:=how1.frozenAt (j * 5+4);have q4':(wr.setCell ⟨g5,j * 5+3,none⟩ (.bool false)).cell? ⟨g5,j * 5+4,none⟩=some (.slice da dn dc):=by
           rw[World.cell?_setCell_other _ _ _ _ (fun e=>by have h:=congrArg Addr.off e;simp only at h;omega)];exact q4
          have how2:=how1.set (j * 5+4) (.slice none 0 0);rw[fcc_set34 M2 j y hy] at how2;obtain⟨ng1,ng2⟩:=HLo.out g5 (by simp[Value.ownBlock]);have ng3:g5∉S2:=fun hm=>ng1 (.tail _ hm)
          have ng4:l≠g5:=fun e=>ng1 (by rw[e];exact .head _)
          have cc:Chg [g5] wr ((wr.setCell ⟨g5,j * 5+3,none⟩ (.bool false)).setCell ⟨g5,j * 5+4,none⟩ (.slice none 0 0)):=((Chg.refl [g5] wr).setCell (p:=⟨g5,j * 5+3,none⟩) (.inl (by simp)) _).setCell (p:=⟨g5,j * 5+4,none⟩) (.inl (by simp)) _;have hkeep:∀{n:Nat} {v:Value} {b:List Nat},Sees wr 1 v n (ints b)→Sees ((wr.setCell ⟨g5,j * 5+3,none⟩ (.bool false)).setCell ⟨g5,j * 5+4,none⟩ (.slice none 0 0)) 1 v n (ints b):=fun h=>(h.setNe q3 (fun u hu e=>by
           simp only[ints,List.mem_map] at hu;obtain⟨k,-,rfl⟩:=hu;cases e) _).setNe q4' (fun u hu e=>by
           simp only[ints,List.mem_map] at hu;obtain⟨k,-,rfl⟩:=hu;cases e) _
          have HN7:Hid (∃M2:List FC,M2.length=i∧Aq.Own ((wr.setCell ⟨g5,j * 5+3,none⟩ (.bool false)).setCell ⟨g5,j * 5+4,none⟩ (.slice none 0 0)) 134 5 (.slice (some ⟨g5,0,none⟩) i c5) i (fcc M2)∧(∀(k:Nat) (x:DF),L[k]?=some x→∃y,M2[k]?=some y∧LastR ((wr.setCell ⟨g5,j * 5+3,none⟩ (.bool false)).setCell ⟨g5,j * 5+4,none⟩ (.slice none 0 0)) L (j+1) k x y)∧FdB ((wr.setCell ⟨g5,j * 5+3,none⟩ (.bool false)).setCell ⟨g5,j * 5+4,none⟩ (.slice none 0 0)) f p l (.slice none 0 0)∧LgD ((wr.setCell ⟨g5,j * 5+3,none⟩ (.bool false)).setCell ⟨g5,j * 5+4,none⟩ (.slice none 0 0)) l p sq ps∧DkR ((wr.setCell ⟨g5,j * 5+3,none⟩ (.bool false)).setCell ⟨g5,j * 5+4,none⟩ (.slice none 0 0)) S2 p 200 now2 (q+173+11)∧Chg (f::l::S) w ((wr.setCell ⟨g5,j * 5+3,none⟩ (.bool false)).setCell ⟨g5,j * 5+4,none⟩ (.slice none 0 0))):=by
           refine⟨_,by rw[List.length_set];exact hM2l,how2,fun k x hx=>?_,Blk.chg hfs cc (by simpa using fun e=>ng2 e.symm),Blk.chg hlg cc (by simpa using ng4),(hdk.setNe q3 (fun x e=>by cases e) ng3 _).setNe q4' (fun x e=>by cases e) ng3 _,hcg.trans cc (fun z hz=>.inr (by rw[List.mem_singleton.1 hz];exact HL.out.2.2.1.new g5 (by simp[Value.ownBlock])))⟩;by_cases hkj:k=j
           ·subst hkj;have hxe:=hx.symm.trans (List.getElem?_eq_getElem hjL);simp only[Option.some.injEq] at hxe;subst hxe;exact⟨_,List.getElem?_set_self hMl,r1,r2,r3,hkeep r4,⟨_,_,_,rfl⟩,fun _=>rfl⟩
           ·obtain⟨y2,h1,s1,s2,s3,s4,s5,s6⟩:=hrow k x hx;exact⟨y2,by rw[List.getElem?_set_ne (fun e=>hkj e.symm)];exact h1,s1,s2,s3,hkeep s4,s5,fun h=>s6 (by omega)⟩
          have hw8:=zH (show wrap64 ((j:Int)+1)=((j+1:Nat):Int) from by unfold wrap64;omega);have HJK:=zA hjk hj;clear hcg hjk hj hrow hown hfs hlg hdk HJ how1 how2 cc hkeep hyM hy r1 r2 r3 r4 r5 ng1 ng2 ng3 ng4 hMl hjL q4 hM2l;go_wp2_with fail;go_roundg (gk - 1);case measure=>have:=HJK.out;omega
          case rel=>exact⟨j+1,by first | rfl | rw[hw8.out],by have:=HJK.out;omega,HN7.out⟩
         ·have t7:decide ((j:Int)<(i:Int))=false:=decide_eq_false (by omega);have t7':decide (j<i)=false:=decide_eq_false hj;obtain rfl:j=i:=by omega
          have x3:=(fd4 hfs).2.2.2;have xz:=hfs.frozen 3;have hf9:=hfs.set 3 (.slice a5 j c5);simp only[List.setIfInBounds_toArray,List.set_cons_zero,List.set_cons_succ] at hf9;have cc:Chg [f] wr (wr.setCell ⟨f,3,none⟩ (.slice a5 j c5)):=(Chg.refl [f] wr).setCell (p:=⟨f,3,none⟩) (.inl (by simp)) _;have hlf:l∉[f]:=by simpa using fun e=>H.out.2.2.2.1 e.symm
          have hEnd:EndR w f p (q+200) (L.map DF.pr) (wr.setCell ⟨f,3,none⟩ (.slice a5 j c5)):=by
           refine⟨S2,l,sq,ps,.slice a5 j c5,M2,now2,hf9,Blk.chg hlg cc hlf,(hdk.setNe x3 (fun x e=>by cases e) HG2.out.1 _).more (by omega),by rw[hM2l];exact (hown.chg cc (fun z hz hm=>(HLo.out z hz).2 (List.mem_singleton.1 hm))).sees,by omega,by rw[List.length_map,HL.out.1];exact hM2l,fun k x hx=>?_⟩;have hkM:=(List.getElem?_eq_some_iff.1 hx).1;have hkL:k<L.length:=by rw[HL.out.1];omega
           obtain⟨y,h1,r1,r2,r3,r4,-,r6⟩:=hrow k _ (List.getElem?_eq_getElem hkL);rw[hx] at h1;cases h1;obtain⟨-,-,-,-,-,hd65,-⟩:=HQ.out.2.2.2.1 k _ (List.getElem?_eq_getElem hkL);have hk173:=HQ.out.2.2.2.2.2.2 k _ (List.getElem?_eq_getElem hkL);have hpt:=pcL_take L k hkL;have hple:=pcL_le L (k+1);have hTl:=HQ.out.2.2.1;have hpg:=fun t ht=>pcL_get L k t hkL ht
           have hc256:(L[k]'hkL).dat.length≤cnt (L[k]'hkL).dat.length * 256∧cnt (L[k]'hkL).dat.length≤256:=by unfold cnt;omega
           refine⟨(L[k]'hkL).dat,by rw[List.getElem?_map,List.getElem?_eq_getElem hkL,r1];rfl,r6 (by omega),r2,by rw[r3,List.length_range'];exact hc256.2,fun z hz=>?_,r4.setNe x3 (fun u hu e=>by
            simp only[ints,List.mem_map] at hu;obtain⟨z,-,rfl⟩:=hu;cases e) _,?_⟩
           ·rw[r3,List.mem_range'] at hz;obtain⟨a,ha,rfl⟩:=hz;omega
           ·generalize hxx:L[k]'hkL=xk at *;rw[r3,flat_pieces (g:=fun z=>now2 (27+z)) (List.range' (pcL (L.take k)).length (cnt xk.dat.length)) (xk.dat++nul (cnt xk.dat.length * 256 - xk.dat.length)) (by rw[List.length_append,List.length_range'];unfold nul;rw[List.length_replicate];omega) (fun t ht=>?_)];·rw[List.take_left]
            ·rw[List.length_range'] at ht;rw[List.getElem_range',Nat.one_mul];show now2 (27+((pcL (L.take k)).length+t))=_;rw[HG2.out.2.2 (27+((pcL (L.take k)).length+t)) (by omega),HU1.out.2.1 ((pcL (L.take k)).length+t) (by omega)];exact hpg t ht
          have hgood:(allV [] cs).2=0∧Go.Aq.Fy.Roomy (allV [] cs).1:=by
           rw[HL.out.2.2.2.2];refine⟨rfl,?_,?_⟩;·rw[←pcL_len,←HQ.out.2.2.1];exact HSn.out.2.2
           ·rw[HQ.out.2.2.2.2.2.1];exact htl4
          have hCE:=hcg.tr (cc.mono fun z hz=>.inl (by rw[List.mem_singleton.1 hz];exact .head _));have HE:=zB hgood hEnd hCE;clear hCE hcg hjk hj hrow hown hfs hlg hdk HJ hf9 cc hlf hEnd hgood;go_wp2_with fail;go_ret;exact⟨⟨0,rfl⟩,.inr ⟨HE.out.1,by rw[HL.out.2.2.2.2];exact HE.out.2.1,HE.out.2.2⟩⟩
end Go.Proofs.YtlbdklaggalgfaaGreatDoor
