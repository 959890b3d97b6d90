/- FgB FgD FGot EkF FewX -/
import Derived.Test.YtlbdklaggalgfaaGreatDoorG48
set_option linter.unusedSimpArgs false
set_option linter.unusedVariables false
set_option maxHeartbeats 4000000
namespace Go.Aq
open Go.RowKit
end Go.Aq
namespace Go.Aq.Fy
open Go.Aq Go.RowKit
theorem flat_len {g:Nat→Sec} (h:∀k,(g k).length=256):∀ks:List Nat,(ks.flatMap g).length=256 * ks.length
 | []=>rfl
 | k::ks=>by rw[List.flatMap_cons,List.length_append,h,flat_len h ks,List.length_cons];omega
theorem bytesB_len {q:Nat} {F:FsD} (h:FInv q F) {s:Nm} {x:FileD} (hx:(s,x)∈F.files):(bytesB F x).length=x.size:=by
 obtain⟨-,h2⟩:=h.files.size _ hx;simp only at h2;unfold bytesB;rw[List.length_take,flat_len (g:=fun k=>F.disk.now (firstF F+k)) (fun k=>h.rest.len _),h2];unfold cnt;omega
theorem FInv.at {q:Nat} {F:FsD} (h:FInv q F) {s:Nm} {x:FileD} (hx:(s,x)∈F.files):s.length≤1048576∧lookK s F.files=some x∧x.size≤256 * x.blocks.length∧x.blocks.length≤4096∧(∀k∈x.blocks,k<allF F)∧(bytesB F x).length=x.size∧x.size≤65535:=by
 obtain⟨h1,h2⟩:=h.files.size _ hx;simp only at h1 h2;have h3:=nameOk_len (h.files.name _ hx);refine⟨Nat.le_trans h3 (by decide),look_of_mem h.files.asc hx,?_,?_,fun k hk=>h.files.bound k (List.mem_flatMap.2 ⟨_,hx,hk⟩),bytesB_len h hx,h1⟩;·rw[h2];unfold cnt;omega
 ·rw[h2];unfold cnt;omega
end Go.Aq.Fy
namespace Go.Proofs.YtlbdklaggalgfaaGreatDoor
open Go.RowKit Go.Aq Go.Aq.Fy Go.Maps
def RowsN (w:World) (B:Nat) (ys:List Value) (L:List Sec):Prop:=ys.length=L.length∧∀(i:Nat) (b:Sec),L[i]?=some b→∃y,ys[i]?=some y∧Sees w 1 y b.length (Bs b)∧∀k∈eyes y,B≤k∧k<w.heap.size
theorem RowsN.push {w:World} {B:Nat} {ys:List Value} {L:List Sec} (h:RowsN w B ys L) {y:Value} {b:Sec} (hy:Sees w 1 y b.length (Bs b)) (hn:∀k∈eyes y,B≤k):RowsN w B (ys++[y]) (L++[b]):=by
 refine⟨by simp[h.1],fun i c hc=>?_⟩;rw[List.getElem?_append] at hc ⊢;rw[h.1];split at hc
 ·rename_i hi;rw[if_pos hi];exact h.2 i c hc
 ·rename_i hi;rw[if_neg hi];have:i - L.length=0:=by
   have:=(List.getElem?_eq_some_iff.1 hc).1;simp at this;omega
  rw[this] at hc ⊢;simp only[List.getElem?_cons_zero,Option.some.injEq] at hc;subst hc;exact⟨y,rfl,hy,fun k hk=>⟨hn k hk,hy.lt (by decide) k hk⟩⟩
theorem RowsN.chg {w w':World} {B:Nat} {ys:List Value} {L:List Sec} {T:List Nat} (h:RowsN w B ys L) (c:Chg T w w') (hT:∀(y:Value),y∈ys→Disj (eyes y) T):RowsN w' B ys L:=by
 refine⟨h.1,fun i b hb=>?_⟩;obtain⟨y,e,hs,hn⟩:=h.2 i b hb;exact⟨y,e,hs.chg c (hT y (List.mem_of_getElem? e)),fun k hk=>⟨(hn k hk).1,Nat.lt_of_lt_of_le (hn k hk).2 c.size⟩⟩
theorem reopen_ok {q:Nat} (w:World) (S:List Nat) (p:Nat) (F:FsD) (hD:DiskR w S p F.disk) (hI:FInv q F) (hq:q<2^47):
  Calls Tryz.prog 15 #[.pointer (some ⟨p,0,none⟩)] w fun e w'=>∃f l bf S',e=.returned (.tuple #[.pointer (some ⟨f,0,none⟩),.int .i64 0])∧FsR w' S' [] f p l bf F∧Upd S (f::l::bf::S') w w':=by
 obtain⟨h1,h2,h3,h4,h5⟩:=open_same hI hq;refine (fopen_ok w S p F.disk F.log F q hD hI.rest.up hI.rest.pend h1 h2 h3 hI.rest.len (fun i hi=>by rw[h4] at hi;omega) (fun _=>?_) hq).mono ?_
 ·rw[h5,h4];exact⟨rfl,rfl,hI⟩
 ·rintro e w' (⟨-,f,l,bf,S',rfl,hF,hU⟩ | ⟨hc,-⟩);·exact⟨f,l,bf,S',rfl,hF,hU⟩
  ·rw[h5] at hc;exact absurd rfl hc
set_option maxRecDepth 100000 in
theorem fread_none (w:World) (Sd X:List Nat) (f d l bf:Nat) (F:FsD) (h:FsR w Sd X f d l bf F) (s:Nm) (hs:s.length≤1048576) (hx:lookK s F.files=none):
  Calls Tryz.prog 22 #[.pointer (some ⟨f,0,none⟩),.string (str s)] w fun e w'=>e=.returned (.tuple #[.slice none 0 0,.int .i64 6])∧Chg [] w w':=by
 obtain⟨⟨c0,-,-,c3⟩,-⟩:=Blk.c4b h.blk;obtain⟨n,ao,m,cap,⟨-,l2⟩,h1,h2,h3⟩:=h.files.look s hs;unfold hasF at l2;rw[hx] at l2;simp only[Option.isSome_none] at l2;clear h h1 h2 h3 hx;go_enter Tryz.func22,Tryz.ntmps22;go_wp2_with fail;refine bodyPost_ret (results_tmp2 rfl _ _ _) rfl ?_;exact⟨rfl,(Chg.refl _ _).alloc _⟩
end Go.Proofs.YtlbdklaggalgfaaGreatDoor
namespace Go.Aq.Fy
open Go.Aq Go.RowKit
theorem look_viewS (F:FsD) (s:Nm):lookK s (viewF F)=(lookK s F.files).map fun x=>bytesB F x:=by
 unfold viewF viewG;exact mapK_look _ _ _
end Go.Aq.Fy
namespace Go.Proofs.YtlbdklaggalgfaaGreatDoor
section
open Go.RowKit Go.Aq Go.Aq.Fy Go.Maps
def GotF (w:World) (o:Option Sec) (e:Ending) (w':World):Prop:=
 (∃(ao:Option Addr) (n cap:Nat) (er:Nat),e=.returned (.tuple #[.slice ao n cap,.int .i64 er])∧n=(o.getD []).length∧er=(if o.isSome then 0 else 6)∧Sees w' 1 (.slice ao n cap) n (Bs (o.getD []))∧∀k∈eyes (.slice ao n cap),w.heap.size≤k)∧Chg [] w w'
theorem fgot_ok {q:Nat} (w:World) (Sd X:List Nat) (f d l bf:Nat) (F:FsD) (h:FsR w Sd X f d l bf F) (hI:FInv q F) (s:Nm) (hs:s.length≤1048576):
  Calls Tryz.prog 22 #[.pointer (some ⟨f,0,none⟩),.string (str s)] w (GotF w (lookK s (viewF F))):=by
 rw[look_viewS];cases hx:lookK s F.files with
 | none=>
  refine (fread_none w Sd X f d l bf F h s hs hx).mono ?_;rintro e w' ⟨rfl,c⟩;exact⟨⟨none,0,0,6,rfl,rfl,rfl,Sees.nil _ _,by simp[eyes]⟩,c⟩
 | some x=>
  obtain⟨-,-,h3,h4,h5,h6,-⟩:=hI.at (look_mem hx);refine (fread_ok w Sd X f d l bf F h hI.rest.up s hs x hx h3 h4 h5 (fun k _=>hI.rest.len k)).mono ?_;rintro e w' ⟨v,rfl,hv,hn,c⟩;obtain⟨ao,cap,rfl,-⟩:=hv.shape;exact⟨⟨ao,_,cap,0,rfl,rfl,rfl,hv,hn⟩,c⟩
end
section
open Go.RowKit Go.Aq.Fy Go.Maps
open Go.Aq hiding Own
theorem dec_lenK (b:List UInt8) (hb:b.length≤200000):(decL b).1.length≤1000000:=by
 by_cases h:(decL b).2=0
 ·have h1:=dec_ok h;have h2:mayL (decL b).1=true:=by
   unfold encodeL at h1;split at h1;·assumption
   ·cases h1
  have:=mayL_len h2;omega
 ·rw[dec_err h];simp
def loadL (o:Option Sec):List RefD×Nat:=match o with
 | some b=>((decL b).1,(decL b).2)
 | none=>([],0)
def LdE (w:World) (o:Option Sec) (e:Ending) (w':World):Prop:=
 ∃v',e=.returned (.tuple #[v',.int .i64 (loadL o).2])∧Sees w' 3 v' (loadL o).1.length (Rfs (loadL o).1)∧Chg [] w w'
set_option maxRecDepth 100000 in
theorem dload_ok (w0 w:World) (f p q:Nat) (V:View) (h:EndR w0 f p q V w) (hq:q≤1000000) (hA:Asc V) (hb:∀d,lookK [114,101,102,115] V=some d→d.length≤200000):
  Calls Tryz.prog 9 #[.pointer (some ⟨f,0,none⟩)] w (LdE w (lookK [114,101,102,115] V)):=by
 have hrd:=dfread_ok w0 w f p q V h hq hA [114,101,102,115];clear h;generalize lookK [114,101,102,115] V=o at *;go_enter Tryz.func9,Tryz.ntmps9;go_wp2_with fail;refine hrd.mono ?_;rintro e w1 ⟨ao,n,cap,er,rfl,hn,her,hs,hc⟩;cases o with
 | none=>
  obtain rfl:er=6:=her;have HC:=zH hc;clear hrd hs hc hb hn;go_wp2_with fail;go_ret2;exact⟨_,rfl,Sees.nil _ _,HC.out⟩
 | some b=>
  obtain rfl:er=0:=her;have hde:=rdecode_any w1 (.slice ao n cap) n b hs (hb b rfl);have HC:=zH hc;clear hrd hs hc hb hn;go_wp2_with fail;refine hde.mono ?_;rintro e w2 ⟨v',rfl,h1,h2⟩;have HH:=zA h1 h2;clear hde h1 h2;go_wp2_with fail;go_ret2;exact⟨_,rfl,HH.out.1,HC.out.nil HH.out.2⟩
set_option maxRecDepth 100000 in
theorem pload_ok {q:Nat} (w:World) (hT:Tabs w) (Sd X:List Nat) (f d l bf:Nat) (F:FsD) (h:FsR w Sd X f d l bf F) (hI:FInv q F) (hb:∀d,lookK [114,101,102,115] (viewF F)=some d→d.length≤200000):
  Calls Tryz.prog 8 #[.pointer (some ⟨f,0,none⟩)] w (LdE w (lookK [114,101,102,115] (viewF F))):=by
 have hrd:=fgot_ok w Sd X f d l bf F h hI [114,101,102,115] (by decide);have HT:=zH hT;clear h hT;generalize lookK [114,101,102,115] (viewF F)=o at *;go_enter Tryz.func8,Tryz.ntmps8;go_wp2_with fail;refine hrd.mono ?_;rintro e w1 ⟨⟨ao,n,cap,er,rfl,hn,her,hs,-⟩,hc⟩;cases o with
 | none=>
  obtain rfl:er=6:=her;have HC:=zH hc;clear hrd hs hc hb hn;go_wp2_with fail;go_ret2;exact⟨_,rfl,Sees.nil _ _,HC.out⟩
 | some b=>
  obtain rfl:er=0:=her;have hde:=decode_any w1 (HT.out.chg hc) (.slice ao n cap) n b hs (hb b rfl);have HC:=zH hc;clear hrd hs hc hb hn;go_wp2_with fail;refine hde.mono ?_;rintro e w2 ⟨v',rfl,h1,h2⟩;have HH:=zA h1 h2;clear hde h1 h2;go_wp2_with fail;go_ret2;exact⟨_,rfl,HH.out.1,HC.out.nil HH.out.2⟩
end
end Go.Proofs.YtlbdklaggalgfaaGreatDoor
namespace Go.Aq.Fy
def fewN (cs:List ChangeD):Nat:=cs.foldl (fun n c=>min (n+min c.data.length 70001) 280000) 0
def fewB (cs:List ChangeD):Bool:=((cs.take 40).all fun c=>decide (c.name.length≤400)&&decide (c.tonm.length≤400))&&decide (cs.length≤40)&&decide (fewN (cs.take 40)≤70000)
def fewJ (cs:List ChangeD) (i n:Nat):Prop:=n=fewN (cs.take i)∧n≤280000∧∀c∈cs.take i,c.name.length≤400∧c.tonm.length≤400
theorem fewJ_step {cs:List ChangeD} {i n:Nat} (h:fewJ cs i n) (hi:i<cs.length) {c:ChangeD} (hc:cs[i]=c) (h1:c.name.length≤400) (h2:c.tonm.length≤400):fewJ cs (i+1) (min (n+min c.data.length 70001) 280000):=by
 obtain⟨hz,ha,hb⟩:=h;refine⟨?_,by omega,fun x hx=>?_⟩
 ·rw[List.take_succ_eq_append_getElem hi,hc,hz];unfold fewN;rw[List.foldl_append];rfl
 ·rw[List.take_succ_eq_append_getElem hi,hc] at hx;rcases List.mem_append.1 hx with hx | hx
  ·exact hb x hx
  ·rw[List.mem_singleton.1 hx];exact⟨h1,h2⟩
theorem fewB_bad {cs:List ChangeD} {i:Nat} (hi:i<cs.length) (h40:i<40) (h:400<(cs[i]'hi).name.length∨400<(cs[i]'hi).tonm.length):fewB cs=false:=by
 unfold fewB;have:((cs.take 40).all fun c=>decide (c.name.length≤400)&&decide (c.tonm.length≤400))=false:=by
  rw[List.all_eq_false];refine⟨cs[i],List.mem_of_getElem? (i:=i) (by rw[List.getElem?_take_of_lt h40,List.getElem?_eq_getElem hi]),?_⟩;simp only[Bool.and_eq_true,decide_eq_true_eq];omega
 rw[this];rfl
theorem fewB_end {cs:List ChangeD} {i n:Nat} (h:fewJ cs i n) (hi:i=min cs.length 40):fewB cs=(decide (cs.length≤40)&&decide (n≤70000)):=by
 obtain⟨h1,-,h2⟩:=h;have e:cs.take i=cs.take 40:=by
  rw[hi];by_cases hl:cs.length≤40;·rw[Nat.min_eq_left hl,List.take_length,List.take_of_length_le hl]
  ·rw[Nat.min_eq_right (by omega)]
 rw[e] at h1 h2;unfold fewB;rw[←h1];have:((cs.take 40).all fun c=>decide (c.name.length≤400)&&decide (c.tonm.length≤400))=true:=by
  rw[List.all_eq_true];intro c hc;obtain⟨a,b⟩:=h2 c hc;simp[a,b]
 rw[this,Bool.true_and]
theorem fewB_few {cs:List ChangeD} (h:fewB cs=true):FewC cs:=by
 unfold fewB at h;simp only[Bool.and_eq_true,decide_eq_true_eq,List.all_eq_true] at h;obtain⟨⟨h1,h2⟩,h3⟩:=h;rw[List.take_of_length_le h2] at h1 h3;refine⟨h2,fun c hc=>⟨(h1 c hc).1,(h1 c hc).2,?_⟩⟩;have key:∀(l:List ChangeD) (n:Nat),n≤280000→(∀d∈l,min d.data.length 70001≤l.foldl (fun n c=>min (n+min c.data.length 70001) 280000) n)∧n≤l.foldl (fun n c=>min (n+min c.data.length 70001) 280000) n:=fun l=>by
  induction l with
  | nil=>intro n _;exact⟨fun d hd=>absurd hd (by simp),Nat.le_refl _⟩
  | cons a t ih=>
   intro n hn;obtain⟨i1,i2⟩:=ih (min (n+min a.data.length 70001) 280000) (by omega);rw[List.foldl_cons];refine⟨fun d hd=>?_,by omega⟩;rcases List.mem_cons.1 hd with rfl | hd
   ·omega
   ·exact i1 d hd
 have:=(key cs 0 (by omega)).1 c hc;unfold fewN at h3;omega
end Go.Aq.Fy
namespace Go.Proofs.YtlbdklaggalgfaaGreatDoor
open Go.RowKit Go.Aq Go.Aq.Fy Go.Maps
set_option maxRecDepth 100000 in
theorem fewX_ok (w:World) (cs:List ChangeD) (v:Value) (xs:List Value) (hv:Sees w 4 v cs.length xs) (hx:CellsC w cs xs):
  Calls Tryz.prog 7 #[v] w fun e w'=>e=.returned (.bool (fewB cs))∧Chg [] w w':=by
 obtain⟨ao,cap,rfl,hcap,-⟩:=hv.shape;obtain⟨N,hN⟩:∃N,cs.length=N:=⟨_,rfl⟩;rw[hN] at hv;obtain⟨M,hM⟩:∃M,min N 40=M:=⟨_,rfl⟩;have HH:=zC hv hx hN (show min cs.length 40=M by rw[hN];exact hM);have hM40:M≤40∧M≤N:=by omega
 rw[hN] at hcap ⊢;clear hv hx hN;go_enter Tryz.func7,Tryz.ntmps7;go_wp2_with fail;go_loopg [3,4] M (fun kk (v3 v4:Value) wr=>∃(i n:Nat),v4=.int .i64 i∧v3=.int .i64 n∧Hid (i+kk=M∧fewJ cs i n∧Chg [] w wr));case atStart=>exact⟨0,0,rfl,rfl,Nat.zero_add _,⟨rfl,Nat.zero_le _,fun c hc=>by simp at hc⟩,Chg.refl _ _⟩
 case round=>
  obtain⟨i,n,rfl,rfl,HJ⟩:=hrel;by_cases hi:i<M
  ·have hiN:i<N:=by omega
   have t0:decide ((i:Int)<(N:Int))=true:=by simp;omega
   have t0':decide (i<N)=true:=by simp;omega
   have t1:decide ((i:Int)<40)=true:=by simp;omega
   have t1':decide (i<40)=true:=by simp;omega
   obtain⟨hik,hfi,cw⟩:=HJ.out;have hn28:=hfi.2.1;have hil:i<cs.length:=by rw[HH.out.2.2.1];exact hiN
   obtain⟨c,hc⟩:∃c,cs[i]'hil=c:=⟨_,rfl⟩;obtain⟨dv,y0,y1,y2,y3,hds⟩:=HH.out.2.1.get (i:=i) (by rw[List.getElem?_eq_getElem hil,hc]);obtain⟨g1,o1,cp1,e,-,-,hcell⟩:=(HH.out.1.chg0 cw).cells (by omega);cases e;obtain⟨ad,cd,rfl,-⟩:=hds.shape;have z1:=hcell (i * 4+1) (by omega);have z2:=hcell (i * 4+2) (by omega);have z3:=hcell (i * 4+3) (by omega);rw[show i * 4=4 * i by omega] at z1 z2 z3;rw[y1] at z1;rw[y2] at z2;rw[y3] at z3;rw[show 4 * i=i * 4 by omega] at z1 z2 z3;rw[show o1+(i * 4+1)=o1+i * 4+1 by omega] at z1;rw[show o1+(i * 4+2)=o1+i * 4+2 by omega] at z2;rw[show o1+(i * 4+3)=o1+i * 4+3 by omega] at z3;have e2:wrap64 ((i:Int)+1)=((i+1:Nat):Int):=by unfold wrap64;omega
   have hstep:=fewJ_step hfi hil hc;obtain⟨nd,hnd⟩:∃nd,c.data.length=nd:=⟨_,rfl⟩;obtain⟨cn,hcn⟩:∃cn,c.name=cn:=⟨_,rfl⟩;obtain⟨ct,hct⟩:∃ct,c.tonm=ct:=⟨_,rfl⟩;rw[hnd] at z3 hstep;rw[hcn] at z1 hstep;rw[hct] at z2 hstep;have HB1:Hid (400<cn.length→fewB cs=false):=fun h=>fewB_bad hil (by omega) (.inl (by rw[hc,hcn];exact h))
   have HB2:Hid (400<ct.length→fewB cs=false):=fun h=>fewB_bad hil (by omega) (.inr (by rw[hc,hct];exact h))
   have hq:=lg1 hik hi;have HQ:=zB hq cw hstep;clear hik hfi cw hil hc y0 y1 y2 y3 hds hnd hcn hct hstep hq hcell;have e2w:=wIq e2;obtain⟨nn,hnn⟩:∃nn,(str cn).size=nn:=⟨_,rfl⟩;obtain⟨tt,htt⟩:∃tt,(str ct).size=tt:=⟨_,rfl⟩;have hnn':cn.length=nn:=by rw[←hnn];exact (str_size cn).symm
   have htt':ct.length=tt:=by rw[←htt];exact (str_size ct).symm
   rw[hnn',htt'] at HQ;rw[hnn'] at HB1;rw[htt'] at HB2;clear hnn' htt';obtain⟨sn,hsn⟩:∃sn,str cn=sn:=⟨_,rfl⟩;obtain⟨st,hst⟩:∃st,str ct=st:=⟨_,rfl⟩;rw[hsn] at z1 hnn;rw[hst] at z2 htt;clear hsn hst;by_cases h1:400<nn
   ·have f1:(400:Int)<(nn:Int):=by omega
    have t2:decide ((400:Int)<(nn:Int))=true:=decide_eq_true f1;have t2':decide (400<nn)=true:=decide_eq_true h1;have HB:=zH (HB1.out h1);clear h1 f1;go_wp2_with fail;go_ret;exact⟨by rw[HB.out];rfl,HQ.out.2.1⟩
   ·have f1:¬(400:Int)<(nn:Int):=by omega
    have t2:decide ((400:Int)<(nn:Int))=false:=decide_eq_false f1;have t2':decide (400<nn)=false:=decide_eq_false h1;by_cases h2:400<tt
    ·have f2:(400:Int)<(tt:Int):=by omega
     have t3:decide ((400:Int)<(tt:Int))=true:=decide_eq_true f2;have t3':decide (400<tt)=true:=decide_eq_true h2;have HB:=zH (HB2.out h2);clear h1 h2 f1 f2;go_wp2_with fail;go_ret;exact⟨by rw[HB.out];rfl,HQ.out.2.1⟩
    ·have f2:¬(400:Int)<(tt:Int):=by omega
     have t3:decide ((400:Int)<(tt:Int))=false:=decide_eq_false f2;have t3':decide (400<tt)=false:=decide_eq_false h2;have hst:=HQ.out.2.2 (Nat.le_of_not_lt h1) (Nat.le_of_not_lt h2);have hmin:min ((n:Int)+min (nd:Int) 70001) 280000=((min (n+min nd 70001) 280000:Nat):Int):=by omega
     have hw1:wrap64 ((n:Int)+min (nd:Int) 70001)=(n:Int)+min (nd:Int) 70001:=by unfold wrap64;omega
     have hw1':=wIq hw1;have HM:=zA hst hmin;clear h1 h2 f1 f2 hst hmin;go_wp2_with fail;go_roundg (gk - 1);case measure=>exact HQ.out.1.2
     case rel=>exact⟨i+1,_,by simp,by rw[HM.out.2],HQ.out.1.1,HM.out.1,HQ.out.2.1⟩
  ·obtain⟨hik,hfi,cw⟩:=HJ.out;have hiM:i=M:=lg2 hik hi;have hn28:=hfi.2.1;have hend:=zH (fewB_end hfi (by rw[hiM];exact HH.out.2.2.2.symm));have HLN:=HH.out.2.2.1;by_cases h40:N≤40
   ·have hiN:i=N:=by omega
    have t0:decide ((i:Int)<(N:Int))=false:=by simp;omega
    have t0':decide (i<N)=false:=by simp;omega
    have t1:decide ((N:Int)≤40)=true:=by simp;omega
    have t1':decide (N≤40)=true:=by simp;omega
    by_cases h7:n≤70000
    ·have t2:decide ((n:Int)≤70000)=true:=by simp;omega
     have t2':decide (n≤70000)=true:=by simp;omega
     have hB:fewB cs=true:=by rw[hend.out,HLN,decide_eq_true h40,decide_eq_true h7];rfl
     have HB:=zH hB;clear hB;clear h7 h40 hiN hi hik hfi hiM;go_wp2_with fail;go_ret;exact⟨by rw[HB.out];rfl,cw⟩
    ·have t2:decide ((n:Int)≤70000)=false:=by simp;omega
     have t2':decide (n≤70000)=false:=by simp;omega
     have hB:fewB cs=false:=by rw[hend.out,decide_eq_false h7,Bool.and_false]
     have HB:=zH hB;clear hB;clear h7 h40 hiN hi hik hfi hiM;go_wp2_with fail;go_ret;exact⟨by rw[HB.out];rfl,cw⟩
   ·have hi4:i=40:=by omega
    have t0:decide ((i:Int)<(N:Int))=true:=by simp;omega
    have t0':decide (i<N)=true:=by simp;omega
    have t3:decide ((i:Int)<40)=false:=by simp;omega
    have t3':decide (i<40)=false:=by simp;omega
    have t1:decide ((N:Int)≤40)=false:=by simp;omega
    have t1':decide (N≤40)=false:=by simp;omega
    have hB:fewB cs=false:=by rw[hend.out,HLN,decide_eq_false h40,Bool.false_and]
    have HB:=zH hB;clear hB;clear h40 hi4 hi hik hfi hiM;go_wp2_with fail;go_ret;exact⟨by rw[HB.out];rfl,cw⟩
end Go.Proofs.YtlbdklaggalgfaaGreatDoor
