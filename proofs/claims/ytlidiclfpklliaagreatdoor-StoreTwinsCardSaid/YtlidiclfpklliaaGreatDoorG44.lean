/- OrA ShaKeys RefSha -/
import Derived.Test.YtlidiclfpklliaaGreatDoorRDcd
import Derived.Test.YtlidiclfpklliaaGreatDoorG41
import Derived.Laws.CopyOwn
set_option linter.unusedSimpArgs false
set_option linter.unusedVariables false
set_option maxHeartbeats 4000000
namespace Go.Proofs.YtlidiclfpklliaaGreatDoor
open Go.RowKit Go.Aq Go.Aq.Fy
theorem rmayTile_any (s:ShpD) (ao:Option Addr) (n cap:Nat) (hn:n≤9223372036854775807) (w:World):
  Calls Tryz.prog 150 #[rasV s (.slice ao n cap)] w fun e w'=>e=.returned (.bool (mayTile s n))∧Chg [] w w':=by
 obtain⟨K,hK⟩:∃K,w.heap.size=K:=⟨_,rfl⟩
 have hc0:Chg [] w (w.alloc (.cells #[.int .i64 s.w,.int .i64 s.h,.int .i64 s.c,.int .i64 s.d,.slice ao n cap] 147)):=(Chg.refl [] w).alloc _
 have hb0:Blk (w.alloc (.cells #[.int .i64 s.w,.int .i64 s.h,.int .i64 s.c,.int .i64 s.d,.slice ao n cap] 147)) K #[.int .i64 s.w,.int .i64 s.h,.int .i64 s.c,.int .i64 s.d,.slice ao n cap] 147:=Blk.new_at w _ _ hK
 have hp:=fun w'=>rmayPix_any s ao n cap hn w'
 have eM:mayTile s n=(mayPix s n&&decide (s.w≤8)&&decide (s.h≤8)):=rfl
 rw[eM]
 unfold rasV at *
 clear eM hn
 have HC0:=zH hc0
 obtain⟨x0,x1,x2,x3,x4⟩:=Blk5 hb0
 go_enter Tryz.func150,Tryz.ntmps150
 go_wp2_with fail
 have ct:=HC0.out
 generalize w.alloc (.cells #[.int .i64 s.w,.int .i64 s.h,.int .i64 s.c,.int .i64 s.d,.slice ao n cap] 147)=w0 at *
 refine (hp _).mono ?_
 rintro e w1 ⟨rfl,c1⟩
 have hb1:=hb0.chg0 c1
 clear x0 x1 x2 x3 x4
 obtain⟨x0,x1,x2,x3,x4⟩:=Blk5 hb1
 have HT:=zH (ct.nil c1)
 clear hp hb0 ct c1 hc0 HC0 hb1
 cases q1:mayPix s n with
 | false=>
  have Q1:=zH q1
  clear q1
  go_wp2_with fail
  go_ret
  exact⟨by simp only[Q1.out,Bool.false_and];rfl,HT.out⟩
 | true=>
  have Q1:=zH q1
  clear q1
  cases q2:decide (s.w≤8) with
  | false=>
   have Q2:=zH q2
   go_wp2_with fail
   go_ret
   exact⟨by simp only[Q1.out,Q2.out,Bool.true_and,Bool.false_and];rfl,HT.out⟩
  | true=>
   have Q2:=zH q2
   go_wp2_with fail
   go_ret
   exact⟨by simp only[Q1.out,Q2.out,Bool.true_and];rfl,HT.out⟩
def AsTileEnd (w:World) (b:List UInt8) (e:Ending) (w':World):Prop:=
 (∃v,e=.returned (.tuple #[v,.bool (refTile b)])∧∃s ao n cap,v=rasV s (.slice ao n cap)∧(refTile b=true→s=(decPL b.tail).1∧Sees w' 1 (.slice ao n cap) (decPL b.tail).2.1.length (Bs (decPL b.tail).2.1)∧∀k∈eyes (.slice ao n cap),w.heap.size≤k))∧Chg [] w w'
theorem AsTileEnd.no {w w':World} {b:List UInt8} (h:refTile b=false) {s:ShpD} {ao:Option Addr} {n cap:Nat} (c:Chg [] w w'):AsTileEnd w b (.returned (.tuple #[rasV s (.slice ao n cap),.bool false])) w':=
 ⟨⟨_,by rw[h],s,ao,n,cap,rfl,fun h2=>by rw[h] at h2;cases h2⟩,c⟩
set_option maxRecDepth 100000 in
theorem asTile_any (w:World) (v:Value) (b:List UInt8) (n:Nat) (hn:b.length=n) (hv:Sees w 1 v n (Bs b)) (hb:n≤1000000):
  Calls Tryz.prog 83 #[v] w (AsTileEnd w b):=by
 obtain⟨K,hK⟩:∃K,w.heap.size=K:=⟨_,rfl⟩
 have hc0:Chg [] w (w.alloc (.cells #[.int .i64 0,.int .i64 0,.int .i64 0,.int .i64 0,.slice none 0 0] 147)):=(Chg.refl [] w).alloc _
 have hbK:Blk (w.alloc (.cells #[.int .i64 0,.int .i64 0,.int .i64 0,.int .i64 0,.slice none 0 0] 147)) K #[.int .i64 0,.int .i64 0,.int .i64 0,.int .i64 0,.slice none 0 0] 147:=Blk.new_at w _ _ hK
 match b,hn,hv with
 | [],hn,hv=>
  simp only[List.length_nil] at hn
  subst hn
  obtain⟨ao,cap,rfl,-⟩:=hv.shape
  have HC0:=zB hc0 hbK hK
  clear hv hb hc0 hbK
  go_enter Tryz.func83,Tryz.ntmps83
  go_wp2_with fail
  refine bodyPost_ret (results_AT rfl _ _ HC0.out.2.1 ras_ty rfl) rfl ?_
  exact AsTileEnd.no (s:=shpZ) rfl HC0.out.1
 | k::t,hn,hv=>
  have hp:0<n:=by rw[←hn];simp
  obtain⟨g,off,cap,rfl,hcap,hcell⟩:=hv.at1 hp
  have m0:(w.alloc (.cells #[.int .i64 0,.int .i64 0,.int .i64 0,.int .i64 0,.slice none 0 0] 147)).cell? ⟨g,off,none⟩=some (.int .u8 (k.toNat:Int)):=hc0.cell_some (hcell 0 hp) (by simp)
  have t1:decide ((n:Int)<1)=false:=by simp;omega
  have t2:(0:Int)<(n:Int):=by omega
  have t2':0<n:=hp
  by_cases h1:k=1
  ·subst h1
   have k1:(((1:UInt8).toNat:Int) != 1)=false:=rfl
   obtain⟨s,hs⟩:∃s,(decPL t).1=s:=⟨_,rfl⟩
   obtain⟨px,hpx⟩:∃px,(decPL t).2.1=px:=⟨_,rfl⟩
   obtain⟨en,hen⟩:∃en,(decPL t).2.2=en:=⟨_,rfl⟩
   have hpl:px.length≤1000000:=by have h1:=dec_len t;rw[hpx] at h1;simp only[List.length_cons] at hn;omega
   have HR:Hid (refTile (1::t)=(decide (en=0)&&mayTile s px.length)):=by
    show (decide ((1:UInt8)=1)&&decide ((decPL t).2.2=0)&&mayTile (decPL t).1 (decPL t).2.1.length)=_
    rw[hs,hpx,hen]
    simp
   have HD:=zB hs hpx hen
   by_cases hc1:cap=1
   ·have hn1:n=1:=by omega
    subst hn1
    have hd:∀w'',Chg [] w w''→Calls Tryz.prog 149 #[.slice (some ⟨g,off,none⟩) 0 0] w'' fun e w'=>∃v',e=.returned (.tuple #[.agg #[.int .i64 s.w,.int .i64 s.h,.int .i64 s.c,.int .i64 s.d,v'],.int .i64 en])∧Sees w' 1 v' px.length (Bs px)∧(∀k∈eyes v',w''.heap.size≤k)∧Chg [] w'' w':=fun w'' c=>by
     have h:=rdecode_pix (.slice (some ⟨g,off,none⟩) 0 0) _ t w'' (by have h1:=(hv.chg0 c).dropAt (k:=1) hp (if_pos hc1);subst hc1;exact h1) (by omega)
     rw[hs,hpx,hen] at h
     exact h
    have HC0:=zB hc0 hbK hK
    subst hc1
    clear hv hb hcell hn hc0 hbK hs hpx hen
    go_enter Tryz.func83,Tryz.ntmps83
    go_wp2_with fail
    refine (hd _ HC0.out.1).mono ?_
    rintro e w2 ⟨v2,rfl,hs2,hn2,c2⟩
    clear hd m0
    obtain⟨ao2,cap2,rfl,-⟩:=hs2.shape
    have hbK2:=HC0.out.2.1.chg0 c2
    have ct2:=HC0.out.1.nil c2
    by_cases hen:en=0
    ·have e0:(en != 0)=false:=by simp[hen]
     obtain⟨K2,hK2⟩:∃K2,w2.heap.size=K2:=⟨_,rfl⟩
     have c3:Chg [] w2 (w2.alloc (.cells #[.int .i64 s.w,.int .i64 s.h,.int .i64 s.c,.int .i64 s.d,.slice ao2 px.length cap2] 147)):=(Chg.refl [] w2).alloc _
     have hb3:Blk (w2.alloc (.cells #[.int .i64 s.w,.int .i64 s.h,.int .i64 s.c,.int .i64 s.d,.slice ao2 px.length cap2] 147)) K2 #[.int .i64 s.w,.int .i64 s.h,.int .i64 s.c,.int .i64 s.d,.slice ao2 px.length cap2] 147:=Blk.new_at w2 _ _ hK2
     have hbK3:=hbK2.chg0 c3
     have ct3:=ct2.nil c3
     have hs3:=hs2.chg0 c3
     have hmt:=fun w'=>rmayTile_any s ao2 px.length cap2 (by omega) w'
     unfold rasV at hmt
     obtain⟨x0,x1,x2,x3,x4⟩:=Blk5 hb3
     have HB:=zD hb3 hbK3 ct3 hs3 hn2
     have HE:=zH hen
     have hKw:K2≠K:=fun e=>by have:=hbK2.lt;omega
     have HKw:=zH hKw
     clear hb3 hbK3 ct3 hs3 hn2 hs2 hbK2 ct2 c2 c3 hen hKw
     cases hM:mayTile s px.length with
     | false=>
      rw[hM] at hmt
      have HM:=zH hM
      clear hM
      go_wp2_with fail
      generalize w2.alloc (.cells #[.int .i64 s.w,.int .i64 s.h,.int .i64 s.c,.int .i64 s.d,.slice ao2 px.length cap2] 147)=w3 at *
      refine (hmt _).mono ?_
      rintro e w4 ⟨rfl,c4⟩
      clear hmt x0 x1 x2 x3 x4
      have hbK4:=HB.out.2.1.chg0 c4
      have ct4:=HB.out.2.2.1.nil c4
      have aT:ArrTy Tryz.prog 147 (#[.int .i64 0,.int .i64 0,.int .i64 0,.int .i64 0,.slice none 0 0]:Array Value).size:=ras_ty
      go_wp2_with (with_reducible refine wpList_stA rfl 147 _ _ rfl hbK4 aT rfl (by simp[Value.oneCell']) rfl rfl ?_;intro w20 hb20 c20 hs20)
      refine bodyPost_ret (results_AT rfl _ _ hb20 ras_ty rfl) rfl ?_
      exact AsTileEnd.no (s:=shpZ) (by rw[HR.out,HM.out];simp) (ct4.trans c20 fun k hk=>by simp at hk;right;have:=HC0.out.2.2;omega)
     | true=>
      rw[hM] at hmt
      have HM:=zH hM
      clear hM
      go_wp2_with fail
      generalize w2.alloc (.cells #[.int .i64 s.w,.int .i64 s.h,.int .i64 s.c,.int .i64 s.d,.slice ao2 px.length cap2] 147)=w3 at *
      refine (hmt _).mono ?_
      rintro e w4 ⟨rfl,c4⟩
      clear hmt x0 x1 x2 x3 x4
      have hbK4:=HB.out.2.1.chg0 c4
      have ct4:=HB.out.2.2.1.nil c4
      obtain⟨x0,x1,x2,x3,x4⟩:=Blk5 (HB.out.1.chg0 c4)
      have HC4:=zH c4
      clear c4
      have aT:ArrTy Tryz.prog 147 (#[.int .i64 s.w,.int .i64 s.h,.int .i64 s.c,.int .i64 s.d,.slice ao2 px.length cap2]:Array Value).size:=ras_ty
      have hss:(#[.int .i64 0,.int .i64 0,.int .i64 0,.int .i64 0,.slice none 0 0]:Array Value).size=(#[.int .i64 s.w,.int .i64 s.h,.int .i64 s.c,.int .i64 s.d,.slice ao2 px.length cap2]:Array Value).size:=rfl
      have hone:∀v∈(#[.int .i64 s.w,.int .i64 s.h,.int .i64 s.c,.int .i64 s.d,.slice ao2 px.length cap2]:Array Value).toList,v.oneCell'=true:=by simp[Value.oneCell']
      go_wp2_with (with_reducible refine wpList_stA rfl 147 _ _ rfl hbK4 aT hss hone rfl rfl ?_;intro w20 hb20 c20 hs20)
      refine bodyPost_ret (results_AT rfl _ _ hb20 ras_ty rfl) rfl ?_
      have hr:refTile (1::t)=true:=by rw[HR.out,HM.out,HE.out];rfl
      refine⟨⟨rasV s (.slice ao2 px.length cap2),by rw[hr];rfl,s,ao2,px.length,cap2,rfl,fun _=>⟨?_,?_,fun k hk=>?_⟩⟩,ct4.trans c20 fun k hk=>by simp at hk;right;have:=HC0.out.2.2;omega⟩
      ·exact HD.out.1.symm
      ·show Sees w20 1 _ (decPL t).2.1.length (Bs (decPL t).2.1)
       rw[HD.out.2.1]
       refine (HB.out.2.2.2.1.chg0 HC4.out).chg c20 fun k hk hk'=>?_
       have h1:=HB.out.2.2.2.2 k hk
       have h2:=HC0.out.2.1.lt
       simp at hk'
       omega
      ·have h1:=HB.out.2.2.2.2 k hk
       have h2:=HC0.out.1.size
       omega
    ·have e0:(en != 0)=true:=by simp[hen]
     have HE:=zH hen
     have HT:=zH ct2
     have hbK3:=hbK2.chg0 ((Chg.refl [] w2).alloc (.cells #[.int .i64 s.w,.int .i64 s.h,.int .i64 s.c,.int .i64 s.d,.slice ao2 px.length cap2] 147))
     clear hn2 hs2 hbK2 ct2 c2 hen
     have aT:ArrTy Tryz.prog 147 (#[.int .i64 0,.int .i64 0,.int .i64 0,.int .i64 0,.slice none 0 0]:Array Value).size:=ras_ty
     go_wp2_with (with_reducible refine wpList_stA rfl 147 _ _ rfl hbK3 aT rfl (by simp[Value.oneCell']) rfl rfl ?_;intro w20 hb20 c20 hs20)
     refine bodyPost_ret (results_AT rfl _ _ hb20 ras_ty rfl) rfl ?_
     exact AsTileEnd.no (s:=shpZ) (by rw[HR.out];simp[HE.out]) ((HT.out.alloc _).trans c20 fun k hk=>by simp at hk;right;have:=HC0.out.2.2;omega)
   ·have hd:∀w'',Chg [] w w''→Calls Tryz.prog 149 #[.slice (some ⟨g,off+1,none⟩) (n - 1) (cap - 1)] w'' fun e w'=>∃v',e=.returned (.tuple #[.agg #[.int .i64 s.w,.int .i64 s.h,.int .i64 s.c,.int .i64 s.d,v'],.int .i64 en])∧Sees w' 1 v' px.length (Bs px)∧(∀k∈eyes v',w''.heap.size≤k)∧Chg [] w'' w':=fun w'' c=>by
     have h:=rdecode_pix (.slice (some ⟨g,off+1,none⟩) (n - 1) (cap - 1)) _ t w'' (by have h1:=(hv.chg0 c).dropAt (k:=1) hp (if_neg hc1);exact h1) (by omega)
     rw[hs,hpx,hen] at h
     exact h
    have HC0:=zB hc0 hbK hK
    have hq:1≤n:=hp
    clear hv hb hcell hn hc0 hbK hs hpx hen
    go_enter Tryz.func83,Tryz.ntmps83
    go_wp2_with fail
    refine (hd _ HC0.out.1).mono ?_
    rintro e w2 ⟨v2,rfl,hs2,hn2,c2⟩
    clear hd m0
    obtain⟨ao2,cap2,rfl,-⟩:=hs2.shape
    have hbK2:=HC0.out.2.1.chg0 c2
    have ct2:=HC0.out.1.nil c2
    by_cases hen:en=0
    ·have e0:(en != 0)=false:=by simp[hen]
     obtain⟨K2,hK2⟩:∃K2,w2.heap.size=K2:=⟨_,rfl⟩
     have c3:Chg [] w2 (w2.alloc (.cells #[.int .i64 s.w,.int .i64 s.h,.int .i64 s.c,.int .i64 s.d,.slice ao2 px.length cap2] 147)):=(Chg.refl [] w2).alloc _
     have hb3:Blk (w2.alloc (.cells #[.int .i64 s.w,.int .i64 s.h,.int .i64 s.c,.int .i64 s.d,.slice ao2 px.length cap2] 147)) K2 #[.int .i64 s.w,.int .i64 s.h,.int .i64 s.c,.int .i64 s.d,.slice ao2 px.length cap2] 147:=Blk.new_at w2 _ _ hK2
     have hbK3:=hbK2.chg0 c3
     have ct3:=ct2.nil c3
     have hs3:=hs2.chg0 c3
     have hmt:=fun w'=>rmayTile_any s ao2 px.length cap2 (by omega) w'
     unfold rasV at hmt
     obtain⟨x0,x1,x2,x3,x4⟩:=Blk5 hb3
     have HB:=zD hb3 hbK3 ct3 hs3 hn2
     have HE:=zH hen
     have hKw:K2≠K:=fun e=>by have:=hbK2.lt;omega
     have HKw:=zH hKw
     clear hb3 hbK3 ct3 hs3 hn2 hs2 hbK2 ct2 c2 c3 hen hKw
     cases hM:mayTile s px.length with
     | false=>
      rw[hM] at hmt
      have HM:=zH hM
      clear hM
      go_wp2_with fail
      generalize w2.alloc (.cells #[.int .i64 s.w,.int .i64 s.h,.int .i64 s.c,.int .i64 s.d,.slice ao2 px.length cap2] 147)=w3 at *
      refine (hmt _).mono ?_
      rintro e w4 ⟨rfl,c4⟩
      clear hmt x0 x1 x2 x3 x4
      have hbK4:=HB.out.2.1.chg0 c4
      have ct4:=HB.out.2.2.1.nil c4
      have aT:ArrTy Tryz.prog 147 (#[.int .i64 0,.int .i64 0,.int .i64 0,.int .i64 0,.slice none 0 0]:Array Value).size:=ras_ty
      go_wp2_with (with_reducible refine wpList_stA rfl 147 _ _ rfl hbK4 aT rfl (by simp[Value.oneCell']) rfl rfl ?_;intro w20 hb20 c20 hs20)
      refine bodyPost_ret (results_AT rfl _ _ hb20 ras_ty rfl) rfl ?_
      exact AsTileEnd.no (s:=shpZ) (by rw[HR.out,HM.out];simp) (ct4.trans c20 fun k hk=>by simp at hk;right;have:=HC0.out.2.2;omega)
     | true=>
      rw[hM] at hmt
      have HM:=zH hM
      clear hM
      go_wp2_with fail
      generalize w2.alloc (.cells #[.int .i64 s.w,.int .i64 s.h,.int .i64 s.c,.int .i64 s.d,.slice ao2 px.length cap2] 147)=w3 at *
      refine (hmt _).mono ?_
      rintro e w4 ⟨rfl,c4⟩
      clear hmt x0 x1 x2 x3 x4
      have hbK4:=HB.out.2.1.chg0 c4
      have ct4:=HB.out.2.2.1.nil c4
      obtain⟨x0,x1,x2,x3,x4⟩:=Blk5 (HB.out.1.chg0 c4)
      have HC4:=zH c4
      clear c4
      have aT:ArrTy Tryz.prog 147 (#[.int .i64 s.w,.int .i64 s.h,.int .i64 s.c,.int .i64 s.d,.slice ao2 px.length cap2]:Array Value).size:=ras_ty
      have hss:(#[.int .i64 0,.int .i64 0,.int .i64 0,.int .i64 0,.slice none 0 0]:Array Value).size=(#[.int .i64 s.w,.int .i64 s.h,.int .i64 s.c,.int .i64 s.d,.slice ao2 px.length cap2]:Array Value).size:=rfl
      have hone:∀v∈(#[.int .i64 s.w,.int .i64 s.h,.int .i64 s.c,.int .i64 s.d,.slice ao2 px.length cap2]:Array Value).toList,v.oneCell'=true:=by simp[Value.oneCell']
      go_wp2_with (with_reducible refine wpList_stA rfl 147 _ _ rfl hbK4 aT hss hone rfl rfl ?_;intro w20 hb20 c20 hs20)
      refine bodyPost_ret (results_AT rfl _ _ hb20 ras_ty rfl) rfl ?_
      have hr:refTile (1::t)=true:=by rw[HR.out,HM.out,HE.out];rfl
      refine⟨⟨rasV s (.slice ao2 px.length cap2),by rw[hr];rfl,s,ao2,px.length,cap2,rfl,fun _=>⟨?_,?_,fun k hk=>?_⟩⟩,ct4.trans c20 fun k hk=>by simp at hk;right;have:=HC0.out.2.2;omega⟩
      ·exact HD.out.1.symm
      ·show Sees w20 1 _ (decPL t).2.1.length (Bs (decPL t).2.1)
       rw[HD.out.2.1]
       refine (HB.out.2.2.2.1.chg0 HC4.out).chg c20 fun k hk hk'=>?_
       have h1:=HB.out.2.2.2.2 k hk
       have h2:=HC0.out.2.1.lt
       simp at hk'
       omega
      ·have h1:=HB.out.2.2.2.2 k hk
       have h2:=HC0.out.1.size
       omega
    ·have e0:(en != 0)=true:=by simp[hen]
     have HE:=zH hen
     have HT:=zH ct2
     have hbK3:=hbK2.chg0 ((Chg.refl [] w2).alloc (.cells #[.int .i64 s.w,.int .i64 s.h,.int .i64 s.c,.int .i64 s.d,.slice ao2 px.length cap2] 147))
     clear hn2 hs2 hbK2 ct2 c2 hen
     have aT:ArrTy Tryz.prog 147 (#[.int .i64 0,.int .i64 0,.int .i64 0,.int .i64 0,.slice none 0 0]:Array Value).size:=ras_ty
     go_wp2_with (with_reducible refine wpList_stA rfl 147 _ _ rfl hbK3 aT rfl (by simp[Value.oneCell']) rfl rfl ?_;intro w20 hb20 c20 hs20)
     refine bodyPost_ret (results_AT rfl _ _ hb20 ras_ty rfl) rfl ?_
     exact AsTileEnd.no (s:=shpZ) (by rw[HR.out];simp[HE.out]) ((HT.out.alloc _).trans c20 fun k hk=>by simp at hk;right;have:=HC0.out.2.2;omega)
  ·have k1:((k.toNat:Int) != 1)=true:=by
    have h2:k.toNat≠1:=fun e=>h1 (by rw[←UInt8.ofNat_toNat (x:=k),e];rfl)
    simp;omega
   have hr:refTile (k::t)=false:=by unfold refTile;simp[h1]
   have HC0:=zC hc0 hbK hK hr
   have hbK':=hbK
   clear hv hb hcell hn hc0 hbK h1 hr
   go_enter Tryz.func83,Tryz.ntmps83
   go_wp2_with fail
   refine bodyPost_ret (results_AT rfl _ _ HC0.out.2.1 ras_ty rfl) rfl ?_
   exact AsTileEnd.no (s:=shpZ) HC0.out.2.2.2 HC0.out.1
end Go.Proofs.YtlidiclfpklliaaGreatDoor
namespace Go.Aq
end Go.Aq
namespace Go.Proofs.YtlidiclfpklliaaGreatDoor
open Go.RowKit Go.Aq Go.Aq.Sha
theorem str_extract (l:List UInt8) (i j:Nat):(str l).extract i j=str ((l.take j).drop i):=by
 unfold str
 apply ByteArray.ext
 rw[ByteArray.data_extract]
 simp[List.drop_take]
theorem copyF (w:World) (v:Value) (n:Nat) (bs:List UInt8) (hv:Sees w 1 v n (Bs bs)) (hb:n≤140737488355328):
  Calls Tryz.prog 12 #[v] w fun e w'=>∃v',e=.returned v'∧Fresh w w' 5 1 v' n (Bs bs):=
 (copy_any w v n bs hv hb sl_u8).mono fun e w' ⟨v',h1,h2,h3,h4⟩=>⟨v',h1,h2,h3,h4⟩
end Go.Proofs.YtlidiclfpklliaaGreatDoor
namespace Go.Aq
open Go.RowKit
theorem Own.blk {w:World} {e:TypeId} {g n:Nat} {xs:List Value} (h:Own w e 1 (.slice (some ⟨g,0,none⟩) n n) n xs):Blk w g xs.toArray e:=by
 rcases h.2 with ⟨h,_⟩ | ⟨g',cap',cur,hv,hbg,hg,hnc,hcm,hcs,htake⟩
 ·simp at h
 ·simp only[Value.slice.injEq,Option.some.injEq,Addr.mk.injEq,and_true,true_and] at hv
  obtain⟨rfl,rfl⟩:=hv
  have:xs.toArray=cur:=by
   rw[←htake,List.take_of_length_le (by simp only[Array.length_toList];omega)]
  rw[this]
  exact hg
theorem wpList_cp {P:Program} {w:World} {ops:Array Oper} {rest:List Oper} {o:Oper} {a:Act} {Q:Exit→Act→World→Prop} (hgd:o.guard=none) (d s:Operand) (dT sT:TypeId)
  (ho:o.op=.call { callee:=.builtin .copy,args:=#[d,s],argTypes:=#[dT,sT] }) (elem:TypeId) (hu:P.underlying dT=some (.slice elem)) (hsz:(P.info? elem).map (·.size)=some 1)
  {g n c gs cs':Nat} {cur src:List Value} {t ts:TypeId} (hb:Blk w g cur.toArray t) (hs:Blk w gs src.toArray ts) (hcl:cur.length=n) (hsl:src.length=n) (h1:∀v∈src,v.oneCell'=true)
  (hd:a.eval d=.slice (some ⟨g,0,none⟩) n c) (hx:a.eval s=.slice (some ⟨gs,0,none⟩) n cs')
  (h:∀w',Blk w' g src.toArray t→Chg [g] w w'→w'.heap.size=w.heap.size→wpList P ops Q rest (a.put o.dst (goInt n)) w'):wpList P ops Q (o::rest) a w:=by
 refine wpList_copy_own hgd d s dT sT ho elem hu hsz g 0 n c ⟨gs,0,none⟩ n cs' hd hx cur.toArray t hb src (by rw[hsl];exact (Nat.min_self n).symm) (fun j v hv=>?_) (by simp;omega) h1 ?_
 ·rw[Addr.add_lit,Nat.zero_add,hs.cell]
  simpa using hv
 ·have e:(cur.toArray.toList.take 0++(src++cur.toArray.toList.drop (0+src.length)))=src:=by
   simp only[List.take_zero,List.nil_append,Nat.zero_add]
   rw[List.drop_of_length_le (by show cur.length≤src.length;omega),List.append_nil]
  rw[e,hsl]
  exact h _ (setRow_heap w g cur.toArray src.toArray t _ hb) ⟨rfl,rfl,rfl,by simp,fun k _ hk=>setRow_other w g k _ (fun e=>hk (by simp[e]))⟩ (by simp)
end Go.Aq
namespace Go.Proofs.YtlidiclfpklliaaGreatDoor
open Go.RowKit Go.Aq Go.Aq.Sha
theorem rot_or' (x k:Nat) (hx:x<4294967296) (h1:1≤k) (h2:k≤31):bits .or .u32 ((x:Int) / 2^k) (IntKind.u32.wrap ((x:Int) * 2^(32 - k)))=((rotr x k:Nat):Int):=by
 have e1:IntKind.u32.wrap ((x:Int) * 2^(32 - k))=((x * 2^(32 - k) % 4294967296:Nat):Int):=by rw[IntKind.wrap_u32];simp
 have e2:(x:Int) / 2^k=((x / 2^k:Nat):Int):=by simp
 have hlt:x / 2^k<4294967296:=Nat.lt_of_le_of_lt (Nat.div_le_self _ _) hx
 have h:=rot_or x k hx h1 h2
 rw[e1,e2] at h ⊢
 rw[(bits_u32 _ _ (Nat.mod_lt _ (by decide)) hlt).2.1] at h
 rw[(bits_u32 _ _ hlt (Nat.mod_lt _ (by decide))).2.1,Nat.or_comm]
 exact h
set_option maxRecDepth 100000 in
theorem turn_any (x k:Nat) (hx:x<4294967296) (h1:1≤k) (h2:k≤31) (w:World):Calls Tryz.prog 156 #[.int .u32 x,.int .i64 k] w fun e w'=>e=.returned (.int .u32 (rotr x k:Nat))∧∃n,w'=w.drewN n:=by
 have HO:=zH (rot_or' x k hx h1 h2)
 obtain⟨s,hs⟩:∃s,32 - k=s:=⟨_,rfl⟩
 rw[hs] at HO
 have hsi:(32:Int) - (k:Int)=(s:Int):=by omega
 have hsb:1≤s∧s≤31:=by omega
 obtain⟨hs1,hs2⟩:=hsb
 clear hs
 go_enter Tryz.func156,Tryz.ntmps156
 go_wp2_with fail
 go_quiet (fail)
 go_wp2_with fail
 go_ret
 exact⟨ret_int HO.out,_,rfl⟩
set_option maxRecDepth 100000 in
theorem const_any (w:World):Calls Tryz.prog 155 #[] w fun e w'=>∃B,e=.returned (.slice (some ⟨B,0,none⟩) 64 64)∧Blk w' B (Ws K).toArray 223∧Chg [] w w'∧w.heap.size≤B:=by
 go_enter Tryz.func155,Tryz.ntmps155
 go_wp2_with fail
 go_ret
 exact⟨w.heap.size,rfl,Blk.new w _ _,(Chg.refl _ _).alloc _,Nat.le_refl _⟩
end Go.Proofs.YtlidiclfpklliaaGreatDoor
