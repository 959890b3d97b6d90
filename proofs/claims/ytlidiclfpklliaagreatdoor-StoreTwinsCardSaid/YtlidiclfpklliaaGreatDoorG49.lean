/- OrD OrE -/
import Derived.Test.YtlidiclfpklliaaGreatDoorG48
set_option linter.unusedSimpArgs false
set_option linter.unusedVariables false
set_option maxHeartbeats 16000000
namespace Go.Proofs.YtlidiclfpklliaaGreatDoor
open Go.RowKit Go.Aq Go.Aq.Fy
set_option maxRecDepth 100000 in
theorem rcmay_ok (w:World) (c:CommD) (v:Value) (n:Nat) (hn:c.pars.length=n) (hv:Sees w 1 v n (names c.pars)) (hb:n≤100000) (hs:∀k∈c.pars,k.length≤1000000) (hl1:c.tree.length≤1000000) (hl2:c.author.length≤1000000) (hl3:c.text.length≤1000000):
  Calls Tryz.prog 154 #[commV c v] w fun e w'=>e=.returned (.bool (mayComm c))∧Chg [] w w':=by
 obtain⟨tr,l,st,au,tx⟩:=c
 simp only at hn hv hs hl1 hl2 hl3
 obtain⟨ao,cap,rfl,-⟩:=hv.shape
 obtain⟨K,hK⟩:∃K,w.heap.size=K:=⟨_,rfl⟩
 have hc0:Chg [] w (w.alloc (.cells #[.string (str tr),.slice ao n cap,.int .i64 st,.string (str au),.string (str tx)] 155)):=(Chg.refl [] w).alloc _
 have hb0:Blk (w.alloc (.cells #[.string (str tr),.slice ao n cap,.int .i64 st,.string (str au),.string (str tx)] 155)) K #[.string (str tr),.slice ao n cap,.int .i64 st,.string (str au),.string (str tx)] 155:=Blk.new_at w _ _ hK
 have hvt:=fun w'=>refValid_any w' tr hl1
 have hva:=fun w' (c:Chg [] w w')=>rvalids_ok w' l (.slice ao n cap) n hn (hv.chg0 c) (by omega) hs
 have hna:=fun w'=>rname_any au w' (by omega)
 have htx:=fun w'=>rtext_any tx w' (by omega)
 have eM:mayComm ⟨tr,l,st,au,tx⟩=(validB tr&&decide (n≤2)&&validAll l&&!twins l&&decide (1≤st)&&decide (st≤1099511627776)&&Wd.nameL au&&Wd.textL tx):=by
  unfold mayComm
  simp only[hn]
 rw[eM]
 unfold commV
 clear hl1 hl2 hl3 hs hb eM
 cases q1:validB tr with
 | false=>
  have Q1:=zH q1
  rw[q1] at hvt
  clear q1
  have HC0:=zH hc0
  clear hc0
  go_enter Tryz.func154,Tryz.ntmps154
  go_upto_region 1 with (fail)
  have hc0:=HC0.out
  generalize w.alloc (.cells #[.string (str tr),.slice ao n cap,.int .i64 st,.string (str au),.string (str tx)] 155)=wb at *
  obtain⟨x0,x1,x2,x3,x4⟩:=Blk5 hb0
  obtain⟨X,hne,F,x,hF0,hF,hX⟩:=fam0 wb
  have z0:=fun x=>(hF x).cell_some x0 (by simp)
  have z1:=fun x=>(hF x).cell_some x1 (by simp)
  have z2:=fun x=>(hF x).cell_some x2 (by simp)
  have z3:=fun x=>(hF x).cell_some x3 (by simp)
  have z4:=fun x=>(hF x).cell_some x4 (by simp)
  clear hb0 x0 x1 x2 x3 x4 hva hc0
  refine wp_fam F (by kernel_rfl) (by kernel_rfl) x hF0 ?_
  repeat (go_big_quiet_step (first | exact fam_call hF hX (hvt _)))
  refine wpQuiet_nil ?_
  rintro w' ⟨x1,rfl⟩
  go_wp2_with fail
  go_ret
  exact⟨by simp only[Q1.out,Bool.not_true,Bool.not_false,Bool.true_and,Bool.false_and,Bool.and_false,Bool.and_true];first | done | rfl,HC0.out.nil (hF x1)⟩
 | true=>
  have Q1:=zH q1
  rw[q1] at hvt
  clear q1
  cases q2:decide (n≤2) with
  | false=>
   have Q2:=zH q2
   have d2:decide ((n:Int)≤2)=false:=by have:=of_decide_eq_false q2;simp;omega
   have HC0:=zH hc0
   clear hc0
   go_enter Tryz.func154,Tryz.ntmps154
   go_upto_region 1 with (fail)
   have hc0:=HC0.out
   generalize w.alloc (.cells #[.string (str tr),.slice ao n cap,.int .i64 st,.string (str au),.string (str tx)] 155)=wb at *
   obtain⟨x0,x1,x2,x3,x4⟩:=Blk5 hb0
   obtain⟨X,hne,F,x,hF0,hF,hX⟩:=fam0 wb
   have z0:=fun x=>(hF x).cell_some x0 (by simp)
   have z1:=fun x=>(hF x).cell_some x1 (by simp)
   have z2:=fun x=>(hF x).cell_some x2 (by simp)
   have z3:=fun x=>(hF x).cell_some x3 (by simp)
   have z4:=fun x=>(hF x).cell_some x4 (by simp)
   clear hb0 x0 x1 x2 x3 x4 hva hc0
   refine wp_fam F (by kernel_rfl) (by kernel_rfl) x hF0 ?_
   repeat (go_big_quiet_step (first | exact fam_call hF hX (hvt _)))
   refine wpQuiet_nil ?_
   rintro w' ⟨x1,rfl⟩
   go_wp2_with fail
   go_ret
   exact⟨by simp only[Q1.out,Q2.out,Bool.not_true,Bool.not_false,Bool.true_and,Bool.false_and,Bool.and_false,Bool.and_true];first | done | rfl,HC0.out.nil (hF x1)⟩
  | true=>
   have Q2:=zH q2
   have d2:decide ((n:Int)≤2)=true:=by have:=of_decide_eq_true q2;simp;omega
   cases q3:validAll l with
   | false=>
    have Q3:=zH q3
    rw[q3] at hva
    clear q3
    have HC0:=zH hc0
    clear hc0
    go_enter Tryz.func154,Tryz.ntmps154
    go_upto_region 1 with (fail)
    have hc0:=HC0.out
    generalize w.alloc (.cells #[.string (str tr),.slice ao n cap,.int .i64 st,.string (str au),.string (str tx)] 155)=wb at *
    obtain⟨x0,x1,x2,x3,x4⟩:=Blk5 hb0
    obtain⟨X,hne,F,x,hF0,hF,hX⟩:=fam0 wb
    have z0:=fun x=>(hF x).cell_some x0 (by simp)
    have z1:=fun x=>(hF x).cell_some x1 (by simp)
    have z2:=fun x=>(hF x).cell_some x2 (by simp)
    have z3:=fun x=>(hF x).cell_some x3 (by simp)
    have z4:=fun x=>(hF x).cell_some x4 (by simp)
    have hvx:=fun x=>hva (F x) (hc0.nil (hF x))
    clear hb0 x0 x1 x2 x3 x4 hva hc0
    refine wp_fam F (by kernel_rfl) (by kernel_rfl) x hF0 ?_
    repeat (go_big_quiet_step (first | exact fam_call hF hX (hvt _) | exact fam_call hF hX (hvx _)))
    refine wpQuiet_nil ?_
    rintro w' ⟨x1,rfl⟩
    go_wp2_with fail
    go_ret
    exact⟨by simp only[Q1.out,Q2.out,Q3.out,Bool.not_true,Bool.not_false,Bool.true_and,Bool.false_and,Bool.and_false,Bool.and_true];first | done | rfl,HC0.out.nil (hF x1)⟩
   | true=>
    have Q3:=zH q3
    rw[q3] at hva
    clear q3
    by_cases h2:n=2
    ·obtain⟨a,b,rfl⟩:∃a b,l=[a,b]:=by
      match l,hn with
      | [],hn=>simp at hn;omega
      | [a],hn=>simp at hn;omega
      | [a,b],_=>exact⟨a,b,rfl⟩
      | a::b::c::t,hn=>simp at hn;omega
     subst h2
     obtain⟨g,off,cap',e1,hle',-,hxc⟩:=hv.cells (by decide)
     injection e1 with e1 e0 e2
     subst e1 e2
     have u0:w.cell? ⟨g,off+0,none⟩=some (.string (str a)):=hxc 0 (by decide)
     have u1:w.cell? ⟨g,off+1,none⟩=some (.string (str b)):=hxc 1 (by decide)
     rw[Nat.add_zero] at u0
     clear e0 hxc hle' hn hv q2 d2
     have d3:decide ((2:Int)<2)=false:=rfl
     by_cases hab:a=b
     ·have q4:((str a).toList==(str b).toList)=true:=by rw[str_eq];simp[hab]
      have q4':((str a).toList != (str b).toList)=false:=by simp only[bne,q4];rfl
      have Q4:Hid (twins [a,b]=true):=by show _=_;unfold twins;simp[hab]
      clear hab
      have HC0:=zH hc0
      clear hc0
      go_enter Tryz.func154,Tryz.ntmps154
      go_upto_region 1 with (fail)
      have hc0:=HC0.out
      generalize w.alloc (.cells #[.string (str tr),.slice (some ⟨g,off,none⟩) 2 cap,.int .i64 st,.string (str au),.string (str tx)] 155)=wb at *
      obtain⟨x0,x1,x2,x3,x4⟩:=Blk5 hb0
      obtain⟨X,hne,F,x,hF0,hF,hX⟩:=fam0 wb
      have z0:=fun x=>(hF x).cell_some x0 (by simp)
      have z1:=fun x=>(hF x).cell_some x1 (by simp)
      have z2:=fun x=>(hF x).cell_some x2 (by simp)
      have z3:=fun x=>(hF x).cell_some x3 (by simp)
      have z4:=fun x=>(hF x).cell_some x4 (by simp)
      have z5:=fun x=>(hF x).cell_some (hc0.cell_some u0 (by simp)) (by simp)
      have z6:=fun x=>(hF x).cell_some (hc0.cell_some u1 (by simp)) (by simp)
      have hvx:=fun x=>hva (F x) (hc0.nil (hF x))
      clear hb0 x0 x1 x2 x3 x4 hva hc0 u0 u1
      refine wp_fam F (by kernel_rfl) (by kernel_rfl) x hF0 ?_
      repeat (go_big_quiet_step (first | exact fam_call hF hX (hvt _) | exact fam_call hF hX (hvx _)))
      refine wpQuiet_nil ?_
      rintro w' ⟨x1,rfl⟩
      go_wp2_with fail
      go_ret
      exact⟨by simp only[Q1.out,Q2.out,Q3.out,Q4.out,Bool.not_true,Bool.not_false,Bool.true_and,Bool.false_and,Bool.and_false,Bool.and_true];first | done | rfl,HC0.out.nil (hF x1)⟩
     ·have q4:((str a).toList==(str b).toList)=false:=by rw[str_eq];simp[hab]
      have q4':((str a).toList != (str b).toList)=true:=by simp only[bne,q4];rfl
      have Q4:Hid (twins [a,b]=false):=by show _=_;unfold twins;simp[hab]
      clear hab
      cases q5:decide (1≤st) with
      | false=>
       have Q5:=zH q5
       have HC0:=zH hc0
       clear hc0
       go_enter Tryz.func154,Tryz.ntmps154
       go_upto_region 1 with (fail)
       have hc0:=HC0.out
       generalize w.alloc (.cells #[.string (str tr),.slice (some ⟨g,off,none⟩) 2 cap,.int .i64 st,.string (str au),.string (str tx)] 155)=wb at *
       obtain⟨x0,x1,x2,x3,x4⟩:=Blk5 hb0
       obtain⟨X,hne,F,x,hF0,hF,hX⟩:=fam0 wb
       have z0:=fun x=>(hF x).cell_some x0 (by simp)
       have z1:=fun x=>(hF x).cell_some x1 (by simp)
       have z2:=fun x=>(hF x).cell_some x2 (by simp)
       have z3:=fun x=>(hF x).cell_some x3 (by simp)
       have z4:=fun x=>(hF x).cell_some x4 (by simp)
       have z5:=fun x=>(hF x).cell_some (hc0.cell_some u0 (by simp)) (by simp)
       have z6:=fun x=>(hF x).cell_some (hc0.cell_some u1 (by simp)) (by simp)
       have hvx:=fun x=>hva (F x) (hc0.nil (hF x))
       clear hb0 x0 x1 x2 x3 x4 hva hc0 u0 u1
       refine wp_fam F (by kernel_rfl) (by kernel_rfl) x hF0 ?_
       repeat (go_big_quiet_step (first | exact fam_call hF hX (hvt _) | exact fam_call hF hX (hvx _)))
       refine wpQuiet_nil ?_
       rintro w' ⟨x1,rfl⟩
       go_wp2_with fail
       go_ret
       exact⟨by simp only[Q1.out,Q2.out,Q3.out,Q4.out,Q5.out,Bool.not_true,Bool.not_false,Bool.true_and,Bool.false_and,Bool.and_false,Bool.and_true];first | done | rfl,HC0.out.nil (hF x1)⟩
      | true=>
       have Q5:=zH q5
       cases q6:decide (st≤1099511627776) with
       | false=>
        have Q6:=zH q6
        have HC0:=zH hc0
        clear hc0
        go_enter Tryz.func154,Tryz.ntmps154
        go_upto_region 1 with (fail)
        have hc0:=HC0.out
        generalize w.alloc (.cells #[.string (str tr),.slice (some ⟨g,off,none⟩) 2 cap,.int .i64 st,.string (str au),.string (str tx)] 155)=wb at *
        obtain⟨x0,x1,x2,x3,x4⟩:=Blk5 hb0
        obtain⟨X,hne,F,x,hF0,hF,hX⟩:=fam0 wb
        have z0:=fun x=>(hF x).cell_some x0 (by simp)
        have z1:=fun x=>(hF x).cell_some x1 (by simp)
        have z2:=fun x=>(hF x).cell_some x2 (by simp)
        have z3:=fun x=>(hF x).cell_some x3 (by simp)
        have z4:=fun x=>(hF x).cell_some x4 (by simp)
        have z5:=fun x=>(hF x).cell_some (hc0.cell_some u0 (by simp)) (by simp)
        have z6:=fun x=>(hF x).cell_some (hc0.cell_some u1 (by simp)) (by simp)
        have hvx:=fun x=>hva (F x) (hc0.nil (hF x))
        clear hb0 x0 x1 x2 x3 x4 hva hc0 u0 u1
        refine wp_fam F (by kernel_rfl) (by kernel_rfl) x hF0 ?_
        repeat (go_big_quiet_step (first | exact fam_call hF hX (hvt _) | exact fam_call hF hX (hvx _)))
        refine wpQuiet_nil ?_
        rintro w' ⟨x1,rfl⟩
        go_wp2_with fail
        go_ret
        exact⟨by simp only[Q1.out,Q2.out,Q3.out,Q4.out,Q5.out,Q6.out,Bool.not_true,Bool.not_false,Bool.true_and,Bool.false_and,Bool.and_false,Bool.and_true];first | done | rfl,HC0.out.nil (hF x1)⟩
       | true=>
        have Q6:=zH q6
        cases q7:Wd.nameL au with
        | false=>
         have Q7:=zH q7
         rw[q7] at hna
         clear q7
         have HC0:=zH hc0
         clear hc0
         go_enter Tryz.func154,Tryz.ntmps154
         go_upto_region 1 with (fail)
         have hc0:=HC0.out
         generalize w.alloc (.cells #[.string (str tr),.slice (some ⟨g,off,none⟩) 2 cap,.int .i64 st,.string (str au),.string (str tx)] 155)=wb at *
         obtain⟨x0,x1,x2,x3,x4⟩:=Blk5 hb0
         obtain⟨X,hne,F,x,hF0,hF,hX⟩:=fam0 wb
         have z0:=fun x=>(hF x).cell_some x0 (by simp)
         have z1:=fun x=>(hF x).cell_some x1 (by simp)
         have z2:=fun x=>(hF x).cell_some x2 (by simp)
         have z3:=fun x=>(hF x).cell_some x3 (by simp)
         have z4:=fun x=>(hF x).cell_some x4 (by simp)
         have z5:=fun x=>(hF x).cell_some (hc0.cell_some u0 (by simp)) (by simp)
         have z6:=fun x=>(hF x).cell_some (hc0.cell_some u1 (by simp)) (by simp)
         have hvx:=fun x=>hva (F x) (hc0.nil (hF x))
         clear hb0 x0 x1 x2 x3 x4 hva hc0 u0 u1
         refine wp_fam F (by kernel_rfl) (by kernel_rfl) x hF0 ?_
         repeat (go_big_quiet_step (first | exact fam_call hF hX (hvt _) | exact fam_call hF hX (hvx _) | exact fam_call hF hX (hna _)))
         refine wpQuiet_nil ?_
         rintro w' ⟨x1,rfl⟩
         go_wp2_with fail
         go_ret
         exact⟨by simp only[Q1.out,Q2.out,Q3.out,Q4.out,Q5.out,Q6.out,Q7.out,Bool.not_true,Bool.not_false,Bool.true_and,Bool.false_and,Bool.and_false,Bool.and_true];first | done | rfl,HC0.out.nil (hF x1)⟩
        | true=>
         have Q7:=zH q7
         rw[q7] at hna
         clear q7
         cases q8:Wd.textL tx with
         | false=>
          have Q8:=zH q8
          rw[q8] at htx
          clear q8
          have HC0:=zH hc0
          clear hc0
          go_enter Tryz.func154,Tryz.ntmps154
          go_upto_region 1 with (fail)
          have hc0:=HC0.out
          generalize w.alloc (.cells #[.string (str tr),.slice (some ⟨g,off,none⟩) 2 cap,.int .i64 st,.string (str au),.string (str tx)] 155)=wb at *
          obtain⟨x0,x1,x2,x3,x4⟩:=Blk5 hb0
          obtain⟨X,hne,F,x,hF0,hF,hX⟩:=fam0 wb
          have z0:=fun x=>(hF x).cell_some x0 (by simp)
          have z1:=fun x=>(hF x).cell_some x1 (by simp)
          have z2:=fun x=>(hF x).cell_some x2 (by simp)
          have z3:=fun x=>(hF x).cell_some x3 (by simp)
          have z4:=fun x=>(hF x).cell_some x4 (by simp)
          have z5:=fun x=>(hF x).cell_some (hc0.cell_some u0 (by simp)) (by simp)
          have z6:=fun x=>(hF x).cell_some (hc0.cell_some u1 (by simp)) (by simp)
          have hvx:=fun x=>hva (F x) (hc0.nil (hF x))
          clear hb0 x0 x1 x2 x3 x4 hva hc0 u0 u1
          refine wp_fam F (by kernel_rfl) (by kernel_rfl) x hF0 ?_
          repeat (go_big_quiet_step (first | exact fam_call hF hX (hvt _) | exact fam_call hF hX (hvx _) | exact fam_call hF hX (hna _) | exact fam_call hF hX (htx _)))
          refine wpQuiet_nil ?_
          rintro w' ⟨x1,rfl⟩
          go_wp2_with fail
          go_ret
          exact⟨by simp only[Q1.out,Q2.out,Q3.out,Q4.out,Q5.out,Q6.out,Q7.out,Q8.out,Bool.not_true,Bool.not_false,Bool.true_and,Bool.false_and,Bool.and_false,Bool.and_true];first | done | rfl,HC0.out.nil (hF x1)⟩
         | true=>
          have Q8:=zH q8
          rw[q8] at htx
          clear q8
          have HC0:=zH hc0
          clear hc0
          go_enter Tryz.func154,Tryz.ntmps154
          go_upto_region 1 with (fail)
          have hc0:=HC0.out
          generalize w.alloc (.cells #[.string (str tr),.slice (some ⟨g,off,none⟩) 2 cap,.int .i64 st,.string (str au),.string (str tx)] 155)=wb at *
          obtain⟨x0,x1,x2,x3,x4⟩:=Blk5 hb0
          obtain⟨X,hne,F,x,hF0,hF,hX⟩:=fam0 wb
          have z0:=fun x=>(hF x).cell_some x0 (by simp)
          have z1:=fun x=>(hF x).cell_some x1 (by simp)
          have z2:=fun x=>(hF x).cell_some x2 (by simp)
          have z3:=fun x=>(hF x).cell_some x3 (by simp)
          have z4:=fun x=>(hF x).cell_some x4 (by simp)
          have z5:=fun x=>(hF x).cell_some (hc0.cell_some u0 (by simp)) (by simp)
          have z6:=fun x=>(hF x).cell_some (hc0.cell_some u1 (by simp)) (by simp)
          have hvx:=fun x=>hva (F x) (hc0.nil (hF x))
          clear hb0 x0 x1 x2 x3 x4 hva hc0 u0 u1
          refine wp_fam F (by kernel_rfl) (by kernel_rfl) x hF0 ?_
          repeat (go_big_quiet_step (first | exact fam_call hF hX (hvt _) | exact fam_call hF hX (hvx _) | exact fam_call hF hX (hna _) | exact fam_call hF hX (htx _)))
          refine wpQuiet_nil ?_
          rintro w' ⟨x1,rfl⟩
          go_wp2_with fail
          go_ret
          exact⟨by simp only[Q1.out,Q2.out,Q3.out,Q4.out,Q5.out,Q6.out,Q7.out,Q8.out,Bool.not_true,Bool.not_false,Bool.true_and,Bool.false_and,Bool.and_false,Bool.and_true];first | done | rfl,HC0.out.nil (hF x1)⟩
    ·have d3:decide ((n:Int)<2)=true:=by have:=of_decide_eq_true q2;simp;omega
     have d3':decide (n<2)=true:=by have:=of_decide_eq_true q2;simp;omega
     have Q4:Hid (twins l=false):=by
      show _=_
      unfold twins
      split
      ·rename_i a b;simp at hn;omega
      ·rfl
     clear hn hv h2
     cases q5:decide (1≤st) with
     | false=>
      have Q5:=zH q5
      have HC0:=zH hc0
      clear hc0
      go_enter Tryz.func154,Tryz.ntmps154
      go_upto_region 1 with (fail)
      have hc0:=HC0.out
      generalize w.alloc (.cells #[.string (str tr),.slice ao n cap,.int .i64 st,.string (str au),.string (str tx)] 155)=wb at *
      obtain⟨x0,x1,x2,x3,x4⟩:=Blk5 hb0
      obtain⟨X,hne,F,x,hF0,hF,hX⟩:=fam0 wb
      have z0:=fun x=>(hF x).cell_some x0 (by simp)
      have z1:=fun x=>(hF x).cell_some x1 (by simp)
      have z2:=fun x=>(hF x).cell_some x2 (by simp)
      have z3:=fun x=>(hF x).cell_some x3 (by simp)
      have z4:=fun x=>(hF x).cell_some x4 (by simp)
      have hvx:=fun x=>hva (F x) (hc0.nil (hF x))
      clear hb0 x0 x1 x2 x3 x4 hva hc0
      refine wp_fam F (by kernel_rfl) (by kernel_rfl) x hF0 ?_
      repeat (go_big_quiet_step (first | exact fam_call hF hX (hvt _) | exact fam_call hF hX (hvx _)))
      refine wpQuiet_nil ?_
      rintro w' ⟨x1,rfl⟩
      go_wp2_with fail
      go_ret
      exact⟨by simp only[Q1.out,Q2.out,Q3.out,Q4.out,Q5.out,Bool.not_true,Bool.not_false,Bool.true_and,Bool.false_and,Bool.and_false,Bool.and_true];first | done | rfl,HC0.out.nil (hF x1)⟩
     | true=>
      have Q5:=zH q5
      cases q6:decide (st≤1099511627776) with
      | false=>
       have Q6:=zH q6
       have HC0:=zH hc0
       clear hc0
       go_enter Tryz.func154,Tryz.ntmps154
       go_upto_region 1 with (fail)
       have hc0:=HC0.out
       generalize w.alloc (.cells #[.string (str tr),.slice ao n cap,.int .i64 st,.string (str au),.string (str tx)] 155)=wb at *
       obtain⟨x0,x1,x2,x3,x4⟩:=Blk5 hb0
       obtain⟨X,hne,F,x,hF0,hF,hX⟩:=fam0 wb
       have z0:=fun x=>(hF x).cell_some x0 (by simp)
       have z1:=fun x=>(hF x).cell_some x1 (by simp)
       have z2:=fun x=>(hF x).cell_some x2 (by simp)
       have z3:=fun x=>(hF x).cell_some x3 (by simp)
       have z4:=fun x=>(hF x).cell_some x4 (by simp)
       have hvx:=fun x=>hva (F x) (hc0.nil (hF x))
       clear hb0 x0 x1 x2 x3 x4 hva hc0
       refine wp_fam F (by kernel_rfl) (by kernel_rfl) x hF0 ?_
       repeat (go_big_quiet_step (first | exact fam_call hF hX (hvt _) | exact fam_call hF hX (hvx _)))
       refine wpQuiet_nil ?_
       rintro w' ⟨x1,rfl⟩
       go_wp2_with fail
       go_ret
       exact⟨by simp only[Q1.out,Q2.out,Q3.out,Q4.out,Q5.out,Q6.out,Bool.not_true,Bool.not_false,Bool.true_and,Bool.false_and,Bool.and_false,Bool.and_true];first | done | rfl,HC0.out.nil (hF x1)⟩
      | true=>
       have Q6:=zH q6
       cases q7:Wd.nameL au with
       | false=>
        have Q7:=zH q7
        rw[q7] at hna
        clear q7
        have HC0:=zH hc0
        clear hc0
        go_enter Tryz.func154,Tryz.ntmps154
        go_upto_region 1 with (fail)
        have hc0:=HC0.out
        generalize w.alloc (.cells #[.string (str tr),.slice ao n cap,.int .i64 st,.string (str au),.string (str tx)] 155)=wb at *
        obtain⟨x0,x1,x2,x3,x4⟩:=Blk5 hb0
        obtain⟨X,hne,F,x,hF0,hF,hX⟩:=fam0 wb
        have z0:=fun x=>(hF x).cell_some x0 (by simp)
        have z1:=fun x=>(hF x).cell_some x1 (by simp)
        have z2:=fun x=>(hF x).cell_some x2 (by simp)
        have z3:=fun x=>(hF x).cell_some x3 (by simp)
        have z4:=fun x=>(hF x).cell_some x4 (by simp)
        have hvx:=fun x=>hva (F x) (hc0.nil (hF x))
        clear hb0 x0 x1 x2 x3 x4 hva hc0
        refine wp_fam F (by kernel_rfl) (by kernel_rfl) x hF0 ?_
        repeat (go_big_quiet_step (first | exact fam_call hF hX (hvt _) | exact fam_call hF hX (hvx _) | exact fam_call hF hX (hna _)))
        refine wpQuiet_nil ?_
        rintro w' ⟨x1,rfl⟩
        go_wp2_with fail
        go_ret
        exact⟨by simp only[Q1.out,Q2.out,Q3.out,Q4.out,Q5.out,Q6.out,Q7.out,Bool.not_true,Bool.not_false,Bool.true_and,Bool.false_and,Bool.and_false,Bool.and_true];first | done | rfl,HC0.out.nil (hF x1)⟩
       | true=>
        have Q7:=zH q7
        rw[q7] at hna
        clear q7
        cases q8:Wd.textL tx with
        | false=>
         have Q8:=zH q8
         rw[q8] at htx
         clear q8
         have HC0:=zH hc0
         clear hc0
         go_enter Tryz.func154,Tryz.ntmps154
         go_upto_region 1 with (fail)
         have hc0:=HC0.out
         generalize w.alloc (.cells #[.string (str tr),.slice ao n cap,.int .i64 st,.string (str au),.string (str tx)] 155)=wb at *
         obtain⟨x0,x1,x2,x3,x4⟩:=Blk5 hb0
         obtain⟨X,hne,F,x,hF0,hF,hX⟩:=fam0 wb
         have z0:=fun x=>(hF x).cell_some x0 (by simp)
         have z1:=fun x=>(hF x).cell_some x1 (by simp)
         have z2:=fun x=>(hF x).cell_some x2 (by simp)
         have z3:=fun x=>(hF x).cell_some x3 (by simp)
         have z4:=fun x=>(hF x).cell_some x4 (by simp)
         have hvx:=fun x=>hva (F x) (hc0.nil (hF x))
         clear hb0 x0 x1 x2 x3 x4 hva hc0
         refine wp_fam F (by kernel_rfl) (by kernel_rfl) x hF0 ?_
         repeat (go_big_quiet_step (first | exact fam_call hF hX (hvt _) | exact fam_call hF hX (hvx _) | exact fam_call hF hX (hna _) | exact fam_call hF hX (htx _)))
         refine wpQuiet_nil ?_
         rintro w' ⟨x1,rfl⟩
         go_wp2_with fail
         go_ret
         exact⟨by simp only[Q1.out,Q2.out,Q3.out,Q4.out,Q5.out,Q6.out,Q7.out,Q8.out,Bool.not_true,Bool.not_false,Bool.true_and,Bool.false_and,Bool.and_false,Bool.and_true];first | done | rfl,HC0.out.nil (hF x1)⟩
        | true=>
         have Q8:=zH q8
         rw[q8] at htx
         clear q8
         have HC0:=zH hc0
         clear hc0
         go_enter Tryz.func154,Tryz.ntmps154
         go_upto_region 1 with (fail)
         have hc0:=HC0.out
         generalize w.alloc (.cells #[.string (str tr),.slice ao n cap,.int .i64 st,.string (str au),.string (str tx)] 155)=wb at *
         obtain⟨x0,x1,x2,x3,x4⟩:=Blk5 hb0
         obtain⟨X,hne,F,x,hF0,hF,hX⟩:=fam0 wb
         have z0:=fun x=>(hF x).cell_some x0 (by simp)
         have z1:=fun x=>(hF x).cell_some x1 (by simp)
         have z2:=fun x=>(hF x).cell_some x2 (by simp)
         have z3:=fun x=>(hF x).cell_some x3 (by simp)
         have z4:=fun x=>(hF x).cell_some x4 (by simp)
         have hvx:=fun x=>hva (F x) (hc0.nil (hF x))
         clear hb0 x0 x1 x2 x3 x4 hva hc0
         refine wp_fam F (by kernel_rfl) (by kernel_rfl) x hF0 ?_
         repeat (go_big_quiet_step (first | exact fam_call hF hX (hvt _) | exact fam_call hF hX (hvx _) | exact fam_call hF hX (hna _) | exact fam_call hF hX (htx _)))
         refine wpQuiet_nil ?_
         rintro w' ⟨x1,rfl⟩
         go_wp2_with fail
         go_ret
         exact⟨by simp only[Q1.out,Q2.out,Q3.out,Q4.out,Q5.out,Q6.out,Q7.out,Q8.out,Bool.not_true,Bool.not_false,Bool.true_and,Bool.false_and,Bool.and_false,Bool.and_true];first | done | rfl,HC0.out.nil (hF x1)⟩
theorem rreadBig_ok (w:World) (v:Value) (n at_ wd:Nat) (b:List UInt8) (hv:Sees w 1 v n (Bs b)) (h1:1≤wd) (h6:wd≤6) (ha:at_+wd≤n) (hn:n≤1000000000):
  Calls Tryz.prog 183 #[v,.int .i64 at_,.int .i64 wd] w fun e w'=>e=.returned (.tuple #[.int .i64 (beVal ((b.drop at_).take wd):Nat),.int .i64 0])∧w=w':=by
 obtain⟨R,hR⟩:∃R,beVal ((b.drop at_).take wd)=R:=⟨_,rfl⟩
 rw[hR]
 have HR:=zH hR;clear hR
 obtain⟨l,hl⟩:∃l,(b.drop at_).take wd=l:=⟨_,rfl⟩
 have hbl:b.length=n:=by have:=hv.len;rw[Bs_length] at this;omega
 have hll:l.length=wd:=by rw[←hl];simp;omega
 obtain⟨g,off,cap,rfl,hc,hcell⟩:=hv.at1 (by omega)
 have hce:∀i,i<wd→w.cell? ⟨g,off+(at_+i),none⟩=some (.int .u8 ((l.getD i 0).toNat:Int)):=fun i hi=>by
  rw[hcell (at_+i) (by omega),Bs_get b (at_+i) (by omega)]
  subst hl
  simp[List.getD,List.getElem?_take,hi,List.getElem?_drop,show at_+i<b.length by omega]
 have HC:=zH hce
 have HL:=zA hll hl
 obtain⟨q,hq⟩:∃q,q+at_=n:=⟨n - at_,by omega⟩
 have HB:Hid (at_+wd≤n∧n≤1000000000∧1≤wd∧wd≤6):=⟨ha,hn,h1,h6⟩
 have d1:decide ((wd:Int)<1)=false:=by simp;omega
 have d2:decide (6<(wd:Int))=false:=by simp;omega
 have d2':decide (6<wd)=false:=by simp;omega
 have d3:decide ((at_:Int)<0)=false:=by simp
 have d4:decide ((n:Int)<(at_:Int))=false:=by simp;omega
 have d4':decide (n<at_)=false:=by simp;omega
 have d5:decide ((q:Int)<(wd:Int))=false:=by simp;omega
 have d5':decide (q<wd)=false:=by simp;omega
 have hw:wrap64 ((n:Int) - (at_:Int))=(q:Int):=by rw[show (n:Int) - (at_:Int)=(q:Int) by omega];exact w64 _ (by omega)
 clear hv hce hcell hc hbl hll hl h1 h6 ha hn hq
 go_enter Tryz.func183,Tryz.ntmps183
 go_wp2_with fail
 clear d1 d2 d2' d3 d4 d4' d5 d5' hw
 go_loopg [8,9] wd (fun k vn vi wr=>∃(i m:Nat),vn=.int .i64 m∧vi=.int .i64 i∧i+k=wd∧m=beVal (l.take i)∧wr=w)
 case atStart=>exact⟨0,0,rfl,rfl,by omega,rfl,rfl⟩
 case round=>
  obtain⟨i,m,rfl,rfl,hik,hm,rfl⟩:=hrel
  have hmb:m<1099511627776∨i=wd:=by
   by_cases hi:i<wd
   ·left
    have h:=beVal_lt (l.take i)
    rw[List.length_take,Nat.min_eq_left (by have:=HL.out.1;omega),←hm] at h
    have h2:(256:Nat)^i≤256^5:=Nat.pow_le_pow_right (by decide) (by have:=HB.out;omega)
    have h3:(256:Nat)^5=1099511627776:=by decide
    omega
   ·right;omega
  have HM:=zH hm;clear hm
  have HIK:=zH hik;clear hik
  by_cases hlt:i<wd
  ·have hmb':m<1099511627776:=by omega
   clear hmb
   have hll:i<l.length:=by have:=HL.out.1;omega
   have x0:=HC.out i hlt
   have hg:l.getD i 0=l[i]'hll:=by simp[List.getD,hll]
   rw[hg] at x0
   have hb:=(l[i]'hll).toNat_lt
   have HT:=zH (show beVal (l.take (i+1))=beVal (l.take i) * 256+(l[i]'hll).toNat by rw[List.take_succ_eq_append_getElem hll,beVal_snoc])
   have hor:=or_byte m (l[i]'hll).toNat hmb' hb
   generalize (l[i]'hll).toNat=x at *
   have t1:decide ((i:Int)<(wd:Int))=true:=decide_eq_true (by omega)
   have t1':decide (i<wd)=true:=decide_eq_true hlt
   obtain⟨p,hp⟩:∃p,at_+i=p:=⟨_,rfl⟩
   have q1:p<n:=by have:=HB.out;omega
   have q2:(p:Int)<(n:Int):=by omega
   have hpw:wrap64 ((at_:Int)+(i:Int))=(p:Int):=by rw[show (at_:Int)+(i:Int)=(p:Int) by omega];exact w64 _ (by have:=HB.out;omega)
   rw[hp] at x0
   have hwi:Hid (wrap64 ((i:Int)+1)=((i+1:Nat):Int)):=by show _=_;rw[show (i:Int)+1=((i+1:Nat):Int) by omega];exact w64 _ (by have:=HB.out;omega)
   clear hg hll hlt hp
   go_wp2
   go_roundg (gk - 1)
   case measure=>have:=HIK.out;have:=of_decide_eq_true t1';omega
   case rel=>
    have hi1:=of_decide_eq_true t1'
    exact⟨i+1,m * 256+x,by go_num,by rw[hwi.out],by have:=HIK.out;omega,by rw[HT.out,←HM.out],rfl⟩
  ·have hi:i=wd:=by have:=HIK.out;omega
   subst hi
   have t1:decide ((i:Int)<(i:Int))=false:=decide_eq_false (by omega)
   have t1':decide (i<i)=false:=decide_eq_false (by omega)
   clear hmb hlt
   go_wp2
   go_ret2
   have hm:m=R:=by
    have h:=HM.out
    rw[List.take_of_length_le (by have:=HL.out.1;omega)] at h
    rw[h,←HR.out,HL.out.2]
   rw[hm]
   exact⟨rfl,rfl⟩
theorem rnum_ok (w:World) (v:Value) (n at_ wd:Nat) (b:List UInt8) (hv:Sees w 1 v n (Bs b)) (h1:1≤wd) (h6:wd≤6) (ha:at_+wd≤n) (hn:n≤1000000000):
  Calls Tryz.prog 153 #[v,.int .i64 at_,.int .i64 wd] w fun e w'=>e=.returned (.int .i64 (beVal ((b.drop at_).take wd):Nat))∧w'=w:=by
 have hr:=rreadBig_ok w v n at_ wd b hv h1 h6 ha hn
 obtain⟨ao,cap,rfl,-⟩:=hv.shape
 clear hv h1 h6 ha hn
 generalize beVal ((b.drop at_).take wd)=R at *
 go_enter Tryz.func153,Tryz.ntmps153
 go_wp2_with fail
 refine hr.mono ?_
 rintro e w1 ⟨rfl,rfl⟩
 clear hr
 go_wp2_with fail
 go_ret
 exact⟨rfl,rfl⟩
end Go.Proofs.YtlidiclfpklliaaGreatDoor
