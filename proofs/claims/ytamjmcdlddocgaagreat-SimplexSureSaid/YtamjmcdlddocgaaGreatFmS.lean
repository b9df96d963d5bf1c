/- The reference's SomePoint: the walk. -/
import Derived.Test.YtamjmcdlddocgaaGreatFmG
import Derived.Test.YtamjmcdlddocgaaGreatFmE
namespace Go.Proofs.YtamjmcdlddocgaaGreat
set_option maxRecDepth 100000
set_option maxHeartbeats 32000000
set_option linter.unusedSimpArgs false
set_option linter.unusedVariables false
open Go.ChangeShapes Go.WideShapes Go.RowKit
theorem OwnWR.lower {w:World}{base base' n:Nat}{v:Value}{rs:List WR}(h:OwnWR w base n v rs)(hb:base'≤base):OwnWR w base' n v rs:=by
 obtain⟨xs,h1,h2,h3,h4⟩:=h;exact⟨xs,h1,World.ownsRow_mono h2 hb,h3,h4⟩
theorem OwnWR.form {w:World}{base n:Nat}{v:Value}{rs:List WR}(h:OwnWR w base n v rs):∃o l c,v= .slice o l c:=by
 obtain⟨o,c,h,_⟩:=h.len;exact⟨_,_,_,h⟩
theorem OwnWR.push2 {w:World}{base n:Nat}{v:Value}{rs:List WR}(h:OwnWR w base n v rs){s:Value}{bt:Nat}{r:WR}{le:Bool}(hle:r.less=le)(hr:IsWR w n (.agg #[s,.pointer (some ⟨bt,0,none⟩),.bool le]) r){b:Nat}(hb:Blk w b #[s,.pointer (some ⟨bt,0,none⟩),.bool le])(hl:(rs.length+1)*40≤140737488355328)(hbase:base≤w.heap.size):
  ∃o l c w',(Builtin.append_ #[78,78] 78 #[v,.slice (some ⟨b,0,none⟩) 1 1]).run Tryz.prog w= .ok (.slice o l c) w'∧OwnWR w' base n (.slice o l c) (rs++ [r])∧w.grownBy w' v.ownBlock:=by
 subst hle;obtain⟨sv,b',e,h1,h2,h3⟩:=hr
 cases e
 obtain⟨v',w',hr',ho,hg⟩:=h.push (x:=⟨s,bt,r⟩) ⟨h1,h2,h3⟩ hb hl hbase;obtain⟨o,l,c,rfl⟩:=ho.form;exact⟨o,l,c,w',hr',ho,hg⟩
theorem sgz {q:Rat}{z:Int}(h:(q=0∧z=0)∨(0<q∧z=1)∨(q<0∧z= -1)):(0<q↔0<z)∧(q<0↔z<0)∧(q=0↔z=0):=by
 rcases h with⟨h,rfl⟩ | ⟨h,rfl⟩ | ⟨h,rfl⟩<;>grind
theorem all_take {l:List WR}{i:Nat}(h:i<l.length):(l.take (i+1)).all okW=((l.take i).all okW&&okW l[i]):=by
 rw [List.take_succ_eq_append_getElem h,List.all_append];simp
theorem all_false {l:List WR}{i:Nat}(h:i<l.length)(e:okW l[i]=false):l.all okW=false:=by
 rw [Bool.eq_false_iff];intro h1;have:=List.all_eq_true.1 h1 _ (List.getElem_mem h);rw [e]at this
 cases this
theorem okW_of {r:WR}(z:Int)(hz:r.tt.num.sign=z):okW r= !(decide (z<0) || decide (z=0)&&r.less):=by
 unfold okW;subst hz;have h1:r.tt<0↔r.tt.num.sign<0:=by rw [Int.sign_neg_iff,←Rat.not_le,←Rat.num_nonneg];omega
 have h2:r.tt=0↔r.tt.num.sign=0:=by rw [Int.sign_eq_zero_iff_zero];exact Rat.num_eq_zero.symm
 rw [decide_eq_decide.2 h1,decide_eq_decide.2 h2]
theorem somePoint_any (w:World)(v:Value)(rows:List Rw)(n:Nat)(h:IsRows w v rows)(hok:∀r∈rows,RowOK r (n:Int))(h8:rows.length≤8)(hn3:n≤3):
  Calls Tryz.prog 16 #[v,.int .i64 (n:Int)] w fun e w'=>e= .returned (.bool ((fmAll n n (rowsW n rows)).all okW))∧Keep NoS w w':=by
 have CW:=zh (wideRows_any w v rows n h hok (by omega))
 have hlen:(rowsW n rows).length≤16:=by have:=rowsW_len (n:=n) rows;omega
 have HWAY:=zh (fm_way (n:=n) hlen (rowsW_nb hok));clear h hok h8 hlen;generalize rowsW n rows=L0 at *;go_enter Tryz.func16,Tryz.ntmps16;go_wp2_with fail;refine CW.out.mono ?_;rintro e w0 ⟨v0,rfl,hk0,ho0⟩;have HK0:=zh hk0;have HO0:=zh ho0;obtain⟨ov,nv,cv,rfl⟩:=ho0.form;clear hk0 ho0 CW;go_wp2;go_loopw [5,6] (fun s5 s6 wr=>∃k:Nat,k≤n∧s6= .int .i64 k∧Keep NoS w wr∧OwnWR wr w.heap.size n s5 (fmAll n k L0)) (fun _ s _=>(n-intOf s).toNat)
 case atStart=>exact⟨0,by omega,rfl,HK0.out,HO0.out⟩
 case round=>
  obtain⟨k,hk,rfl,hkr,hou⟩:=hrel;obtain⟨wk,rfl⟩:∃W:World,W=wr:=⟨_,rfl⟩;have HKR:=zh hkr;have HOU:=zh hou;obtain⟨ol,cl,rfl,_,hml⟩:=hou.len;unfold maxLen at hml;obtain⟨⟨hb32,hb16⟩,hnb⟩:=HWAY.out k (by omega)
  have HNB:=zh hnb;clear hkr hou HK0 HO0 hnb
  by_cases hkn:k<n
  case neg=>
   have hlt:¬(k:Int)<(n:Int):=by omega
   obtain rfl:k=n:=by omega
   generalize hL:fmAll k k L0=L at HOU HNB hml hb32 hb16 ⊢;have HL:=zh hL;clear hL;go_wp2;go_loopw [10] (fun s wx=>∃i:Nat,i≤L.length∧s= .int .i64 i∧wx=wk∧(L.take i).all okW=true) (fun s _=>(L.length-intOf s).toNat)
   case atStart=>exact⟨0,by omega,rfl,rfl,rfl⟩
   case round=>
    obtain⟨i,hi,rfl,rfl,hall⟩:=hrel
    by_cases hil:i<L.length
    case neg=>
     have hli:¬(i:Int)<(L.length:Int):=by omega
     obtain rfl:i=L.length:=by omega
     rw [List.take_length]at hall;have HALL:=zh hall;clear hall;go_wp2;go_ret;exact⟨by rw [HL.out,HALL.out];rfl,HKR.out⟩
    case pos=>
     have hli:(i:Int)<(L.length:Int):=by omega
     obtain⟨g,sv,bt,rfl,hg,c0,c1,c2,_,_,htt⟩:=HOU.out.at hil;have HT:=zh htt;have HALL:=zh hall;have HTK:=zh (all_take hil);have HFL:=zh (fun e=>all_false hil e)
     have HOK:=zh (fun(z:Int) (hz:L[i].tt.num.sign=z)=>okW_of z hz)
     generalize L[i]=r at *;clear c0 hall htt;go_upto_region 20 with fail
     go_wp2_with fail;refine(ratSign_any _ _ _ _ HT.out).mono ?_;rintro e w1 ⟨rfl,rfl⟩;have HOS:=zh (HOK.out _ rfl);generalize r.tt.num.sign=z at *;generalize r.less=ls at*
     by_cases hz1:z<0
     case pos=>
      have HF:Hid (L.all okW=false):=zh (HFL.out (by rw [HOS.out,decide_eq_true hz1];rfl))
      clear HOS HTK HFL HOK;go_wp2;go_ret;exact⟨by rw [HL.out,HF.out];rfl,HKR.out⟩
     case neg=>
      by_cases hz2:z=0
      case pos=>
       subst hz2
       cases ls
       case true=>
        have HF:Hid (L.all okW=false):=zh (HFL.out (by rw [HOS.out];rfl))
        clear HOS HTK HFL HOK;go_wp2;go_ret;exact⟨by rw [HL.out,HF.out];rfl,HKR.out⟩
       case false=>
        have HN:Hid ((L.take (i+1)).all okW=true):=zh (by rw [HTK.out,HALL.out,HOS.out];rfl)
        clear HOS HTK HFL HOK;go_wp2;go_roundw
        case rel=>exact⟨i+1,by omega,by go_num,by first | rfl | trivial,HN.out⟩
        case measure=>simp [intOf];omega
      case neg=>
       have hz3:(z==0)=false:=by rw [beq_eq_false_iff_ne];exact hz2
       have HN:Hid ((L.take (i+1)).all okW=true):=zh (by rw [HTK.out,HALL.out,HOS.out,decide_eq_false hz1,decide_eq_false hz2];rfl)
       clear HOS HTK HFL HOK;go_wp2;go_roundw
       case rel=>exact⟨i+1,by omega,by go_num,by first | rfl | trivial,HN.out⟩
       case measure=>simp [intOf];omega
  case pos=>
   have hlt:(k:Int)<(n:Int):=by omega
   have hb16:=hb16 (by omega)
   have HALLK:Hid (fmAll n (k+1) L0=fmK n k (fmAll n k L0)):=zh rfl;generalize fmAll n k L0=L at *;have HIA:=zh (fmI_all (n:=n) (k:=k) (l:=L));have HIL:=zh (fmI_len (n:=n) (k:=k) (l:=L));go_wp2;go_loopw [7,8] (fun s7 s8 wx=>∃i:Nat,i≤L.length∧s8= .int .i64 i∧Keep NoS wk wx∧OwnWR wx wk.heap.size n s7 (fmI n k L i)) (fun _ s _=>(L.length-intOf s).toNat)
   case atStart=>exact⟨0,by omega,rfl,Keep.refl _ _,OwnWR.nil _ _ _⟩
   case round=>
    obtain⟨i,hi,rfl,hkx,hox⟩:=hrel;obtain⟨wx,rfl⟩:∃W:World,W=wr:=⟨_,rfl⟩;have HKX:=zh hkx;have HOX:=zh hox;obtain⟨ox,lx,cx,rfl⟩:=hox.form;clear hkx hox
    by_cases hil:i<L.length
    case neg=>
     have hli:¬(i:Int)<(L.length:Int):=by omega
     obtain rfl:i=L.length:=by omega
     go_wp2;go_roundw
     case rel=>exact⟨k+1,by omega,by go_num,HKR.out.both HKX.out,by rw [HALLK.out,←HIA.out];exact HOX.out.lower HKR.out.size⟩
     case measure=>simp [intOf];omega
    case pos=>
     have hli:(i:Int)<(L.length:Int):=by omega
     have HSU:=zh (fmI_succ (n:=n) (k:=k) hil);have HOJ:=zh (fmO_J (n:=n) (k:=k) (a:=L[i]) (show 0<L.length by omega))
     have HNA:=zh (HNB.out _ (List.getElem_mem hil));have HIL2:=zh (HIL.out i hi);obtain⟨g,g2,o2,cs,bt,rfl,hg,hg2,hns,hcs,c0,c1,c2,hwa,_,hall⟩:=HOU.out.get (by omega) hil
     obtain⟨bk,ck,hrk⟩:=hall k hkn;have HWA:=zh hwa;have HRK:=zh hrk;have HSG:=zh (signZ (L[i].c k));have HIM:Hid ((L.length)*L.length≤4294967296):=zh (Nat.le_trans (Nat.mul_le_mul hb16 hb16) (by decide))
     have HLB:Hid (∀q,q≤L.length→i*L.length+q≤L.length*L.length):=zh fun q hq=>by
      have:(i+1)*L.length≤L.length*L.length:=Nat.mul_le_mul_right _ (by omega)
      rw [Nat.add_mul]at this;omega
     clear hwa hrk hall;generalize L[i]=a at *;unfold maxLen at hcs;have HLES:∃le,a.less=le:=⟨_,rfl⟩;obtain⟨le,hle⟩:=HLES;rw [hle]at c2 HWA;have HLE:=zh hle;clear hle;obtain⟨z,hz⟩:∃z,(a.c k).num.sign=z:=⟨_,rfl⟩;rw [hz]at HSG;have HZ:=zh hz;clear hz;have x0:=(HKX.out.cell hg).trans c0;have x1:=(HKX.out.cell hg).trans c1;have x2:=(HKX.out.cell hg).trans c2;have xk:=(HKX.out.cell hg2).trans ck;have hgx:=Nat.lt_of_lt_of_le hg HKX.out.size;have hg2x:=Nat.lt_of_lt_of_le hg2 HKX.out.size;go_upto_region 9 with fail
     go_wp2_with fail;refine(ratSign_any _ _ _ _ (HRK.out.ofNewer HKX.out)).mono ?_;rintro e w1 ⟨rfl,hw1⟩;obtain rfl:wx=w1:=hw1.symm;clear hw1;rw [HZ.out];go_upto_if 35 with fail
     go_cut [7]from 20 to 84 (fun s wy=>Keep NoS wk wy∧OwnWR wy wk.heap.size n s (fmI n k L i++fmO k a))
     case first=>
      by_cases hz0:z=0
      case pos=>
       subst hz0;have h0:a.c k=0:=(sgz HSG.out).2.2.2 rfl;have HF:Hid (fmO k a= [a]):=zh (if_pos h0);have hsz:((fmI n k L i).length+1)*40≤140737488355328:=by
        have:=HIL2.out;have:=HIM.out;have:=HLB.out 0 (by omega)
        omega
       have KX:=zh ((Keep.refl NoS wx).alloc (.cells #[.slice (some ⟨g2,o2,none⟩) n cs,.pointer (some ⟨bt,0,none⟩),.bool le] TWR));have hox:=HOX.out.keep KX.out;have hwa:=(HWA.out.keep HKX.out).keep KX.out;obtain⟨o5,l5,c5,w5,hr5,ho5,hg5⟩:=hox.push2 HLE.out hwa (b:=wx.heap.size) (blk_at _ _ rfl) hsz (Nat.le_trans HKX.out.size KX.out.size);have HO5:Hid (OwnWR w5 wk.heap.size n (.slice o5 l5 c5) (fmI n k L i++fmO k a)):=zh (by rw [HF.out];exact ho5)
       have K5:=zh ((HKX.out.both KX.out).grown hg5 hox.block);clear hsz hox hwa ho5 hg5 h0;go_wp2_with (at_builtin;refine wpList_app_run _ _ 78 _ _ rfl rfl rfl rfl hr5 ?_);go_meet;exact⟨K5.out,HO5.out⟩
      case neg=>
       have hzb:(z==0)=false:=by rw [beq_eq_false_iff_ne];exact hz0
       have h0:¬a.c k=0:=fun e=>hz0 ((sgz HSG.out).2.2.1 e)
       have HF:Hid (fmI n k L i++fmO k a=fmI n k L i):=zh (by unfold fmO;rw [if_neg h0,List.append_nil])
       clear h0;go_wp2_with fail;go_meet;exact⟨HKX.out,by rw [HF.out];exact HOX.out⟩
     case rest=>
      obtain⟨hk1,ho1⟩:=hcut;obtain⟨w1,rfl⟩:∃W:World,W=wc:=⟨_,rfl⟩;have HK1:=zh hk1;have HO1:=zh ho1;obtain⟨o1,l1,d1,rfl⟩:=ho1.form;clear hk1 ho1 x0 x1 x2 xk hgx hg2x HOX HKX;go_wp2;go_loopw [7,9] (fun s7 s9 wy=>∃j:Nat,j≤L.length∧s9= .int .i64 j∧Keep NoS wk wy∧OwnWR wy wk.heap.size n s7 (fmI n k L i++fmO k a++fmJ n k L a j)) (fun _ s _=>(L.length-intOf s).toNat)
      case atStart=>exact⟨0,by omega,rfl,HK1.out,by rw [fmJ_zero,List.append_nil];exact HO1.out⟩
      case round=>
       obtain⟨j,hj,rfl,hky,hoy⟩:=hrel;obtain⟨wy,rfl⟩:∃W:World,W=wr:=⟨_,rfl⟩;have HKY:=zh hky;have HOY:=zh hoy;obtain⟨oy,ly,cy,rfl⟩:=hoy.form;clear hky hoy
       by_cases hjl:j<L.length
       case neg=>
        have hlj:¬(j:Int)<(L.length:Int):=by omega
        obtain rfl:j=L.length:=by omega
        go_wp2;go_roundw
        case rel=>exact⟨i+1,by omega,by go_num,HKY.out,by rw [HSU.out];exact HOY.out⟩
        case measure=>simp [intOf];omega
       case pos=>
        have hlj:(j:Int)<(L.length:Int):=by omega
        have x0:=(HKY.out.cell hg).trans c0;have x1:=(HKY.out.cell hg).trans c1;have x2:=(HKY.out.cell hg).trans c2;have xk:=(HKY.out.cell hg2).trans ck;have hgx:=Nat.lt_of_lt_of_le hg HKY.out.size;have hg2x:=Nat.lt_of_lt_of_le hg2 HKY.out.size;go_wp2_with fail;refine(ratSign_any _ _ _ _ (HRK.out.ofNewer HKY.out)).mono ?_;rintro e w2 ⟨rfl,hw2⟩;obtain rfl:wy=w2:=hw2.symm;clear hw2;rw [HZ.out]
        by_cases hzp:0<z
        case neg=>
         have h0:¬0<a.c k:=fun e=>hzp ((sgz HSG.out).1.1 e)
         have HF:=zh (fmJ_not (n:=n) (l:=L) h0);clear h0;go_wp2;go_roundw
         case rel=>exact⟨i+1,by omega,by go_num,HKY.out,by rw [HSU.out,HF.out,←HF.out j];exact HOY.out⟩
         case measure=>simp [intOf];omega
        case pos=>
         have h0:0<a.c k:=(sgz HSG.out).1.2 hzp;have HSJ:=zh (fmJ_succ (n:=n) h0 hjl);have HJL:=zh (fmJ_len (n:=n) (k:=k) (l:=L) (a:=a) j);have HNB2:=zh (HNB.out _ (List.getElem_mem hjl));obtain⟨g',g3,o3,ds,bu,eg,_,hg3,hds,hdm,d0,d1',d2,hwb,_,halb⟩:=HOU.out.get (by omega) hjl
         cases eg
         obtain⟨bl,cl2,hrl⟩:=halb k hkn;have HWB:=zh hwb;have HRL:=zh hrl;have HSH:=zh (signZ (L[j].c k));clear hwb hrl halb h0;generalize L[j]=b at *;unfold maxLen at hdm;obtain⟨lf,hlf⟩:∃le,b.less=le:=⟨_,rfl⟩;rw [hlf]at d2 HWB;clear hlf;obtain⟨z2,hz2⟩:∃z,(b.c k).num.sign=z:=⟨_,rfl⟩;rw [hz2]at HSH;have HZ2:=zh hz2;clear hz2;have y0:=(HKY.out.cell hg).trans d0;have y1:=(HKY.out.cell hg).trans d1';have y2:=(HKY.out.cell hg).trans d2;have yk:=(HKY.out.cell hg3).trans cl2;have hg3x:=Nat.lt_of_lt_of_le hg3 HKY.out.size;go_wp2_with fail;refine(ratSign_any _ _ _ _ (HRL.out.ofNewer HKY.out)).mono ?_;rintro e w3 ⟨rfl,hw3⟩;obtain rfl:wy=w3:=hw3.symm;clear hw3;rw [HZ2.out]
         by_cases hzn:z2<0
         case neg=>
          have h0:¬b.c k<0:=fun e=>hzn ((sgz HSH.out).2.1.1 e)
          have HF:Hid (fmJ n k L a (j+1)=fmJ n k L a j):=zh (by rw [HSJ.out,if_neg h0,List.append_nil])
          clear h0;go_wp2;go_roundw
          case rel=>exact⟨j+1,by omega,by go_num,HKY.out,by rw [HF.out];exact HOY.out⟩
          case measure=>simp [intOf];omega
         case pos=>
          have h0:b.c k<0:=(sgz HSH.out).2.1.2 hzn;have HF:Hid (fmJ n k L a (j+1)=fmJ n k L a j++ [joinW n k a b]):=zh (by rw [HSJ.out,if_pos h0])
          have hsz:((fmI n k L i++fmO k a++fmJ n k L a j).length+1)*40≤140737488355328:=by
           have e1:=HIL2.out;have e2:=HJL.out;have e3:=HIM.out;have e4:=HLB.out L.length (by omega)
           have e5:(fmO k a).length≤1:=fmO_len;rw [List.length_append,List.length_append];omega
          have HSZ:=zh hsz;have CJ:=fun w' (k':Keep NoS wk w')=>zh (wideJoin_any w' n k _ _ a b (HWA.out.keep k') (HWB.out.keep k') hkn (by omega) (fun j=>(HNA.out.1 j).mono (by omega)) (fun j=>(HNB2.out.1 j).mono (by omega)) (HNA.out.2.mono (by omega)) (HNB2.out.2.mono (by omega)))
          clear h0 hsz;go_upto_region 15 with fail
          refine wp_region_by (fun w'=>Keep NoS wy w') [13,14] [([0,1,2,3,4,5,6,7,8,9,10],11),([],12),([],13)] [14] (by kernel_rfl) (by kernel_rfl) kp ?_
          intro X W hne hF hcl;have HCL:=zh hcl;have p0:=fun x=>((hF x).cell hgx).trans x0
          have p1:=fun x=>((hF x).cell hgx).trans x1
          have p2:=fun x=>((hF x).cell hgx).trans x2
          have q0:=fun x=>((hF x).cell hgx).trans y0
          have q1:=fun x=>((hF x).cell hgx).trans y1
          have q2:=fun x=>((hF x).cell hgx).trans y2
          have pl:=fun x=>Nat.lt_of_lt_of_le hgx (hF x).size
          clear hF hcl;simp only [wpPlan,pickOps,zl0,zl1,zl2,clsOf,Bool.false_eq_true,if_false]
          (repeat(quiet_step (fail)));refine wpQuiet_nil ?_
          refine wpAt rfl rfl fun K hK=> ?_
          go_simp;refine(CJ _ (HKY.out.both kp)).out.mono ?_;rintro e w4 ⟨vj,rfl,hk4,hj4⟩;have k4:Keep NoS wy w4:=Keep.trans kp hk4 fun _ _ _ h=>h
          refine hK _ _ ⟨fun _=>HCL.out _ k4,?_⟩
          have K4:=zh k4;have HJ4:=zh hj4;obtain⟨sj,bj,rfl,_⟩:=hj4;clear hK k4 hk4 p0 p1 p2 q0 q1 q2 pl
          (repeat(quiet_step (fail)));refine wpQuiet_nil ?_
          refine wpAt rfl rfl fun K hK=> ?_
          go_simp;have k5:Keep NoS wy (w4.alloc (.cells #[sj,.pointer (some ⟨bj,0,none⟩),.bool (joinW n k a b).less] TWR)):=K4.out.alloc _;refine hK _ _ ⟨fun _=>HCL.out _ k5,?_⟩
          have hoy:=HOY.out.keep k5;obtain⟨o5,l5,c5,w5,hr5,ho5,hg5⟩:=hoy.push2 rfl (HJ4.out.keep ((Keep.refl _ _).alloc _)) (b:=w4.heap.size) (blk_at _ _ rfl) HSZ.out (Nat.le_trans HKY.out.size k5.size);have K5:=zh ((HKY.out.both k5).grown hg5 hoy.block);have HO5:Hid (OwnWR w5 wk.heap.size n (.slice o5 l5 c5) (fmI n k L i++fmO k a++fmJ n k L a (j+1))):=zh (by rw [HF.out,←List.append_assoc];exact ho5)
          clear hK k5 hoy ho5 hg5 HJ4 K4 HOY HCL HSZ HF
          (repeat(quiet_step (fail)));refine wpQuiet_nil ?_
          refine wpAt rfl rfl fun K hK=> ?_
          refine wp_app_run _ _ 78 _ _ rfl rfl rfl hr5 ?_;refine hK _ _ ⟨fun h=>(by simp at h),?_⟩
          clear hK hr5
          (repeat(quiet_step (fail)));refine wpQuiet_nil ?_
          refine NoPanic.normal ?_;clear hne W X x0 x1 x2 xk y0 y1 y2 yk hgx hg2x hg3x c0 c1 c2 ck d0 d1' d2 cl2 hg hg2 hg3 CJ HWA HWB HRK HRL HSG HSH;go_wp2;go_roundw
          case rel=>exact⟨j+1,by omega,by go_num,K5.out,HO5.out⟩
          case measure=>simp [intOf];omega
end Go.Proofs.YtamjmcdlddocgaaGreat
