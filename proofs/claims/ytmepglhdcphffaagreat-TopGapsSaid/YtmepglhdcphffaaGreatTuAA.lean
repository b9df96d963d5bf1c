/- Package unit: how clauses, a set of literals and a trail lie. Package unit: Has, state, New. Package unit: Add. Package unit: Run. Package unit: Run. Package unit: Negated, Assume, Falls. -/
import Derived.Test.YtmepglhdcphffaaGreatOwGG
import Derived.Test.YtmepglhdcphffaaGreatRegVV
import Derived.Test.YtmepglhdcphffaaGreatTuPP
import Derived.Test.YtmepglhdcphffaaGreatRowAA
import Derived.Test.YtmepglhdcphffaaGreatTbOO
import Derived.Test.YtmepglhdcphffaaGreatCuAA
import Derived.Test.YtmepglhdcphffaaGreatCuGG
import Derived.Maps.OwnSet
import Derived.IntWalk
import Derived.Deep.Cut
import Derived.Deep.DeepCutAuto
import Derived.Deep.LoopGhost
import Derived.BigQuiet
namespace Go.Proofs.YtmepglhdcphffaaGreat
set_option maxRecDepth 100000
set_option maxHeartbeats 16000000
set_option linter.unusedSimpArgs false
set_option linter.unusedVariables false
open Go.ChangeShapes Go.WideShapes Go.RowKit Go.Maps
def GU (v:Value):Prop:=∃o n c,v= .slice o n c∧n≤c∧c≤maxLen
def fM (w:World)(v:Value)(l:List (List Int)):Prop:=
 ∃oa cap,v= .slice oa l.length cap∧l.length≤cap∧cap≤maxLen∧(l≠ []→∃b o,oa=some ⟨b,o,none⟩∧b<w.heap.size∧∀i c,l[i]? =some c→∃sv,w.cell? ⟨b,o+i,none⟩=some sv∧aR w sv c∧GU sv)
theorem fM.len {w:World}{v:Value}{l:List (List Int)}(h:fM w v l):∃oa cap,v= .slice oa l.length cap∧l.length≤cap∧cap≤maxLen:=by
 obtain⟨oa,cap,h1,h2,h3,_⟩:=h;exact⟨oa,cap,h1,h2,h3⟩
theorem fM.at {w:World}{oa:Option Addr}{n cap:Nat}{l:List (List Int)}(h:fM w (.slice oa n cap) l){k:Nat}(hk:k<l.length):
  ∃b o oc cc,oa=some ⟨b,o,none⟩∧b<w.heap.size∧w.cell? ⟨b,o+k,none⟩=some (.slice oc l[k].length cc)∧aR w (.slice oc l[k].length cc) l[k]∧l[k].length≤cc∧cc≤maxLen:=by
 obtain⟨MP,cap',hv,_,_,h4⟩:=h;cases hv;obtain⟨b,o,e,hb,hc⟩:=h4 (by rintro rfl;simp at hk);obtain⟨sv,h1,h2,o',n',c',e',h3,h4⟩:=hc k l[k] (by simp [hk]);obtain⟨oc,cc,rfl,hm⟩:=h2.len;cases e';exact⟨b,o,_,_,e,hb,h1,h2,h3,h4⟩
theorem fM.keep {w w':World}{v:Value}{l:List (List Int)}(h:fM w v l)(k:Keep au w w'):fM w' v l:=by
 obtain⟨oa,cap,h1,h2,h3,h4⟩:=h;refine⟨oa,cap,h1,h2,h3,fun hne=> ?_⟩;obtain⟨b,o,e,hb,hc⟩:=h4 hne;refine⟨b,o,e,bJ hb k.size,fun i c hi=> ?_⟩;obtain⟨sv,p1,p2,p3⟩:=hc i c hi;exact⟨sv,(k.cell hb).trans p1,p2.keep k,p3⟩
abbrev TMb:TypeId:=77
abbrev TTr:TypeId:=202
def uO (w:World)(g:Nat)(T:List Int):Prop:=∃D:DataW Unit,w.ownsMap Tryz.prog 3 (plainElem Tryz.prog 4) g T.length D∧∀x:Int,D.atKey (.int .i64 x) (.lit (.bool false))= .lit (.bool (decide (x∈T)))
theorem uO.lt {w:World}{g:Nat}{T:List Int}(h:uO w g T):g<w.heap.size:=by obtain⟨D,h,_⟩:=h;exact h.lt
theorem uO.same {w w':World}{g:Nat}{T:List Int}(h:uO w g T)(e:w'.heap[g]? =w.heap[g]?):uO w' g T:=by
 obtain⟨D,⟨es,clock,hb,F,hs,hD⟩,h'⟩:=h;exact⟨D,⟨es,clock,e.trans hb,F,hs,hD⟩,h'⟩
theorem uO.map {w:World}{g:Nat}{T:List Int}(h:uO w g T):∃es clock,w.heap[g]? =some (.map es clock):=by
 obtain⟨D,⟨es,clock,hb,F,hs,hD⟩,h'⟩:=h;exact⟨_,_,hb⟩
theorem uO.made (w:World):uO (w.alloc (.map #[] 0)) w.heap.size []:=⟨.map [],World.ownsMap_made (H:=Unit) w Tryz.prog 3 (plainElem Tryz.prog 4),fun x=>by simp [DataW.atKey]⟩
theorem zcW (x:Int)(h:dA x):keyOf Tryz.prog 3 (.int .i64 x)=some (.int .i64 x):=keyOf_int_mk Tryz.underlying3 (WalkArith.wf_i64 h)
theorem uO.look {w:World}{g:Nat}{T:List Int}(h:uO w g T){x:Int}(hx:dA x):(Instr.lookup TMb (.map (some g)) (.int .i64 x) false).run Tryz.prog w= .ok (.bool (decide (x∈T))) w:=by
 obtain⟨D,ho,hD⟩:=h;have law:Keyed Tryz.prog 3:=int_keyed Tryz.underlying3;obtain⟨v,ps,hrun,hv⟩:=ho.lookup law Tryz.underlying77 (z:= .bool false) (by rfl) (plainElem_bool Tryz.underlying4 false) (zcW x hx);rw [hD x]at hv;have:v= .bool (decide (x∈T)):=by
  unfold plainElem at hv;rw [Tryz.underlying4]at hv;cases v<;>simp at hv;rw [hv.1]
 rw [hrun,this]
theorem uO.put {w:World}{g:Nat}{T:List Int}(h:uO w g T)(hl:T.length<maxLen){x:Int}(hx:dA x):∃w',(Instr.mapUpdate TMb (.map (some g)) (.int .i64 x) (.bool true)).run Tryz.prog w= .ok () w'∧uO w' g (T++ [x])∧w.grownBy w' (some g):=by
 obtain⟨D,ho,hD⟩:=h;have law:Keyed Tryz.prog 3:=int_keyed Tryz.underlying3;obtain⟨w',hrun,ho',hg⟩:=ho.update law Tryz.underlying77 hl (zcW x hx) (plainElem_bool (H:=Unit) Tryz.underlying4 true);refine⟨w',hrun,⟨_,by rw [List.length_append];exact ho',fun y=> ?_⟩,hg⟩;by_cases e:y=x
 ·subst e;rw [Maps.atKey_put_same ho.isMap (show WideAt.IsKeyLit (.int .i64 y)from by simp [WideAt.IsKeyLit]) _ _];simp
 rw [Maps.atKey_put_other (by intro h;injection h with _ h;exact e h),hD y];simp [e]
structure Dc (w0 w:World)(b gm:Nat)(vc vl vw:Value)(t:Cd.Tr):Prop where
 k:Keep au w0 w
 hb:w0.heap.size≤b
 hm:w0.heap.size≤gm
 tb:w.heap[b]? =some (.cells #[vc,vl,vw,.map (some gm)] TTr (0,0))
 l:bC w w0.heap.size vl t.lits
 y:bC w w0.heap.size vw t.why
 m:uO w gm t.lits
 ap:∀k,vl.ownBlock=some k→vw.ownBlock≠some k
theorem jA {w:World}{base:Nat}{e:TypeId}{size:Nat}{v:Value}{n:Nat}{xs:List Value}(h:w.ownsRow base e size v n xs){b:Nat}(hb:v.ownBlock=some b):∃A,w.heap[b]? =some (.cells A e (0,0)):=by
 obtain⟨hl,h | ⟨g,cap,cur,hv,hbb,hg,hl',hm,hs,ht⟩⟩:=h
 ·rw [h.1]at hb;cases hb
 rw [hv]at hb;cases hb;exact⟨_,hg⟩
theorem bC.same {w w':World}{base:Nat}{v:Value}{xs:List Int}(h:bC w base v xs)(he:∀k,v.ownBlock=some k→w'.heap[k]? =w.heap[k]?):bC w' base v xs:=dO h he
theorem bC.ltT {w:World}{base:Nat}{v:Value}{xs:List Int}(h:bC w base v xs):∀k,v.ownBlock=some k→k<w.heap.size:=fun k hk=>(World.ownsRow.lt h k hk).2
theorem bC.neT {w:World}{base:Nat}{v:Value}{xs:List Int}(h:bC w base v xs){b:Nat}{A:Array Value}{t:TypeId}(hb:w.heap[b]? =some (.cells A t (0,0)))(ht:t≠TI):v.ownBlock≠some b:=fun e=>by
 obtain⟨B,hB⟩:=jA h e;rw [hB]at hb;injection hb with hb;injection hb with _ hb;exact ht hb.symm
theorem bC.nmT {w:World}{base:Nat}{v:Value}{xs:List Int}(h:bC w base v xs){b:Nat}{T:List Int}(hb:uO w b T):v.ownBlock≠some b:=fun e=>by
 obtain⟨B,hB⟩:=jA h e;obtain⟨es,cl,hm⟩:=hb.map;rw [hB]at hm;cases hm
theorem Dc.keep {w0 w w':World}{b gm:Nat}{vc vl vw:Value}{t:Cd.Tr}(h:Dc w0 w b gm vc vl vw t)(k:Keep au w w'):Dc w0 w' b gm vc vl vw t:=
 ⟨h.k.both k,h.hb,h.hm,by rw [k.block b (lt_of_heap h.tb) fun _ h=>h];exact h.tb,h.l.keep k,h.y.keep k,h.m.same (k.block gm h.m.lt fun _ h=>h),h.ap⟩
theorem Dc.ne {w0 w:World}{b gm:Nat}{vc vl vw:Value}{t:Cd.Tr}(h:Dc w0 w b gm vc vl vw t):b≠gm:=by
 rintro rfl;obtain⟨es,cl,hm⟩:=h.m.map;rw [h.tb]at hm;cases hm
structure Fr (S:Nat→Prop)(w w':World):Prop where
 size:w.heap.size≤w'.heap.size
 block:∀k,k<w.heap.size→¬S k→w'.heap[k]? =w.heap[k]?
theorem Fr.refl (S:Nat→Prop)(w:World):Fr S w w:=⟨Nat.le_refl _,fun _ _ _=>rfl⟩
theorem Fr.of {S:Nat→Prop}{w w':World}(k:Keep au w w'):Fr S w w':=⟨k.size,fun n hn _=>k.block n hn fun _ h=>h⟩
theorem Fr.trans {S S':Nat→Prop}{a b c:World}(h:Fr S a b)(k:Fr S' b c)(hs:∀n,n<a.heap.size→S' n→S n):Fr S a c:=
 ⟨Nat.le_trans h.size k.size,fun n hn hS=>(k.block n (bJ hn h.size) fun q=>hS (hs n hn q)).trans (h.block n hn hS)⟩
theorem Fr.then {S:Nat→Prop}{a b c:World}(h:Fr S a b)(k:Keep au b c):Fr S a c:=h.trans (Fr.of (S:=S) k) fun _ _ q=>q
theorem Fr.grown {S:Nat→Prop}{a w w':World}(h:Fr S a w){row:Option Nat}(hg:w.grownBy w' row)(hr:∀k,row=some k→k<a.heap.size→S k):Fr S a w':=
 ⟨Nat.le_trans h.size hg.size,fun n hn hS=>(hg.block n (bJ hn h.size) fun e=>hS (hr n e.symm hn)).trans (h.block n hn hS)⟩
theorem Fr.set {S:Nat→Prop}{a w:World}(h:Fr S a w){b i:Nat}(v:Value)(hb:S b):Fr S a (w.setCell ⟨b,i,none⟩ v):=
 ⟨by simpa using h.size,fun n hn hS=>(heap_setCell_other w ⟨b,i,none⟩ v n fun e=>hS (e ▸ hb)).trans (h.block n hn hS)⟩
def VY (b gm:Nat)(vl vw:Value)(k:Nat):Prop:=k=b∨k=gm∨vl.ownBlock=some k∨vw.ownBlock=some k
structure NZ (w w':World)(b gm:Nat)(vl vw xC Ij:Value):Prop where
 k:Fr (VY b gm vl vw) w w'
 l:xC.ownBlock=vl.ownBlock∨∃k,xC.ownBlock=some k∧w.heap.size≤k
 y:Ij.ownBlock=vw.ownBlock∨∃k,Ij.ownBlock=some k∧w.heap.size≤k
theorem NZ.refl (w:World)(b gm:Nat)(vl vw:Value):NZ w w b gm vl vw vl vw:=⟨Fr.refl _ _,.inl rfl,.inl rfl⟩
theorem NZ.step {w w1 w2:World}{b gm:Nat}{vl vw vl1 vw1 vl2 vw2:Value}(h:NZ w w1 b gm vl vw vl1 vw1)(k:NZ w1 w2 b gm vl1 vw1 vl2 vw2):NZ w w2 b gm vl vw vl2 vw2:=by
 have hs:=h.k.size;refine⟨h.k.trans k.k fun n hn hS=> ?_,?_,?_⟩
 ·rcases hS with e | e | e | e
  ·exact .inl e
  ·exact .inr (.inl e)
  ·rcases h.l with q | ⟨j,q,hj⟩
   ·exact .inr (.inr (.inl (q ▸ e)))
   rw [q]at e;cases e;omega
  rcases h.y with q | ⟨j,q,hj⟩
  ·exact .inr (.inr (.inr (q ▸ e)))
  rw [q]at e;cases e;omega
 ·rcases k.l with q | ⟨j,q,hj⟩
  ·rw [q];exact h.l
  exact .inr ⟨j,q,om⟩
 rcases k.y with q | ⟨j,q,hj⟩
 ·rw [q];exact h.y
 exact .inr ⟨j,q,om⟩
theorem NZ.of {w w1 w2:World}{b gm:Nat}{vl vw vl1 vw1:Value}(h:NZ w w1 b gm vl vw vl1 vw1)(k:Keep au w1 w2):NZ w w2 b gm vl vw vl1 vw1:=⟨h.k.then k,h.l,h.y⟩
theorem ZO (w0 w:World)(b gm:Nat)(vc vl vw:Value)(t:Cd.Tr)(h:Dc w0 w b gm vc vl vw t)(x:Int)(hx:dA x):
  Calls Tryz.prog 181 #[.pointer (some ⟨b,0,none⟩),.int .i64 x] w fun e w'=>e= .returned (.bool (decide (x∈t.lits)))∧w'=w:=by
 have hl:=h.m.look hx;have c3:=cell_of_heap (o:=3) h.tb rfl;have hb:=lt_of_heap h.tb;generalize decide (x∈t.lits)=r at *;clear h;go_enter Tryz.func181,Tryz.ntmps181;go_wp2;go_ret;exact⟨rfl,rfl⟩
theorem zbJ {T c:List Int}{k:Nat}{o:Int}(hk:k<c.length):Cd.stG T (c.drop k) o=if -c[k]∈T then Cd.stG T (c.drop (k+1)) o else if c[k]∈T∨o≠0 then(false,0)else Cd.stG T (c.drop (k+1)) c[k]:=by
 rw [List.drop_eq_getElem_cons hk];rfl
theorem FP (w0 w:World)(b gm:Nat)(vc vl vw:Value)(t:Cd.Tr)(h:Dc w0 w b gm vc vl vw t)(v:Value)(c:List Int)(hc:aR w v c)(hn:∀x∈c,dA (-x)):
  Calls Tryz.prog 215 #[.pointer (some ⟨b,0,none⟩),v] w fun e w'=>e= .returned (.tuple #[.bool (Cd.stF t.lits c).1,.int .i64 (Cd.stF t.lits c).2])∧w'=w:=by
 have HC:=zh hc;have HN:=zh hn;have HM:=zh h.m;obtain⟨oa,ca,rfl,hml⟩:=hc.len;unfold maxLen at hml;have c3:=cell_of_heap (o:=3) h.tb rfl;have hb:=lt_of_heap h.tb;unfold Cd.stF;generalize t.lits=T at *;clear h hc hn;go_enter Tryz.func215,Tryz.ntmps215;go_wp2;go_loopw [11,6] (fun s o wr=>∃(k:Nat) (z:Int),k≤c.length∧s= .int .i64 k∧o= .int .i64 z∧wr=w∧Cd.stG T c 0=Cd.stG T (c.drop k) z) (fun s _ _=>(c.length-intOf s).toNat)
 case atStart=>exact⟨0,0,om,rfl,rfl,rfl,rfl⟩
 obtain⟨k,z,hk,rfl,rfl,hwr,hst⟩:=hrel;have hwr:w=wr:=hwr.symm;subst hwr;have HST:=zh hst;clear hst;by_cases hkl:k<c.length
 case neg=>
  have hlt:¬(k:Int)<(c.length:Int):=om;have hE:Hid (Cd.stG T c 0=(decide (z=0),z)):=zh (HST.out.trans (by rw [List.drop_eq_nil_of_le om];rfl));clear HST;by_cases hz:z=0
  ·subst hz;go_wp2;refine bodyPost_ret (by simp [results,Tryz.results215,go_sem];rfl) rfl ?_;rw [hE.out];exact⟨rfl,rfl⟩
  have e1:(z==0)=false:=by rw [beq_eq_false_iff_ne];exact hz
  have hE2:Hid (Cd.stG T c 0=(false,z)):=zh (hE.out.trans (by rw [decide_eq_false hz]));clear hE hz;go_wp2;refine bodyPost_ret (by simp [results,Tryz.results215,go_sem];rfl) rfl ?_;rw [hE2.out];exact⟨rfl,rfl⟩
 have hlt:(k:Int)<(c.length:Int):=om;obtain⟨bc,fc,cap,hv,hbc,p0⟩:=HC.out.at hkl;injection hv with q1 q2 q3;clear q2;subst q1;subst q3;have hx1:=HC.out.all _ (List.getElem_mem hkl);have hx2:=HN.out _ (List.getElem_mem hkl);have HX:=zh (HST.out.trans (zbJ hkl));have l1:=HM.out.look hx2;have l2:=HM.out.look hx1;generalize c[k]=x at *;clear HST;by_cases hA: -x∈T
 case pos=>
  rw [decide_eq_true hA]at l1;have HY:Hid (Cd.stG T c 0=Cd.stG T (c.drop (k+1)) z):=zh (HX.out.trans (by rw [if_pos hA]));unfold dA at hx1 hx2;clear HX l2 hA;go_wp2;go_roundw
  case rel=>exact⟨k+1,z,om,gn,rfl,by trivial,HY.out⟩
  simp [intOf];omega
 rw [decide_eq_false hA]at l1;by_cases hB:x∈T
 case pos=>
  rw [decide_eq_true hB]at l2;have HY:Hid (Cd.stG T c 0=(false,0)):=zh (HX.out.trans (by rw [if_neg hA,if_pos (.inl hB)]));unfold dA at hx1 hx2;clear HX hA hB;go_wp2;refine bodyPost_ret (by simp [results,Tryz.results215,go_sem];rfl) rfl ?_;rw [HY.out];exact⟨rfl,rfl⟩
 rw [decide_eq_false hB]at l2;by_cases hZ:z=0
 case pos=>
  subst hZ;have HY:Hid (Cd.stG T c 0=Cd.stG T (c.drop (k+1)) x):=zh (HX.out.trans (by rw [if_neg hA,if_neg (by simp [hB])]));unfold dA at hx1 hx2;clear HX hA hB;go_wp2;go_roundw
  case rel=>exact⟨k+1,x,om,gn,rfl,by trivial,HY.out⟩
  simp [intOf];omega
 have e1:(z != 0)=true:=by rw [bne_iff_ne];exact hZ
 have HY:Hid (Cd.stG T c 0=(false,0)):=zh (HX.out.trans (by rw [if_neg hA,if_pos (.inr hZ)]));unfold dA at hx1 hx2;clear HX hA hB hZ;go_wp2;refine bodyPost_ret (by simp [results,Tryz.results215,go_sem];rfl) rfl ?_;rw [HY.out];exact⟨rfl,rfl⟩
theorem Qg (w:World)(oc:Option Addr)(nc cc:Nat):
  Calls Tryz.prog 110 #[.slice oc nc cc] w fun e w'=>∃b gm,e= .returned (.pointer (some ⟨b,0,none⟩))∧Dc w w' b gm (.slice oc nc cc) (.slice none 0 0) (.slice none 0 0) ⟨[],[]⟩:=by
 have hmk:(Instr.makeMap 77 none).run Tryz.prog w= .ok (.map (some w.heap.size)) (w.alloc (.map #[] 0)):=rfl;go_enter Tryz.func110,Tryz.ntmps110;go_wp2;refine bodyPost_ret (by simp [results,Tryz.results110,go_sem];rfl) rfl ?_;refine⟨w.heap.size+1,w.heap.size,rfl,?_⟩;have ka:Keep au w (w.alloc (.map #[] 0)):=(Keep.refl _ _).alloc _;have kb:Keep au (w.alloc (.map #[] 0)) ((w.alloc (.map #[] 0)).alloc (.cells #[.slice oc nc cc,.slice none 0 0,.slice none 0 0,.map (some w.heap.size)] TTr)):=(Keep.refl _ _).alloc _;exact⟨ka.both kb,om,Nat.le_refl _,aK _ _ _ sm,bC.nil _ _,bC.nil _ _,(uO.made w).same (kb.block _ sm fun _ h=>h),fun k hk=>by cases hk⟩
theorem ni {w:World}{base:Nat}{v:Value}{xs:List Int}(h:bC w base v xs){b:Nat}{x:Int}(hb:aL w b #[.int .i64 x])(hl:xs.length≤100000)(hbase:base≤w.heap.size):
  ∃v' w',(Builtin.append_ #[22,22] 22 #[v,.slice (some ⟨b,0,none⟩) 1 1]).run Tryz.prog w= .ok v' w'∧bC w' base v' (xs++ [x])∧w.grownBy w' v.ownBlock∧(v'.ownBlock=v.ownBlock∨v'.ownBlock=some w.heap.size):=by
 obtain⟨i0,hi0,hz0,hz1,hz2⟩:=info_parts Fy;obtain⟨v',w',hr,ho,hg,_,hv⟩:=run_append_own_at (P:=Tryz.prog) w base 22 22 TI i0 (.int .i64 0) 1 8 Tryz.underlying22 hi0 hz0 hz1 hz2 rfl dc v xs.length (iv xs) h ⟨b,0,none⟩ 1 1 [.int .i64 x] rfl
  (fun j u hj=>by rw [add_plain,Nat.zero_add,hb.cell j];simpa using hj) (by intro u hu;rw [List.mem_singleton.1 hu];rfl) (by unfold maxLen;omega) om hbase
 exact⟨v',w',hr,by unfold bC;rw [Dn,List.length_append];exact ho,hg,hv⟩
structure sF (w0 w6:World)(b gm:Nat)(vc vl vw:Value)(T W:List Int)(x y:Int)(bA aA bB aB s1 s2:Bool)(mP jL mQ jM:Value)(w:World):Prop where
 k:Keep au w0 w
 hb:w0.heap.size≤b
 f:∀c,c<w6.heap.size→c≠b→vl.ownBlock≠some c→vw.ownBlock≠some c→w.heap[c]? =w6.heap[c]?
 kk:Fr (VY b gm vl vw) w6 w
 a:bC w w0.heap.size (cond aA jL vl) (cond aA (T++ [x]) T)
 c:bC w w0.heap.size (cond aB jM vw) (cond aB (W++ [y]) W)
 na:aA=true→jL.ownBlock=vl.ownBlock∨∃k,jL.ownBlock=some k∧w6.heap.size≤k
 nb:aB=true→jM.ownBlock=vw.ownBlock∨∃k,jM.ownBlock=some k∧w6.heap.size≤k
 ap:∀k,(cond aA jL vl).ownBlock=some k→(cond aB jM vw).ownBlock≠some k
 pa:bA=true→aA=false→∃i,mP= .slice (some ⟨i,0,none⟩) 1 1∧aL w i #[.int .i64 x]∧(cond aB jM vw).ownBlock≠some i
 pb:bB=true→aB=false→∃i,mQ= .slice (some ⟨i,0,none⟩) 1 1∧aL w i #[.int .i64 y]∧(cond aA jL vl).ownBlock≠some i
 blk:w.heap[b]? =some (.cells #[vc,cond s1 jL vl,cond s2 jM vw,.map (some gm)] TTr (0,0))
section
variable {w0 w6 w w':World} {b gm:Nat} {vc vl vw:Value} {T W:List Int} {x y:Int} {bA aA bB aB s1 s2:Bool} {mP jL mQ jM:Value}
theorem sF.keep (h:sF w0 w6 b gm vc vl vw T W x y bA aA bB aB s1 s2 mP jL mQ jM w)(k:Keep au w w'):sF w0 w6 b gm vc vl vw T W x y bA aA bB aB s1 s2 mP jL mQ jM w':=
 ⟨h.k.both k,h.hb,fun c h1 h2 h3 h4=>(k.block c (bJ h1 h.kk.size) fun _ h=>h).trans (h.f c h1 h2 h3 h4),h.kk.then k,h.a.keep k,h.c.keep k,h.na,h.nb,h.ap,
  fun e1 e2=>by obtain⟨i,h1,h2,h3⟩:=h.pa e1 e2;exact⟨i,h1,h2.keep k,h3⟩,fun e1 e2=>by obtain⟨i,h1,h2,h3⟩:=h.pb e1 e2;exact⟨i,h1,h2.keep k,h3⟩,by rw [k.block b (lt_of_heap h.blk) fun _ h=>h];exact h.blk⟩
theorem sF.buildA (h:sF w0 w6 b gm vc vl vw T W x y bA aA bB aB s1 s2 mP jL mQ jM w)(k:Keep au w w'){i:Nat}(hi:aL w' i #[.int .i64 x])(hn:w.heap.size≤i):sF w0 w6 b gm vc vl vw T W x y true aA bB aB s1 s2 (.slice (some ⟨i,0,none⟩) 1 1) jL mQ jM w':=by
 have h':=h.keep k;exact⟨h'.k,h'.hb,h'.f,h'.kk,h'.a,h'.c,h'.na,h'.nb,h'.ap,fun _ _=>⟨i,rfl,hi,fun e=>by have:=h.c.ltT _ e;omega⟩,h'.pb,h'.blk⟩
theorem sF.buildB (h:sF w0 w6 b gm vc vl vw T W x y bA aA bB aB s1 s2 mP jL mQ jM w)(k:Keep au w w'){i:Nat}(hi:aL w' i #[.int .i64 y])(hn:w.heap.size≤i):sF w0 w6 b gm vc vl vw T W x y bA aA true aB s1 s2 mP jL (.slice (some ⟨i,0,none⟩) 1 1) jM w':=by
 have h':=h.keep k;exact⟨h'.k,h'.hb,h'.f,h'.kk,h'.a,h'.c,h'.na,h'.nb,h'.ap,h'.pa,fun _ _=>⟨i,rfl,hi,fun e=>by have:=h.a.ltT _ e;omega⟩,h'.blk⟩
theorem sF.appA (hl:T.length≤100000)(h:sF w0 w6 b gm vc vl vw T W x y bA aA bB aB s1 s2 mP jL mQ jM w)(hb:bA=true)(ha:aA=false)(hs:s1=false):
  ∃v' w',(Builtin.append_ #[22,22] 22 #[vl,mP]).run Tryz.prog w= .ok v' w'∧sF w0 w6 b gm vc vl vw T W x y bA true bB aB s1 s2 mP v' mQ jM w':=by
 subst hb ha hs;obtain⟨i,rfl,hi,hne⟩:=h.pa rfl rfl;have hown:bC w w0.heap.size vl T:=h.a;obtain⟨v',w',hr,ho,hg,hv⟩:=ni hown hi hl h.k.size;have hbb:vl.ownBlock≠some b:=hown.neT h.blk dc;have hn6:v'.ownBlock=vl.ownBlock∨∃k,v'.ownBlock=some k∧w6.heap.size≤k:=hv.imp_right fun e=>⟨_,e,h.kk.size⟩;have zbK:∀k,v'.ownBlock=some k→(cond aB jM vw).ownBlock≠some k:=fun k hk hk'=>by
  rcases hv with e | e
  ·exact h.ap k (e ▸ hk) hk'
  rw [e]at hk;cases hk;have:=h.c.ltT _ hk';omega
 have hoth:∀k,(cond aB jM vw).ownBlock=some k→w'.heap[k]? =w.heap[k]? :=fun k hk=>hg.block k (h.c.ltT _ hk) fun e=>h.ap k e.symm hk;refine⟨v',w',hr,h.k.grown hg fun k hk=>hown.block k hk,h.hb,fun c h1 h2 h3 h4=>(hg.block c (bJ h1 h.kk.size) fun e=>h3 e.symm).trans (h.f c h1 h2 h3 h4),h.kk.grown hg fun k hk _=> .inr (.inr (.inl hk)),ho,h.c.same hoth,fun _=>hn6,h.nb,zbK,fun _ e=>(by cases e),fun e1 e2=> ?_,?_⟩
 ·obtain ⟨j,q1,⟨t,q2⟩,q3⟩:=h.pb e1 e2;refine⟨j,q1,⟨t,by rw [hg.block j (lt_of_heap q2) fun e=>q3 e.symm];exact q2⟩,fun e=> ?_⟩;rcases hv with e' | e'
  ·exact q3 (show vl.ownBlock=some j from e' ▸ e)
  replace e:v'.ownBlock=some j:=e;rw [e']at e;cases e;exact absurd (lt_of_heap q2) (Nat.lt_irrefl _)
 rw [hg.block b (lt_of_heap h.blk) fun e=>hbb e.symm];exact h.blk
theorem sF.appB (hl:W.length≤100000)(h:sF w0 w6 b gm vc vl vw T W x y bA aA bB aB s1 s2 mP jL mQ jM w)(hb:bB=true)(ha:aB=false)(hs:s2=false):
  ∃v' w',(Builtin.append_ #[22,22] 22 #[vw,mQ]).run Tryz.prog w= .ok v' w'∧sF w0 w6 b gm vc vl vw T W x y bA aA bB true s1 s2 mP jL mQ v' w':=by
 subst hb ha hs;obtain⟨i,rfl,hi,hne⟩:=h.pb rfl rfl;have hown:bC w w0.heap.size vw W:=h.c;obtain⟨v',w',hr,ho,hg,hv⟩:=ni hown hi hl h.k.size;have hbb:vw.ownBlock≠some b:=hown.neT h.blk dc;have hn6:v'.ownBlock=vw.ownBlock∨∃k,v'.ownBlock=some k∧w6.heap.size≤k:=hv.imp_right fun e=>⟨_,e,h.kk.size⟩;have zbK:∀k,v'.ownBlock=some k→(cond aA jL vl).ownBlock≠some k:=fun k hk hk'=>by
  rcases hv with e | e
  ·exact h.ap k hk' (e ▸ hk)
  rw [e]at hk;cases hk;have:=h.a.ltT _ hk';omega
 have hoth:∀k,(cond aA jL vl).ownBlock=some k→w'.heap[k]? =w.heap[k]? :=fun k hk=>hg.block k (h.a.ltT _ hk) fun e=>h.ap k hk e.symm;refine⟨v',w',hr,h.k.grown hg fun k hk=>hown.block k hk,h.hb,fun c h1 h2 h3 h4=>(hg.block c (bJ h1 h.kk.size) fun e=>h4 e.symm).trans (h.f c h1 h2 h3 h4),h.kk.grown hg fun k hk _=> .inr (.inr (.inr hk)),h.a.same hoth,ho,h.na,fun _=>hn6,fun k hk hk'=>zbK k hk' hk,fun e1 e2=> ?_,fun _ e=>(by cases e),?_⟩
 ·obtain ⟨j,q1,⟨t,q2⟩,q3⟩:=h.pa e1 e2;refine⟨j,q1,⟨t,by rw [hg.block j (lt_of_heap q2) fun e=>q3 e.symm];exact q2⟩,fun e=> ?_⟩;rcases hv with e' | e'
  ·exact q3 (show vw.ownBlock=some j from e' ▸ e)
  replace e:v'.ownBlock=some j:=e;rw [e']at e;cases e;exact absurd (lt_of_heap q2) (Nat.lt_irrefl _)
 rw [hg.block b (lt_of_heap h.blk) fun e=>hbb e.symm];exact h.blk
theorem sF.set (h:sF w0 w6 b gm vc vl vw T W x y bA aA bB aB s1 s2 mP jL mQ jM w){i:Nat}{v:Value}{t1 t2:Bool}(he: #[vc,cond s1 jL vl,cond s2 jM vw,.map (some gm)].setIfInBounds i v= #[vc,cond t1 jL vl,cond t2 jM vw,.map (some gm)])(ha:aA=true)(hb:aB=true):sF w0 w6 b gm vc vl vw T W x y bA aA bB aB t1 t2 mP jL mQ jM (w.setCell ⟨b,i,none⟩ v):=by
 have k1:∀c,c≠b→(w.setCell ⟨b,i,none⟩ v).heap[c]? =w.heap[c]? :=fun c h=>heap_setCell_other w ⟨b,i,none⟩ v c h;subst ha hb;refine⟨aQ h.k _ h.hb,h.hb,fun c h1 h2 h3 h4=>(k1 c h2).trans (h.f c h1 h2 h3 h4),h.kk.set v (.inl rfl),?_,?_,h.na,h.nb,h.ap,fun _ e=>(by cases e),fun _ e=>(by cases e),?_⟩
 ·exact h.a.same fun k hk=>k1 k fun e=>h.a.neT h.blk dc (e ▸ hk)
 ·exact h.c.same fun k hk=>k1 k fun e=>h.c.neT h.blk dc (e ▸ hk)
 rw [← he];exact heap_setCell_same _ _ h.blk
end
def zez (b:Nat)(vl vw:Value)(x y:Int):Nat→Value→Prop
 | 0,v=>v= .pointer (some ⟨b,0,none⟩)
 | 1,v=>v= .pointer (some ⟨b,0,none⟩)
 | 2,v=>v= .pointer (some ⟨b,0,none⟩)
 | 3,v=>v= .pointer (some ⟨b,0,none⟩)
 | 4,v=>v= .pointer (some ⟨b,1,none⟩)
 | 5,v=>v=vl
 | 6,v=>v= .int .i64 x
 | 9,v=>v= .pointer (some ⟨b,0,none⟩)
 | 10,v=>v= .pointer (some ⟨b,0,none⟩)
 | 11,v=>v= .pointer (some ⟨b,2,none⟩)
 | 12,v=>v=vw
 | 13,v=>v= .int .i64 y
 | 16,v=>v= .pointer (some ⟨b,0,none⟩)
 | 17,v=>v= .pointer (some ⟨b,1,none⟩)
 | 19,v=>v= .pointer (some ⟨b,0,none⟩)
 | 20,v=>v= .pointer (some ⟨b,2,none⟩)
 | _,_=>True
theorem Kq (w0 w:World)(b gm:Nat)(vc vl vw:Value)(t:Cd.Tr)(h:Dc w0 w b gm vc vl vw t)(x y:Int)(hx:dA x)(hl:t.lits.length≤100000)(hy:t.why.length≤100000):
  Calls Tryz.prog 180 #[.pointer (some ⟨b,0,none⟩),.int .i64 x,.int .i64 y] w fun e w'=>e= .returned (.tuple #[])∧∃xC Ij,Dc w0 w' b gm vc xC Ij ⟨t.lits++ [x],t.why++ [y]⟩∧NZ w w' b gm vl vw xC Ij:=by
 have HT:=zh h;have HX:=zh hx;obtain⟨ol,cl,rfl⟩:=h.l.len;obtain⟨oy,cy,rfl⟩:=h.y.len;have tb:=zh h.tb;clear h hx;go_enter Tryz.func180,Tryz.ntmps180;go_upto_region 0 with fail;refine kY (fun S σ w'=>sF w0 w b gm vc (.slice ol t.lits.length cl) (.slice oy t.why.length cy) t.lits t.why x y (S 7) (S 8) (S 14) (S 15) (S 18) (S 21) (σ 7) (σ 8) (σ 14) (σ 15) w') (fun S d v w=>zez b (.slice ol t.lits.length cl) (.slice oy t.why.length cy) x y d v) kr kr kr kr (fun S σ hS=>by
  simp only [hS];exact⟨HT.out.k.drew,HT.out.hb,fun c _ _ _ _=>rfl,Fr.of ((Keep.refl _ _).drew),HT.out.l.keep ((Keep.refl _ _).drew),HT.out.y.keep ((Keep.refl _ _).drew),fun e=>(by cases e),fun e=>(by cases e),HT.out.ap,fun e=>(by cases e),fun e=>(by cases e),tb.out⟩) _ (fun σ=>by
  show bP _ σ [0,1,2,3,4,5,6,7,8,9,10,11,12,13,14,15,16,17,18,19,20,21] _=_;simp only [bP,zl0,zl1,zl2,Act.put,List.setIfInBounds_toArray,List.set_cons_zero,List.set_cons_succ];rfl) ?_ ?_
 ·intro S σ wz hC hall e he HK;have he:e<22:=he;obtain rfl | rfl | rfl | rfl | rfl | rfl | rfl | rfl | rfl | rfl | rfl | rfl | rfl | rfl | rfl | rfl | rfl | rfl | rfl | rfl | rfl | rfl:e=0∨e=1∨e=2∨e=3∨e=4∨e=5∨e=6∨e=7∨e=8∨e=9∨e=10∨e=11∨e=12∨e=13∨e=14∨e=15∨e=16∨e=17∨e=18∨e=19∨e=20∨e=21:=om
  ·refine ay rfl rfl fun K hK=> ?_;go_simp;exact hK _ _ ⟨_,hC,fun d _ _ h=>h,rfl,rfl⟩
  ·refine ay rfl rfl fun K hK=> ?_;go_simp;exact hK _ _ ⟨_,hC,fun d _ _ h=>h,rfl,rfl⟩
  ·refine ay rfl rfl fun K hK=> ?_;go_simp;exact hK _ _ ⟨_,hC,fun d _ _ h=>h,rfl,rfl⟩
  ·have h2:σ 2= .pointer (some ⟨b,0,none⟩):=HK.post 2 kr;rw [h2];refine ay rfl rfl fun K hK=> ?_;go_simp;exact hK _ _ ⟨_,hC,fun d _ _ h=>h,rfl,rfl⟩
  ·have h3:σ 3= .pointer (some ⟨b,0,none⟩):=HK.post 3 kr;rw [h3];refine ay rfl rfl fun K hK=> ?_;go_simp;exact hK _ _ ⟨_,hC,fun d _ _ h=>h,rfl,rfl⟩
  ·have h4:σ 4= .pointer (some ⟨b,1,none⟩):=HK.post 4 kr;rw [h4];have m0:=cell_of_heap (o:=1) hC.blk rfl;rw [HK.down 18 kr]at m0;have ml:=lt_of_heap hC.blk;simp only [cond_false]at m0;refine ay rfl rfl fun K hK=> ?_;go_simp;exact hK _ _ ⟨_,hC,fun d _ _ h=>h,rfl,rfl⟩
  ·refine ay rfl rfl fun K hK=> ?_;go_simp;exact hK _ _ ⟨_,hC,fun d _ _ h=>h,rfl,rfl⟩
  ·have h6:σ 6= .int .i64 x:=HK.post 6 kr;rw [h6];refine ay rfl rfl fun K hK=> ?_;go_simp;exact hK _ _ ⟨_,hC.buildA ((Keep.refl _ _).alloc _) (i:=wz.heap.size) (aN _ _ rfl) (Nat.le_refl _),fun d _ _ h=>h,rfl,trivial⟩
  ·obtain ⟨v',w2,hr,hc2⟩:=hC.appA hl (HK.up 7 kr) HK.self (HK.down 18 kr);have h5:σ 5= .slice ol t.lits.length cl:=HK.post 5 kr;rw [h5];refine ay rfl rfl fun K hK=> ?_;refine dn _ _ 22 _ _ rfl rfl rfl hr ?_;exact hK _ _ ⟨_,hc2,fun d _ _ h=>h,rfl,trivial⟩
  ·refine ay rfl rfl fun K hK=> ?_;go_simp;exact hK _ _ ⟨_,hC,fun d _ _ h=>h,rfl,rfl⟩
  ·have h9:σ 9= .pointer (some ⟨b,0,none⟩):=HK.post 9 kr;rw [h9];refine ay rfl rfl fun K hK=> ?_;go_simp;exact hK _ _ ⟨_,hC,fun d _ _ h=>h,rfl,rfl⟩
  ·have h10:σ 10= .pointer (some ⟨b,0,none⟩):=HK.post 10 kr;rw [h10];refine ay rfl rfl fun K hK=> ?_;go_simp;exact hK _ _ ⟨_,hC,fun d _ _ h=>h,rfl,rfl⟩
  ·have h11:σ 11= .pointer (some ⟨b,2,none⟩):=HK.post 11 kr;rw [h11];have m0:=cell_of_heap (o:=2) hC.blk rfl;rw [HK.down 21 kr]at m0;have ml:=lt_of_heap hC.blk;simp only [cond_false]at m0;refine ay rfl rfl fun K hK=> ?_;go_simp;exact hK _ _ ⟨_,hC,fun d _ _ h=>h,rfl,rfl⟩
  ·refine ay rfl rfl fun K hK=> ?_;go_simp;exact hK _ _ ⟨_,hC,fun d _ _ h=>h,rfl,rfl⟩
  ·have h13:σ 13= .int .i64 y:=HK.post 13 kr;rw [h13];refine ay rfl rfl fun K hK=> ?_;go_simp;exact hK _ _ ⟨_,hC.buildB ((Keep.refl _ _).alloc _) (i:=wz.heap.size) (aN _ _ rfl) (Nat.le_refl _),fun d _ _ h=>h,rfl,trivial⟩
  ·obtain ⟨v',w2,hr,hc2⟩:=hC.appB hy (HK.up 14 kr) HK.self (HK.down 21 kr);have h12:σ 12= .slice oy t.why.length cy:=HK.post 12 kr;rw [h12];refine ay rfl rfl fun K hK=> ?_;refine dn _ _ 22 _ _ rfl rfl rfl hr ?_;exact hK _ _ ⟨_,hc2,fun d _ _ h=>h,rfl,trivial⟩
  ·have h0:σ 0= .pointer (some ⟨b,0,none⟩):=HK.post 0 kr;rw [h0];refine ay rfl rfl fun K hK=> ?_;go_simp;exact hK _ _ ⟨_,hC,fun d _ _ h=>h,rfl,rfl⟩
  ·have h16:σ 16= .pointer (some ⟨b,0,none⟩):=HK.post 16 kr;rw [h16];refine ay rfl rfl fun K hK=> ?_;go_simp;exact hK _ _ ⟨_,hC,fun d _ _ h=>h,rfl,rfl⟩
  ·have hu:=HK.up 8 kr;obtain⟨o',c',hv⟩:=(show bC wz _ (σ 8) _ from by have:=hC.a;rw [hu]at this;exact this).len;simp only [cond_true,List.length_append,List.length_singleton]at hv;have h17:σ 17= .pointer (some ⟨b,1,none⟩):=HK.post 17 kr;rw [h17];rw [hv];have m0:=cell_of_heap (o:=1) hC.blk rfl;have m1:=aL.free (A:=_) ⟨_,hC.blk⟩ 1;have ml:=lt_of_heap hC.blk;refine ay rfl rfl fun K hK=> ?_;go_simp;exact hK _ _ ⟨undef,hC.set (by rw [← hv];rfl) (HK.up 8 kr) (HK.up 15 kr),fun d _ _ h=>h,rfl,trivial⟩
  ·have h1:σ 1= .pointer (some ⟨b,0,none⟩):=HK.post 1 kr;rw [h1];refine ay rfl rfl fun K hK=> ?_;go_simp;exact hK _ _ ⟨_,hC,fun d _ _ h=>h,rfl,rfl⟩
  ·have h19:σ 19= .pointer (some ⟨b,0,none⟩):=HK.post 19 kr;rw [h19];refine ay rfl rfl fun K hK=> ?_;go_simp;exact hK _ _ ⟨_,hC,fun d _ _ h=>h,rfl,rfl⟩
  have hu:=HK.up 15 kr;obtain⟨o',c',hv⟩:=(show bC wz _ (σ 15) _ from by have:=hC.c;rw [hu]at this;exact this).len;simp only [cond_true,List.length_append,List.length_singleton]at hv;have h20:σ 20= .pointer (some ⟨b,2,none⟩):=HK.post 20 kr;rw [h20];rw [hv];have m0:=cell_of_heap (o:=2) hC.blk rfl;have m1:=aL.free (A:=_) ⟨_,hC.blk⟩ 2;have ml:=lt_of_heap hC.blk;refine ay rfl rfl fun K hK=> ?_;go_simp;exact hK _ _ ⟨undef,hC.set (by rw [← hv];rfl) (HK.up 8 kr) (HK.up 15 kr),fun d _ _ h=>h,rfl,trivial⟩
 intro S σ w9 hC hS hP;simp only [hS 7 (show 7<22 from om),hS 8 (show 8<22 from om),hS 14 (show 14<22 from om),hS 15 (show 15<22 from om),hS 18 (show 18<22 from om),hS 21 (show 21<22 from om)]at hC;refine NoPanic.normal ?_;generalize σ 8=va at *;generalize σ 15=vb at *;have HC:=zh hC;have hgm:w9.heap[gm]? =w.heap[gm]? :=hC.f gm HT.out.m.lt (fun e=>HT.out.ne e.symm) (HT.out.l.nmT HT.out.m) (HT.out.y.nmT HT.out.m);have HV9:=zh (HT.out.m.same hgm);obtain⟨w10,hrun,hv10,hg10⟩:=HV9.out.put (x:=x) (by unfold maxLen;omega) HX.out;have HV:=zh hv10;have HG:=zh hg10;have c3:=cell_of_heap (o:=3) hC.blk rfl;have hb9:=lt_of_heap hC.blk;clear hC hS hP hgm hv10 hg10;go_wp2;refine bodyPost_end (by simp [results,Tryz.results180,go_sem];rfl) rfl ?_;have kg:∀c,c<w9.heap.size→c≠gm→w10.heap[c]? =w9.heap[c]? :=fun c h1 h2=>HG.out.block c h1 fun e=>h2 (Option.some.inj e);refine⟨rfl,va,vb,⟨HC.out.k.grown HG.out fun k hk=>(by cases hk;exact HT.out.hm),HC.out.hb,HT.out.hm,?_,HC.out.a.same fun k hk=>kg k (HC.out.a.ltT k hk) ?_,HC.out.c.same fun k hk=>kg k (HC.out.c.ltT k hk) ?_,HV.out,HC.out.ap⟩,HC.out.kk.grown HG.out (fun k hk _=> .inr (.inl (Option.some.inj hk).symm)),HC.out.na rfl,HC.out.nb rfl⟩
 ·rw [kg b hb9 HT.out.ne];exact HC.out.blk
 ·rintro rfl;exact HC.out.a.nmT HV9.out hk
 rintro rfl;exact HC.out.c.nmT HV9.out hk
def IntsIn (P:Nat→Prop)(w:World)(v:Value)(l:List Int):Prop:=
 ∃oa cap,v= .slice oa l.length cap∧l.length≤maxLen∧(∀x∈l,dA x)∧(l≠ []→∃b o,oa=some ⟨b,o,none⟩∧b<w.heap.size∧P b∧∀i x,l[i]? =some x→w.cell? ⟨b,o+i,none⟩=some (.int .i64 x))
def lK (P:Nat→Prop)(w:World)(v:Value)(l:List (List Int)):Prop:=
 ∃oa cap,v= .slice oa l.length cap∧l.length≤cap∧cap≤maxLen∧(l≠ []→∃b o,oa=some ⟨b,o,none⟩∧b<w.heap.size∧P b∧∀i c,l[i]? =some c→∃sv,w.cell? ⟨b,o+i,none⟩=some sv∧IntsIn P w sv c∧GU sv)
theorem IntsIn.ints {P:Nat→Prop}{w:World}{v:Value}{l:List Int}(h:IntsIn P w v l):aR w v l:=by
 obtain⟨oa,cap,h1,h2,h3,h4⟩:=h;exact⟨oa,cap,h1,h2,h3,fun hne=>by obtain⟨b,o,e,hb,_,hc⟩:=h4 hne;exact⟨b,o,e,hb,hc⟩⟩
theorem lK.cls {P:Nat→Prop}{w:World}{v:Value}{l:List (List Int)}(h:lK P w v l):fM w v l:=by
 obtain⟨oa,cap,h1,h2,h3,h4⟩:=h;refine⟨oa,cap,h1,h2,h3,fun hne=> ?_⟩;obtain⟨b,o,e,hb,_,hc⟩:=h4 hne;exact⟨b,o,e,hb,fun i c hi=>by obtain⟨sv,q1,q2,q3⟩:=hc i c hi;exact⟨sv,q1,q2.ints,q3⟩⟩
theorem Qh {P:Nat→Prop}{w w':World}(hs:w.heap.size≤w'.heap.size)(hp:∀k,k<w.heap.size→P k→w'.heap[k]? =w.heap[k]?){b i:Nat}(hb:b<w.heap.size)(h:P b):w'.cell? ⟨b,i,none⟩=w.cell? ⟨b,i,none⟩:=World.cell?_of_block (w:=w) (hp b hb h)
theorem IntsIn.fr {P:Nat→Prop}{w w':World}{v:Value}{l:List Int}(h:IntsIn P w v l)(hs:w.heap.size≤w'.heap.size)(hp:∀k,k<w.heap.size→P k→w'.heap[k]? =w.heap[k]?):IntsIn P w' v l:=by
 obtain⟨oa,cap,h1,h2,h3,h4⟩:=h;refine⟨oa,cap,h1,h2,h3,fun hne=> ?_⟩;obtain⟨b,o,e,hb,hpb,hc⟩:=h4 hne;exact⟨b,o,e,bJ hb hs,hpb,fun i x hi=>(Qh hs hp hb hpb).trans (hc i x hi)⟩
theorem lK.fr {P:Nat→Prop}{w w':World}{v:Value}{l:List (List Int)}(h:lK P w v l)(hs:w.heap.size≤w'.heap.size)(hp:∀k,k<w.heap.size→P k→w'.heap[k]? =w.heap[k]?):lK P w' v l:=by
 obtain⟨oa,cap,h1,h2,h3,h4⟩:=h;refine⟨oa,cap,h1,h2,h3,fun hne=> ?_⟩;obtain⟨b,o,e,hb,hpb,hc⟩:=h4 hne;refine⟨b,o,e,bJ hb hs,hpb,fun i c hi=> ?_⟩;obtain⟨sv,q1,q2,q3⟩:=hc i c hi;exact⟨sv,(Qh hs hp hb hpb).trans q1,q2.fr hs hp,q3⟩
theorem lK.keep {P:Nat→Prop}{w w':World}{v:Value}{l:List (List Int)}(h:lK P w v l)(k:Keep au w w'):lK P w' v l:=h.fr k.size fun n hn _=>k.block n hn fun _ h=>h
theorem IntsIn.mono {P P':Nat→Prop}{w:World}{v:Value}{l:List Int}(h:IntsIn P w v l)(hp:∀k,k<w.heap.size→P k→P' k):IntsIn P' w v l:=by
 obtain⟨oa,cap,h1,h2,h3,h4⟩:=h;exact⟨oa,cap,h1,h2,h3,fun hne=>by obtain⟨b,o,e,hb,hpb,hc⟩:=h4 hne;exact⟨b,o,e,hb,hp b hb hpb,hc⟩⟩
theorem lK.mono {P P':Nat→Prop}{w:World}{v:Value}{l:List (List Int)}(h:lK P w v l)(hp:∀k,k<w.heap.size→P k→P' k):lK P' w v l:=by
 obtain⟨oa,cap,h1,h2,h3,h4⟩:=h;refine⟨oa,cap,h1,h2,h3,fun hne=> ?_⟩;obtain⟨b,o,e,hb,hpb,hc⟩:=h4 hne;exact⟨b,o,e,hb,hp b hb hpb,fun i c hi=>by obtain⟨sv,q1,q2,q3⟩:=hc i c hi;exact⟨sv,q1,q2.mono hp,q3⟩⟩
theorem aR.inn {w:World}{v:Value}{l:List Int}(h:aR w v l):IntsIn (fun k=>k<w.heap.size) w v l:=by
 obtain⟨oa,cap,h1,h2,h3,h4⟩:=h;exact⟨oa,cap,h1,h2,h3,fun hne=>by obtain⟨b,o,e,hb,hc⟩:=h4 hne;exact⟨b,o,e,hb,hb,hc⟩⟩
theorem fM.inn {w:World}{v:Value}{l:List (List Int)}(h:fM w v l):lK (fun k=>k<w.heap.size) w v l:=by
 obtain⟨oa,cap,h1,h2,h3,h4⟩:=h;refine⟨oa,cap,h1,h2,h3,fun hne=> ?_⟩;obtain⟨b,o,e,hb,hc⟩:=h4 hne;exact⟨b,o,e,hb,hb,fun i c hi=>by obtain⟨sv,q1,q2,q3⟩:=hc i c hi;exact⟨sv,q1,q2.inn,q3⟩⟩
structure NR (P:Nat→Prop)(w:World)(b gm:Nat)(vl vw:Value):Prop where
 lt:∀k,P k→k<w.heap.size
 off:∀k,P k→¬VY b gm vl vw k
theorem NR.step {P:Nat→Prop}{w w':World}{b gm:Nat}{vl vw xC Ij:Value}(h:NR P w b gm vl vw)(k:NZ w w' b gm vl vw xC Ij):NR P w' b gm xC Ij:=by
 refine⟨fun n hn=>bJ (h.lt n hn) k.k.size,fun n hn hS=> ?_⟩;have h1:=h.lt n hn;rcases hS with e | e | e | e
 ·exact h.off n hn (.inl e)
 ·exact h.off n hn (.inr (.inl e))
 ·rcases k.l with q | ⟨j,q,hj⟩
  ·exact h.off n hn (.inr (.inr (.inl (q ▸ e))))
  rw [q]at e;cases e;omega
 rcases k.y with q | ⟨j,q,hj⟩
 ·exact h.off n hn (.inr (.inr (.inr (q ▸ e))))
 rw [q]at e;cases e;omega
theorem lK.trt {P:Nat→Prop}{w w':World}{b gm:Nat}{vl vw xC Ij v:Value}{l:List (List Int)}(h:lK P w v l)(ho:NR P w b gm vl vw)(k:NZ w w' b gm vl vw xC Ij):lK P w' v l:=h.fr k.k.size fun n hn hp=>k.k.block n hn (ho.off n hp)
theorem Ws {vars:Nat}{cls:List (List Int)}(h:Cd.ClsOK vars cls)(hv:vars≤1000){c:List Int}(hc:c∈cls):∀x∈c,dA (-x):=fun x hx=>by
 have:=((h c hc).2 x hx).2;unfold dA;omega
def Dp:Option Nat→Int
 | none=> -1
 | some k=>k
theorem Wt {T:List Int}{cls:List (List Int)}{k i:Nat}{f:Option Nat}(hk:cls.length≤k):Cd.scanG T (cls.drop k) i f= .inr f:=by rw [List.drop_eq_nil_of_le hk];rfl
theorem Wu {T:List Int}{cls:List (List Int)}{k i:Nat}{f:Option Nat}(hk:k<cls.length):Cd.scanG T (cls.drop k) i f=if(Cd.stF T cls[k]).1 then .inl i else Cd.scanG T (cls.drop (k+1)) (i+1) (if(Cd.stF T cls[k]).2≠0∧f=none then some i else f):=by
 rw [List.drop_eq_getElem_cons hk];rfl
theorem ZX {T W:List Int}{cls:List (List Int)}{n i:Nat}(h:Cd.scanG T cls 0 none= .inl i):Cd.runF (n+1) cls ⟨T,W⟩=(⟨T,W⟩,(i:Int)):=by
 unfold Cd.runF;simp only [h]
theorem Wv {T W:List Int}{cls:List (List Int)}{n:Nat}(h:Cd.scanG T cls 0 none= .inr none):Cd.runF (n+1) cls ⟨T,W⟩=(⟨T,W⟩,-1):=by
 unfold Cd.runF;simp only [h]
theorem Ww {T W:List Int}{cls:List (List Int)}{n i:Nat}(h:Cd.scanG T cls 0 none= .inr (some i)):Cd.runF (n+1) cls ⟨T,W⟩=Cd.runF n cls ⟨T++ [(Cd.stF T (cls.getD i [])).2],W++ [(i:Int)]⟩:=by
 conv=>lhs;unfold Cd.runF
 simp only [h]
structure RL (vars:Nat)(cls:List (List Int))(t0 t:Cd.Tr)(N n:Nat):Prop where
 eq:Cd.runF N cls t0=Cd.runF n cls t
 good:Cd.GoodT vars t.lits
 why:t.why.length=t.lits.length
 lt:vars<n+t.lits.length
theorem RL.next {vars:Nat}{cls:List (List Int)}(hok:Cd.ClsOK vars cls)(hv:vars≤1000){t0:Cd.Tr}{T W:List Int}{N n k:Nat}(h:RL vars cls t0 ⟨T,W⟩ N (n+1))(hs:Cd.scanG T cls 0 none= .inr (some k))(hk:k<cls.length):
  dA (Cd.stF T cls[k]).2∧T.length≤1000∧W.length≤1000∧RL vars cls t0 ⟨T++ [(Cd.stF T cls[k]).2],W++ [(k:Int)]⟩ N n:=by
 obtain⟨h1,h2,h3⟩:=Cd.scanG_inr hs;have hm:=List.getElem_mem hk;have h5:(Cd.stF T cls[k]).2≠0:=by
  rcases h3 k rfl with q | ⟨-,c,h4,h5⟩
  ·cases q
  rw [Nat.sub_zero,eD hk]at h4;cases h4;exact h5
 obtain⟨u1,u2,u3,u4⟩:=Cd.stF_unit (vars:=vars) (hok _ hm).2 (h1 _ hm) h5;have hr:=((hok _ hm).2 _ u1).2;have hgl:=h.good.le;have hwl:=h.why;have hlt:=h.lt;simp only at hgl hwl hlt;refine⟨by unfold dA;omega,om,om,?_,h.good.push h5 hr u2 u3,by simp [hwl],by simp;omega⟩;rw [h.eq,Ww hs];have e:cls.getD k []=cls[k]:=by rw [dV,eD hk];rfl
 rw [e]
theorem P7 (P:Nat→Prop)(vars:Nat)(w0 w:World)(b gm:Nat)(oc:Option Addr)(cc:Nat)(vl vw:Value)(t:Cd.Tr)(cls:List (List Int))(N:Nat)(h:Dc w0 w b gm (.slice oc cls.length cc) vl vw t)(hP:NR P w b gm vl vw)(hc:lK P w (.slice oc cls.length cc) cls)(hok:Cd.ClsOK vars cls)(hv:vars≤1000)(hg:Cd.GoodT vars t.lits)(hw:t.why.length=t.lits.length)(hN:vars<N+t.lits.length):
  Calls Tryz.prog 173 #[.pointer (some ⟨b,0,none⟩)] w fun e w'=>e= .returned (.int .i64 (Cd.runF N cls t).2)∧∃xC Ij,Dc w0 w' b gm (.slice oc cls.length cc) xC Ij (Cd.runF N cls t).1∧NZ w w' b gm vl vw xC Ij:=by
 have HR:Hid (RL vars cls t t N N):=zh ⟨rfl,hg,hw,hN⟩;have H:=zh h;have HP:=zh hP;have HC:=zh hc;have mg:=zh hok;obtain⟨m,hm⟩:∃m,cls.length=m:=⟨_,rfl⟩;have HM:=zh hm;have hcap:m≤maxLen:=by obtain⟨_,_,e,h1,h2⟩:=hc.cls.len;cases e;omega
 unfold maxLen at hcap;rw [hm]at H HC ⊢;clear h hP hc hok hg hw hN hm;go_enter Tryz.func173,Tryz.ntmps173;go_wp2;go_loopg [] N (fun gk wr=>∃t1 vl1 vw1,Dc w0 wr b gm (.slice oc m cc) vl1 vw1 t1∧NZ w wr b gm vl vw vl1 vw1∧RL vars cls t t1 N gk)
 case atStart=>exact⟨t,vl,vw,H.out,NZ.refl _ _ _ _ _,HR.out⟩
 obtain⟨⟨T,W⟩,vl1,vw1,hl,ht,hr⟩:=hrel;obtain⟨n,rfl⟩:∃n,gk=n+1:=by
  rcases gk with _ | n
  ·have h1:=hr.good.le;have h2:=hr.lt;simp only at h1 h2;omega
  exact⟨n,rfl⟩
 have HL:=zh hl;have HT:=zh ht;have HR1:=zh hr;have HO:=zh (HP.out.step ht);have Rp:=zh (HC.out.trt HP.out ht);have c0:=cell_of_heap (o:=0) hl.tb rfl;have hb:=lt_of_heap hl.tb;clear hl ht hr H HR;obtain⟨w1,hw1⟩:∃W:World,W=wr:=⟨_,rfl⟩;subst hw1;go_wp2;go_loopw [15,3] (fun s f wr=>∃(k:Nat) (g:Option Nat),k≤m∧s= .int .i64 k∧f= .int .i64 (Dp g)∧wr=w1∧Cd.scanG T cls 0 none=Cd.scanG T (cls.drop k) k g∧(∀j,g=some j→j<m)) (fun s _ _=>(m-intOf s).toNat)
 case atStart=>exact⟨0,none,om,rfl,rfl,rfl,rfl,fun j h=>by cases h⟩
 obtain⟨k,g,hk,rfl,rfl,hwr,hsc,hgm⟩:=hrel;have hwr:w1=wr:=hwr.symm;subst hwr;have HSC:=zh hsc;have HGM:=zh hgm;clear hsc hgm;by_cases hkl:k<m
 case pos=>
  have hlt:(k:Int)<(m:Int):=om;have hkc:k<cls.length:=by rw [HM.out];exact hkl
  obtain⟨bc,fc,ol,cl,rfl,hbc,p0,hints,_⟩:=Rp.out.cls.at hkc;have CS:=fun w' (e:w'=w1)=>zh (FP w0 w' b gm _ _ _ ⟨T,W⟩ (e ▸ HL.out) _ _ (e ▸ hints) (Ws mg.out hv (List.getElem_mem hkc)));have HST:=zh (HSC.out.trans (Wu hkc));simp only at CS;generalize Cd.stF T cls[k]=r at *;obtain⟨r1,r2⟩:=r;simp only at HST CS;have CS:=CS w1 rfl;clear HSC hints;go_wp2_with fail;refine CS.out.mono ?_;rintro e w2 ⟨rfl,hw2⟩;subst hw2;cases r1
  case true=>
   have HE:Hid (Cd.runF N cls t=(⟨T,W⟩,(k:Int))):=zh (HR1.out.eq.trans (ZX (HST.out.trans (by rw [if_pos rfl]))));clear HST CS;go_wp2;refine bodyPost_ret (by simp [results,Tryz.results173,go_sem];rfl) rfl ?_;rw [HE.out];exact⟨rfl,vl1,vw1,HL.out,HT.out⟩
  clear CS;by_cases hr2:r2=0
  case pos=>
   subst hr2;have HE:Hid (Cd.scanG T cls 0 none=Cd.scanG T (cls.drop (k+1)) (k+1) g):=zh (HST.out.trans (by rw [if_neg dc];simp));clear HST;go_wp2;go_roundw
   case rel=>exact⟨k+1,g,om,gn,rfl,by trivial,HE.out,HGM.out⟩
   simp [intOf];omega
  have e1:(r2 != 0)=true:=by rw [bne_iff_ne];exact hr2
  rcases g with _ | j
  ·have HE:Hid (Cd.scanG T cls 0 none=Cd.scanG T (cls.drop (k+1)) (k+1) (some k)):=zh (HST.out.trans (by rw [if_neg dc];simp [hr2]));have hfi:Dp none= -1:=rfl;rw [hfi];clear HST hr2 HGM hfi;go_wp2;go_roundw
   case rel=>exact⟨k+1,some k,om,gn,rfl,by trivial,HE.out,fun j h=>by cases h;omega⟩
   simp [intOf];omega
  have HE:Hid (Cd.scanG T cls 0 none=Cd.scanG T (cls.drop (k+1)) (k+1) (some j)):=zh (HST.out.trans (by rw [if_neg dc];simp));have hfi:Dp (some j)=(j:Int):=rfl;rw [hfi];have hj0:¬(j:Int)<0:=om;clear HST hr2 hfi;go_wp2;go_roundw
  case rel=>exact⟨k+1,some j,om,gn,rfl,by trivial,HE.out,HGM.out⟩
  simp [intOf];omega
 have hlt:¬(k:Int)<(m:Int):=om;have HS:=zh (HSC.out.trans (Wt (by rw [HM.out];omega)));clear HSC;rcases g with _ | j
 ·have HE:Hid (Cd.runF N cls t=(⟨T,W⟩,-1)):=zh (HR1.out.eq.trans (Wv HS.out));have hfi:Dp none= -1:=rfl;rw [hfi];clear HS HGM hfi;go_wp2;refine bodyPost_ret (by simp [results,Tryz.results173,go_sem];rfl) rfl ?_;rw [HE.out];exact⟨rfl,vl1,vw1,HL.out,HT.out⟩
 have hjm:j<m:=HGM.out j rfl;have hjc:j<cls.length:=by rw [HM.out];exact hjm
 have hjI:(j:Int)<(m:Int):=om;have hj0:¬(j:Int)<0:=om;have hfi:Dp (some j)=(j:Int):=rfl;rw [hfi];obtain⟨hl64,hT1,hW1,hnx⟩:=RL.next mg.out hv HR1.out HS.out hjc;obtain⟨bc,fc,ol,cl,rfl,hbc,p0,hints,_⟩:=Rp.out.cls.at hjc;have CS:=zh (FP w0 w1 b gm _ _ _ ⟨T,W⟩ HL.out _ _ hints (Ws mg.out hv (List.getElem_mem hjc)));simp only at CS;generalize Cd.stF T cls[j]=r at *;obtain⟨r1,r2⟩:=r;simp only at hl64 hnx CS;have lY:=zh hnx;have CA:=zh (Kq w0 w1 b gm _ _ _ ⟨T,W⟩ HL.out r2 j hl64 (by simp only;omega) (by simp only;omega))
 clear hints hnx hfi HS hl64 HGM;go_wp2_with fail;refine CS.out.mono ?_;rintro e w2 ⟨rfl,hw2⟩;subst hw2;clear CS;go_wp2_with fail;refine CA.out.mono ?_;rintro e w3 ⟨rfl,vl2,vw2,hl3,ht3⟩;have Wx:=zh hl3;have HT3:=zh (HT.out.step ht3);clear hl3 ht3 CA;go_wp2;go_roundg n
 case measure=>omega
 exact⟨_,vl2,vw2,Wx.out,HT3.out,lY.out⟩
theorem Dc.offW {w w':World}{b gm:Nat}{vc vl vw:Value}{t:Cd.Tr}(h:Dc w w' b gm vc vl vw t):NR (fun k=>k<w.heap.size) w' b gm vl vw:=by
 refine⟨fun k hk=>bJ hk h.k.size,fun k hk hS=> ?_⟩;have hk:k<w.heap.size:=hk;rcases hS with e | e | e | e
 ·have:=h.hb;omega
 ·have:=h.hm;omega
 ·have:=h.l.block k e;omega
 have:=h.y.block k e;omega
theorem RN {l:List Int}{k:Nat}(hk:k<l.length):Sv.negF (l.take (k+1))=Sv.negF (l.take k)++ [-l[k]]:=by
 unfold Sv.negF;rw [List.take_succ_eq_append_getElem hk,List.map_append];rfl
theorem AA (w:World)(v:Value)(l:List Int)(h:aR w v l)(hl:l.length≤1000)(hn:∀x∈l,dA (-x)):
  Calls Tryz.prog 158 #[v] w fun e w'=>∃v',e= .returned v'∧bC w' w.heap.size v' (Sv.negF l)∧Keep au w w':=by
 have H:=zh h;have HN:=zh hn;obtain⟨oa,ca,rfl,_⟩:=h.len;clear h hn;go_enter Tryz.func158,Tryz.ntmps158;go_wp2;go_loopw [8,3] (fun s a wr=>∃k:Nat,k≤l.length∧s= .int .i64 k∧bC wr w.heap.size a (Sv.negF (l.take k))∧Keep au w wr) (fun s _ _=>(l.length-intOf s).toNat)
 case atStart=>exact⟨0,om,rfl,bC.nil _ _,kp⟩
 obtain⟨k,hk,rfl,ho,hkr⟩:=hrel;have HO:=zh ho;have KR:=zh hkr;obtain⟨ao,ac,rfl⟩:=ho.len;clear ho hkr;by_cases hkl:k<l.length
 case neg=>
  have hlt:¬(k:Int)<(l.length:Int):=om;have HE:Hid (bC wr w.heap.size (.slice ao (Sv.negF (l.take k)).length ac) (Sv.negF l)):=zh (by have:=HO.out;rwa [List.take_of_length_le (show l.length≤k from om)]at this ⊢);clear HO;go_wp2;go_ret;exact⟨_,rfl,HE.out,KR.out⟩
 have hlt:(k:Int)<(l.length:Int):=om;obtain⟨bc,fc,cap,hv,hbc,p0⟩:=H.out.at hkl;injection hv with q1 q2 q3;clear q2;subst q1;subst q3;have p0:=(KR.out.cell hbc).trans p0;have hbr:=bJ hbc KR.out.size;have hx1:=H.out.all _ (List.getElem_mem hkl);have hx2:=HN.out _ (List.getElem_mem hkl);have HT:=zh (RN hkl);have hnl:(Sv.negF (l.take k)).length=k:=by simp [Sv.negF];omega
 generalize l[k]=x at *;generalize Sv.negF (l.take k)=acc at *;have ka:Keep au wr (wr.alloc (.cells #[.int .i64 (-x)] TI)):=(Keep.refl _ _).alloc _;have KA:=zh (KR.out.both ka);obtain⟨v',w',hr,ho',hg,_⟩:=ni (HO.out.keep ka) (b:=wr.heap.size) (aN _ _ rfl) om KA.out.size;have NW:=zh ho';have K':=zh (KA.out.grown hg fun j hj=>HO.out.block j hj);clear ka ho' hg HO;unfold dA at hx1 hx2;go_wp2_with (at_builtin;refine aV _ _ 22 _ _ rfl rfl rfl rfl hr ?_);go_roundw
 case rel=>exact⟨k+1,om,gn,by rw [HT.out];exact NW.out,K'.out⟩
 simp [intOf];omega
theorem Oa (vars:Nat)(w:World)(oc:Option Addr)(cc:Nat)(cls:List (List Int))(va:Value)(A:List Int)(hc:fM w (.slice oc cls.length cc) cls)(ha:aR w va A)(hok:Cd.ClsOK vars cls)(hv:vars≤1000)(hg:Cd.GoodT vars A):
  Calls Tryz.prog 157 #[.slice oc cls.length cc,va] w fun e w'=>∃b,e= .returned (.tuple #[.pointer (some ⟨b,0,none⟩),.int .i64 (Cd.runF (vars+1) cls ⟨A,A.map fun _=> -1⟩).2])∧Keep au w w':=by
 have HC:=zh hc;have HA:=zh ha;have mg:=zh hok;have HG:=zh hg;have hal:=hg.le;have CN:=zh (Qg w oc cls.length cc);obtain⟨oa,ca,rfl,_⟩:=ha.len;clear hc ha hok hg;go_enter Tryz.func157,Tryz.ntmps157;go_wp2_with fail;refine CN.out.mono ?_;rintro e w1 ⟨b,gm,rfl,hl⟩;have HL:=zh hl;clear hl CN;go_wp2;go_loopw [13] (fun s wr=>∃(k:Nat) (vl vw:Value),k≤A.length∧s= .int .i64 k∧Dc w wr b gm (.slice oc cls.length cc) vl vw ⟨A.take k,(A.take k).map fun _=> -1⟩) (fun s _=>(A.length-intOf s).toNat)
 case atStart=>exact⟨0,_,_,om,rfl,HL.out⟩
 obtain⟨k,vl,vw,hk,rfl,hl⟩:=hrel;have HL:=zh hl;clear hl;by_cases hkl:k<A.length
 case neg=>
  have hlt:¬(k:Int)<(A.length:Int):=om;have HL2:Hid (Dc w wr b gm (.slice oc cls.length cc) vl vw ⟨A,A.map fun _=> -1⟩):=zh (by have:=HL.out;rwa [List.take_of_length_le (show A.length≤k from om)]at this);have CR:=zh (P7 _ vars w wr b gm oc cc vl vw _ cls (vars+1) HL2.out HL2.out.offW (HC.out.inn.keep HL2.out.k) mg.out hv HG.out sm (by simp only;omega));clear HL;go_wp2_with fail;refine CR.out.mono ?_;rintro e w3 ⟨rfl,vl3,vw3,hl3,ht3⟩;have K3:=zh hl3.k;clear hl3 ht3 CR;go_wp2;refine bodyPost_ret (by simp [results,Tryz.results157,go_sem];rfl) rfl ?_;exact⟨b,rfl,K3.out⟩
 have hlt:(k:Int)<(A.length:Int):=om;obtain⟨bc,fc,cap,hv',hbc,p0⟩:=HA.out.at hkl;injection hv' with q1 q2 q3;clear q2;subst q1;subst q3;have p0:=(HL.out.k.cell hbc).trans p0;have hbr:=bJ hbc HL.out.k.size;have hx1:=HA.out.all _ (List.getElem_mem hkl);have CA:=zh (Kq w wr b gm _ _ _ _ HL.out A[k] (-1) hx1 (by simp;omega) (by simp;omega));have HT:Hid (A.take (k+1)=A.take k++ [A[k]]):=zh (List.take_succ_eq_append_getElem hkl);have HT2:Hid ((A.take (k+1)).map (fun _=>(-1:Int))=(A.take k).map (fun _=>(-1:Int))++ [-1]):=zh (by rw [HT.out,List.map_append];rfl);generalize A[k]=x at *;clear hx1;go_wp2_with fail;refine CA.out.mono ?_;rintro e w3 ⟨rfl,vl3,vw3,hl3,ht3⟩;have Wx:=zh hl3;clear hl3 ht3 CA;go_wp2;go_roundw
 case rel=>exact⟨k+1,vl3,vw3,om,gn,by rw [HT2.out,HT.out];exact Wx.out⟩
 simp [intOf];omega
theorem RO (vars:Nat)(w:World)(oc:Option Addr)(cc:Nat)(cls:List (List Int))(va:Value)(c:List Int)(hc:fM w (.slice oc cls.length cc) cls)(ha:aR w va c)(hok:Cd.ClsOK vars cls)(hv:vars≤1000)(zbL:(c.map Int.natAbs).Nodup∧∀l∈c,l≠0∧l.natAbs≤vars):
  Calls Tryz.prog 96 #[.slice oc cls.length cc,va] w fun e w'=>e= .returned (.bool (Sv.fallsF vars cls c))∧Keep au w w':=by
 have hg:=Sv.neg_good zbL;have hgl:=hg.le;have hl1:c.length≤1000:=by unfold Sv.negF at hgl;rw [List.length_map]at hgl;omega
 have HC:=zh hc;have CN:=zh (AA w va c ha hl1 fun x hx=>by have:=(zbL.2 x hx).2;unfold dA;omega);have CA:=zh (fun w' (k:Keep au w w') va' (h:aR w' va' (Sv.negF c))=>Oa vars w' oc cc cls va' (Sv.negF c) (hc.keep k) h hok hv hg);have HG:=zh (fun x (hx:x∈Sv.negF c)=>(hg.2 x hx).2);have HE:Hid ((Sv.negF c).map (fun _=>(-1:Int))=c.map fun _=>(-1:Int)):=zh (by simp [Sv.negF]);obtain⟨oa,ca,rfl,_⟩:=ha.len;have HF:Hid (Sv.fallsF vars cls c=decide (0≤(Cd.runF (vars+1) cls ⟨Sv.negF c,c.map fun _=> -1⟩).2)):=zh (by
  unfold Sv.fallsF;refine decide_eq_decide.2 ?_;have R:=Cd.run_told hok (vars+1) ⟨Sv.negF c,c.map fun _=> -1⟩ hg (Sv.why_neg cls c) om;constructor
  ·intro h;obtain⟨k,hk,_⟩:=R.bad h;omega
  intro h e;omega)
 rw [HF.out];rw [HE.out]at CA;generalize (Cd.runF (vars+1) cls ⟨Sv.negF c,c.map fun _=> -1⟩).2=z at*;generalize Sv.negF c=nc at *;clear hc ha hok zbL hg hgl HF HE;go_enter Tryz.func96,Tryz.ntmps96;go_wp2_with fail;refine CN.out.mono ?_;rintro e w1 ⟨v',rfl,ho,hk⟩;have HI:=zh (ho.ints fun x hx=>by have:=HG.out x hx;unfold dA;omega);have K1:=zh hk;obtain⟨MP,ca',rfl⟩:=ho.len;clear ho hk CN;have CA:=zh (CA.out w1 K1.out _ HI.out);go_wp2_with fail;refine CA.out.mono ?_;rintro e w2 ⟨b,rfl,hk⟩;have K2:=zh (K1.out.both hk);clear hk CA;go_wp2;go_ret;exact⟨rfl,K2.out⟩
end Go.Proofs.YtmepglhdcphffaaGreat
