/- Chapter 27: Play: the program's. -/
import Derived.Test.YtfamifgchgolpaaGreatEx
import Derived.Test.YtfamifgchgolpaaGreatEc
import Derived.Test.YtfamifgchgolpaaGreatEg
set_option linter.unusedVariables false
set_option linter.unusedSimpArgs false
set_option maxRecDepth 100000
set_option maxHeartbeats 16000000
namespace Go.Proofs.YtfamifgchgolpaaGreat
open Go Go.RowKit Go.Sort Go.Shelf Go.Maps
namespace Tx
open Sw Mm Pl
def boolE(b:Bool):List Value:= [.bool b]
theorem boolE_len(b:Bool):(boolE b).length=1:=rfl
theorem info_bool:(Tryz.prog.info? 4).map (fun i=>(i.zero,i.size,i.bytes))=some (some (.bool false),1,1):=by kernel_rfl
theorem eltB:Elt Tryz.prog boolE 1 64 4:=⟨boolE_len,by decide,fun x v hv=>by
 simp only[boolE,List.mem_singleton]at hv
 subst hv
 rfl,Tryz.underlying64,by
 obtain⟨i,h1,h2,h3,h4⟩:=info_parts info_bool
 exact⟨i,_,h1,h2,h3,by omega,rfl⟩⟩
def wshE(x:Wsh):List Value:= [.bool x.other,.int .i64 x.kind,.int .i64 x.count,.bool x.fate.request,.bool x.fate.reply,.bool x.fate.requestAck,.bool x.fate.replyAck]
theorem wshE_len(x:Wsh):(wshE x).length=7:=rfl
abbrev WshS:= @Sls Wsh _ wshE 7
theorem wsInfo:(Tryz.prog.info? 42).map (fun i=>(i.zero,i.size,i.bytes))=some (some (.agg #[.bool false,.int .i64 0,.int .i64 0,.bool false,.bool false,.bool false,.bool false]),7,32):=by kernel_rfl
theorem zws:(Tryz.prog.info? 42).map (·.size)=some 7:=by kernel_rfl
theorem wsh_range {w:World} {b off n:Nat} {xs:List Wsh}(h:WshS w (some ⟨b,off,none⟩) n xs) {i:Nat}(hi:i<n):w.rangeAt b (off+i*7) (wshE (xs.getD i default)):=fun j v hv=>by
 have hj:j<7:=by
  have:=(List.getElem?_eq_some_iff.1 hv).1
  rwa[wshE_len]at this
 rw[(h.cells hi).2 j hj,hv]
theorem Stb.row {F:World→Prop}(hFs:Stb F) {w w':World}(hF:F w) {base s n:Nat} {e:TypeId} {v:Value} {xs:List Value}(ho:w.ownsRow base e s v n xs)(h1:e≠97)(h2:e≠85)(hg:w.grownBy w' v.ownBlock):F w':=by
 rcases ho.2 with⟨rfl,_⟩|⟨g,c,cur,rfl,_,hg2,_⟩
 ·exact hFs.keep hF ((Below.refl w.heap.size w).grown hg (Nat.le_refl _) (fun k e=>by simp[Value.ownBlock]at e))
 ·exact hFs.put hF (B:=g) ⟨hg2⟩ h1 h2 hg
structure EdX(w0:World)(v:EdV)(e:Ed)(w:World):Prop where
 cells:∃b,w.ownsRow b 85 6 (.slice v.cA v.cn v.cc) v.cn (e.cells.flatMap tclE)
 lc:e.cells.length=v.cn
 asked:MsgOwn w v.a e.asked∨MsgIs w0 v.a e.asked
 last:MsgOwn w v.l e.last∨MsgIs w0 v.l e.last
 reply:MsgOwn w v.r e.reply∨MsgIs w0 v.r e.reply
theorem EdX.is {w0 w:World} {v:EdV} {e:Ed}(h:EdX w0 v e w)(hb:Below w0.heap.size w0 w):EdIs w v e:=by
 obtain⟨⟨b,hc⟩,lc,ha,hl,hr⟩:=h
 exact⟨(Sls.of_owns tclE_len hc lc).2,own_cap hc,ha.elim (·.is) (·.keep hb),hl.elim (·.is) (·.keep hb),hr.elim (·.is) (·.keep hb)⟩
theorem Stb.edX(w0:World)(v:EdV)(e:Ed):Stb (EdX w0 v e):=⟨fun h hb=>by
 obtain⟨⟨b,hc⟩,lc,ha,hl,hr⟩:=h
 exact⟨⟨b,owns_keep hc hb⟩,lc,ha.imp (·.keep hb) id,hl.imp (·.keep hb) id,hr.imp (·.keep hb) id⟩,fun h hB h1 h2 hg=>by
 obtain⟨⟨b,hc⟩,lc,ha,hl,hr⟩:=h
 exact⟨⟨b,hc.kept hg (.inr (row_ne_blk hc hB h2.symm))⟩,lc,ha.imp (·.put hB h1 hg) id,hl.imp (·.put hB h1 hg) id,hr.imp (·.put hB h1 hg) id⟩⟩
theorem EdX.zero(w0 w:World):EdX w0 edV0 ed0 w:=⟨⟨0,World.ownsRow_nil _ _ _ _⟩,rfl,.inr (MsgIs.zero _),.inr (MsgIs.zero _),.inr (MsgIs.zero _)⟩
theorem EdW.clone {w0 w:World} {v:EdV} {e:Ed}(h:EdW w0 v e w) {A:Option Addr} {n c b:Nat}(hL:w.ownsRow b 85 6 (.slice A n c) n (e.cells.flatMap tclE))(hl:e.cells.length=n):EdX w0 { v with cA:=A,cn:=n,cc:=c} e w:=by
 rcases h with h|h
 ·exact⟨⟨b,hL⟩,hl,.inl h.asked,.inl h.last,.inl h.reply⟩
 ·exact⟨⟨b,hL⟩,hl,.inr h.asked,.inr h.last,.inr h.reply⟩
def PlPost(E1 E2:Ed)(out:List Bool)(err:Int)(w:World)(r:Ending)(w':World):Prop:=∃v1 v2 A n c,r= .returned (.tuple #[.agg (endA E1 v1),.agg (endA E2 v2),.slice A n c,.int .i64 err])∧EdX w v1 E1 w'∧EdX w v2 E2 w'∧(∃b,w'.ownsRow b 4 1 (.slice A n c) n (out.flatMap boolE))∧out.length=n∧Below w.heap.size w w'
def TclOwn(A:Option Addr)(n c:Nat)(xs:List TCl)(w:World):Prop:=∃b,w.ownsRow b 85 6 (.slice A n c) n (xs.flatMap tclE)
theorem Stb.tcl(A:Option Addr)(n c:Nat)(xs:List TCl):Stb (TclOwn A n c xs):=⟨fun⟨b,h⟩ hb=>⟨b,owns_keep h hb⟩,fun⟨b,h⟩ hB _ h2 hg=>⟨b,h.kept hg (.inr (row_ne_blk h hB h2.symm))⟩⟩
theorem EdW.clone2 {w0 w:World} {v:EdV} {e:Ed}(h:EdW w0 v e w) {A:Option Addr} {c:Nat}(hL:TclOwn A v.cn c e.cells w)(hl:e.cells.length=v.cn):EdX w0 { v with cA:=A,cc:=c} e w:=by
 obtain⟨b,hL⟩:=hL
 exact h.clone hL hl
theorem take_wsh {l:List Wsh} {k:Nat}(h:k<l.length):l.take (k+1)=l.take k++ [l.getD k default]:=by
 rw[List.take_succ_eq_append_getElem h,List.getD_eq_getElem?_getD,List.getElem?_eq_getElem h];rfl
def playE(a b:Ed)(ta tb:Tab)(f:List Int)(l:List Wsh):Ed×Ed:=if playC a b ta tb l=0 then wishesN ta tb f l a b else(ed0,ed0)
def playB(a b:Ed)(ta tb:Tab)(f:List Int)(l:List Wsh):List Bool:=if playC a b ta tb l=0 then boolsN ta tb f l a b else []
theorem play_any(a b:Ed)(ta tb:Tab)(f:List Int)(l:List Wsh)(va vb:EdV)(vta vtb:TabV)(A Al:Option Addr)(nf cf n cl:Nat)(w:World)(h1:EdIs w va a)(h2:EdIs w vb b)(t1:TabIs w vta ta)(t2:TabIs w vtb tb)(hf:IntS w A nf f)(hl:WshS w Al n l)(hsmall:idleC a b ta tb=0→Small2 ta∧Small2 tb):Calls Tryz.prog 26 #[.agg (endA a va),.agg (endA b vb),.agg (tabA ta vta),.agg (tabA tb vtb),.slice A nf cf,.slice Al n cl] w (PlPost (playE a b ta tb f l).1 (playE a b ta tb f l).2 (playB a b ta tb f l) (playC a b ta tb l) w):=by
 have HM:=Zh (Mem.start w)
 obtain⟨F0,hFs,hF⟩:∃F:World→Prop,Stb F∧Hid (F w):=⟨_,Stb.true,trivial⟩
 have uE:=Tryz.underlying32
 have uT:=Tryz.underlying37
 have uM:=Tryz.underlying30
 have uS:=Tryz.underlying128
 have uX:=Tryz.underlying134
 have uY:=Tryz.underlying40
 have uW:=Tryz.underlying42
 have hlen:=hl.len
 have hsm:=hl.small
 unfold maxLen at hsm
 have hC:playC a b ta tb l=if idleC a b ta tb≠0 then idleC a b ta tb else if 4096<l.length then 8 else 0:=rfl
 rw[hlen]at hC
 have hE:playE a b ta tb f l=if playC a b ta tb l=0 then wishesN ta tb f l a b else(ed0,ed0):=rfl
 have hB:playB a b ta tb f l=if playC a b ta tb l=0 then boolsN ta tb f l a b else []:=rfl
 have cK:=fun W (hb:Below w.heap.size w W)=>check_any a b ta tb va vb vta vtb W (h1.keep hb) (h2.keep hb) (t1.keep hb) (t2.keep hb)
 generalize hP:PlPost (playE a b ta tb f l).1 (playE a b ta tb f l).2 (playB a b ta tb f l) (playC a b ta tb l) w=P
 have hPb:∀c W,playC a b ta tb l=c→c≠0→Below w.heap.size w W→P (.returned (.tuple #[.agg #[.int .i64 0,.int .i64 0,.int .i64 0,.slice none 0 0,.bool false,.int .i64 0,.int .i64 0,.bool false,.int .i64 0,.int .i64 0,.int .i64 0,.slice none 0 0,.slice none 0 0,.bool false,.int .i64 0,.bool false,.int .i64 0,.int .i64 0,.int .i64 0,.slice none 0 0,.slice none 0 0,.int .i64 0,.bool false,.int .i64 0,.int .i64 0,.int .i64 0,.slice none 0 0,.slice none 0 0],.agg #[.int .i64 0,.int .i64 0,.int .i64 0,.slice none 0 0,.bool false,.int .i64 0,.int .i64 0,.bool false,.int .i64 0,.int .i64 0,.int .i64 0,.slice none 0 0,.slice none 0 0,.bool false,.int .i64 0,.bool false,.int .i64 0,.int .i64 0,.int .i64 0,.slice none 0 0,.slice none 0 0,.int .i64 0,.bool false,.int .i64 0,.int .i64 0,.int .i64 0,.slice none 0 0,.slice none 0 0],.slice none 0 0,.int .i64 c])) W:=fun c W e hc hb=>by
  rw[←hP,hE,hB,e,if_neg hc,if_neg hc]
  exact⟨edV0,edV0,none,0,0,rfl,EdX.zero _ _,EdX.zero _ _,⟨0,World.ownsRow_nil _ _ _ _⟩,rfl,hb⟩
 have hPo:∀x y vx vy A9 n9 c9 b9 bs W,playC a b ta tb l=0→wishesN ta tb f l a b=(x,y)→boolsN ta tb f l a b=bs→EdX w vx x W→EdX w vy y W→W.ownsRow b9 4 1 (.slice A9 n9 c9) n9 (bs.flatMap boolE)→bs.length=n9→Below w.heap.size w W→P (.returned (.tuple #[.agg (endA x vx),.agg (endA y vy),.slice A9 n9 c9,.int .i64 0])) W:=fun x y vx vy A9 n9 c9 b9 bs W e e1 e2 q1 q2 q3 q4 hb=>by
  rw[←hP,hE,hB,e,if_pos rfl,if_pos rfl,e1,e2]
  exact⟨vx,vy,A9,n9,c9,rfl,q1,q2,⟨b9,q3⟩,q4,hb⟩
 clear hP hE hB
 have hLen:idleC a b ta tb=0→∀x y,wishesN ta tb f l a b=(x,y)→x.cells.length≤512∧y.cells.length≤512:=fun h x y e=>by
  obtain⟨q1,q2⟩:=hsmall h
  have hI:=(wishes_keep (f:=f) q1 q2 l (idleC_iff.1 h)).1
  rw[e]at hI
  exact⟨hI.fa.ed.cells.len,hI.fb.ed.cells.len⟩
 clear hsmall
 generalize playC a b ta tb l=XC at*
 generalize idleC a b ta tb=IC at*
 replace cK:=Zh cK
 replace hC:=Zh hC
 replace hPb:=Zh hPb
 replace hPo:=Zh hPo
 replace hLen:=Zh hLen
 replace h1:=Zh h1
 replace h2:=Zh h2
 replace t1:=Zh t1
 replace t2:=Zh t2
 replace hf:=Zh hf
 replace hl:=Zh hl
 replace hlen:=Zh hlen
 replace uE:=Zh uE
 replace uT:=Zh uT
 replace uM:=Zh uM
 replace uS:=Zh uS
 replace uX:=Zh uX
 replace uY:=Zh uY
 replace uW:=Zh uW
 go_enter Tryz.func26,Tryz.ntmps26
 have mk1:Unit:=()
 have mk2:Unit:=()
 have mk3:Unit:=()
 have mk4:Unit:=()
 have mk5:Unit:=()
 have mk6:Unit:=()
 go_upto_region 1 with(first|go_skip|(clear mk1;refine hFs.b HM hF 32 ?_;clear HM hF;intro ga w1 HM hF)|(clear mk2;refine hFs.b HM hF 32 ?_;clear HM hF;intro gb w1 HM hF)|(clear mk3;refine hFs.b HM hF 37 ?_;clear HM hF;intro gta w1 HM hF)|(clear mk4;refine hFs.b HM hF 37 ?_;clear HM hF;intro gtb w1 HM hF)|(clear mk5;refine hFs.a HM hF edInfo ?_;clear HM hF;intro g12 w1 HM hF)|(clear mk6;refine hFs.a HM hF edInfo ?_;clear HM hF;intro g13 w1 HM hF)|fail)
 replace hF:=Zh (hFs.keep hF.out ((Below.refl _ _).drew))
 replace HM:=Zh (HM.out.keep ((Below.refl _ _).drew))
 have HMs:=Zh HM.out
 refine wp_region_pt (fun w'=>Mem _ w' _) 9 (.take 0 (.take 1 (.take 2 (.take 3 (.take 4 (.take 5 (.fork 6 (.only 7 (.only 8 .done)) 7 (.only 6 (.only 8 .done))))))))) (by kernel_rfl) (by kernel_rfl) HMs.out ?_
 clear HMs
 generalize World.drew _=wd at*
 refine ptTake (by rfl) (yields_memw rfl _ _ rfl 5 (fun w_ hSw=>hSw) rfl rfl _ uE.out rfl (by exact zend)) ?_
 try go_frame
 refine ptTake (by rfl) (yields_memw rfl _ _ rfl 3 (fun w_ hSw=>hSw) rfl rfl _ uT.out rfl (by exact ztab)) ?_
 try go_frame
 refine ptPure (v:= .agg (sideA a va ta vta)) rfl rfl (fun w_ _=>by kernel_rfl) ?_
 try go_frame
 refine ptTake (by rfl) (yields_memw rfl _ _ rfl 4 (fun w_ hSw=>hSw) rfl rfl _ uE.out rfl (by exact zend)) ?_
 try go_frame
 refine ptTake (by rfl) (yields_memw rfl _ _ rfl 2 (fun w_ hSw=>hSw) rfl rfl _ uT.out rfl (by exact ztab)) ?_
 try go_frame
 refine ptPure (v:= .agg (sideA b vb tb vtb)) rfl rfl (fun w_ _=>by kernel_rfl) ?_
 try go_frame
 refine ptFork rfl rfl rfl rfl (fun K hK=> ?f1) (fun K hK=> ?f2)
 case' f1=>
  go_wp2_with(first|(refine hFs.a HM hF sdInfo ?_;clear HM hF;intro g20 w1 HM hF)|fail)
  refine hK.out _ _ HM.out.tail fun hS_=> ?_
  clear hK K hS_
  try go_frame
  refine ptOnly rfl rfl fun K hK=> ?_
  go_wp2_with(first|(refine hFs.a HM hF sdInfo ?_;clear HM hF;intro g21 w1 HM hF)|fail)
  refine hK.out _ _ (HM.out.tail.tail) fun hS_=> ?_
  clear hK K hS_
  try go_frame
  refine ptOnly rfl rfl fun K hK=> ?_
  go_wp2_with(first|(refine hFs.s 1 HM hF ?_;clear HM hF;intro w4 HM hF;simp only[List.set]at HM)|fail)
  refine hK.out _ _ (HM.out.tail.tail) fun hS_=> ?_
  clear hK K hS_
  try go_frame
  refine ptDone ?_
  simp only[List.drop]
  replace HM:=Zh HM.out.swap2
 case' f2=>
  go_wp2_with(first|(refine hFs.a HM hF sdInfo ?_;clear HM hF;intro g21 w1 HM hF)|fail)
  refine hK.out _ _ HM.out.tail fun hS_=> ?_
  clear hK K hS_
  try go_frame
  refine ptOnly rfl rfl fun K hK=> ?_
  go_wp2_with(first|(refine hFs.a HM hF sdInfo ?_;clear HM hF;intro g20 w1 HM hF)|fail)
  refine hK.out _ _ (HM.out.tail.tail) fun hS_=> ?_
  clear hK K hS_
  try go_frame
  refine ptOnly rfl rfl fun K hK=> ?_
  go_wp2_with(first|(refine hFs.s 0 HM hF ?_;clear HM hF;intro w4 HM hF;simp only[List.set]at HM)|fail)
  refine hK.out _ _ (HM.out.tail.tail) fun hS_=> ?_
  clear hK K hS_
  try go_frame
  refine ptDone ?_
  simp only[List.drop]
 all_goals
  go_upto_region 2 with(first|go_skip|(refine hFs.s 1 HM hF ?_;clear HM hF;intro w4 HM hF;simp only[List.set]at HM)|fail)
  have mk7:Unit:=()
  go_upto_region 3 with(first|go_skip|(refine lG 0 HM uS.out ?_)|(refine lG 1 HM uS.out ?_)|(go_at_call 87;clear mk7;refine hFs.k HM hF (cK.out _ HM.out.below) ?_;clear HM hF;intro w3 HM hF;dsimp only)|fail)
  by_cases e1:IC=0
  case neg=>
   have d1:(IC !=0)=true:=by rw[bne_iff_ne];exact e1
   have hX1:=Zh (hC.out.trans (if_pos e1))
   replace e1:=Zh e1
   go_wp2_with(first|go_skip|(refine hFs.s 3 HM hF ?_;clear HM hF;intro w4 HM hF;simp only[List.set]at HM)|(refine hFs.s 2 HM hF ?_;clear HM hF;intro w4 HM hF;simp only[List.set]at HM)|fail)
   try simp only[Exit.inBlock,Exit.then]
   refine bodyPost_ret (results_cctt rfl (HM.out.at_ 3 rfl) (HM.out.at_ 2 rfl) rfl rfl _ uE.out rfl (by exact zend) _ uE.out rfl (by exact zend)) rfl ?_
   exact hPb.out _ _ hX1.out e1.out HM.out.below
  subst e1
  replace hLen:=Zh (hLen.out rfl)
  replace hC:=Zh (hC.out.trans (if_neg (fun h=>h rfl)))
  clear cK
  go_upto_region 5 with fail
  by_cases e2:(4096:Int)<(n:Int)
  case pos=>
   have hX1:=Zh (hC.out.trans (if_pos (by omega)))
   have e3:4096<n:=by omega
   go_wp2_with(first|go_skip|(refine hFs.s 3 HM hF ?_;clear HM hF;intro w4 HM hF;simp only[List.set]at HM)|(refine hFs.s 2 HM hF ?_;clear HM hF;intro w4 HM hF;simp only[List.set]at HM)|fail)
   try simp only[Exit.inBlock,Exit.then]
   refine bodyPost_ret (results_cctt rfl (HM.out.at_ 3 rfl) (HM.out.at_ 2 rfl) rfl rfl _ uE.out rfl (by exact zend) _ uE.out rfl (by exact zend)) rfl ?_
   exact hPb.out 8 _ hX1.out (by decide) HM.out.below
  replace hC:=Zh (hC.out.trans (if_neg (by omega)))
  have e3:¬4096<n:=by omega
  have hn4:n≤4096:=by omega
  go_upto_region 9 with fail
  clear e3 e2
  have hn5:n≤4096:=hn4
  replace hn5:=Zh hn5
  clear hn4
  have HM0:=Zh (show Mem w _ [(g20,sideA a va ta vta,128),(g21,sideA b vb tb vtb,128),(g13,#[.int .i64 0,.int .i64 0,.int .i64 0,.slice none 0 0,.bool false,.int .i64 0,.int .i64 0,.bool false,.int .i64 0,.int .i64 0,.int .i64 0,.slice none 0 0,.slice none 0 0,.bool false,.int .i64 0,.bool false,.int .i64 0,.int .i64 0,.int .i64 0,.slice none 0 0,.slice none 0 0,.int .i64 0,.bool false,.int .i64 0,.int .i64 0,.int .i64 0,.slice none 0 0,.slice none 0 0],32),(g12,#[.int .i64 0,.int .i64 0,.int .i64 0,.slice none 0 0,.bool false,.int .i64 0,.int .i64 0,.bool false,.int .i64 0,.int .i64 0,.int .i64 0,.slice none 0 0,.slice none 0 0,.bool false,.int .i64 0,.bool false,.int .i64 0,.int .i64 0,.int .i64 0,.slice none 0 0,.slice none 0 0,.int .i64 0,.bool false,.int .i64 0,.int .i64 0,.int .i64 0,.slice none 0 0,.slice none 0 0],32)]from HM.out.sub (by repeat(first|exact List.Sublist.refl _|apply List.Sublist.cons_cons|apply List.Sublist.cons)))
  clear HM
  have HM:=HM0
  clear HM0
  obtain⟨w4,hw4⟩:∃W:World,Hid (Mem w W [(g20,sideA a va ta vta,128),(g21,sideA b vb tb vtb,128),(g13,#[.int .i64 0,.int .i64 0,.int .i64 0,.slice none 0 0,.bool false,.int .i64 0,.int .i64 0,.bool false,.int .i64 0,.int .i64 0,.int .i64 0,.slice none 0 0,.slice none 0 0,.bool false,.int .i64 0,.bool false,.int .i64 0,.int .i64 0,.int .i64 0,.slice none 0 0,.slice none 0 0,.int .i64 0,.bool false,.int .i64 0,.int .i64 0,.int .i64 0,.slice none 0 0,.slice none 0 0],32),(g12,#[.int .i64 0,.int .i64 0,.int .i64 0,.slice none 0 0,.bool false,.int .i64 0,.int .i64 0,.bool false,.int .i64 0,.int .i64 0,.int .i64 0,.slice none 0 0,.slice none 0 0,.bool false,.int .i64 0,.bool false,.int .i64 0,.int .i64 0,.int .i64 0,.slice none 0 0,.slice none 0 0,.int .i64 0,.bool false,.int .i64 0,.int .i64 0,.int .i64 0,.slice none 0 0,.slice none 0 0],32)])∧True:=⟨_,HM,trivial⟩
  clear hw4
  go_loopw[19,21,22,23,24,25,47] (fun o _ _ _ _ _ i wr=>Hid (∃(k:Nat) (a1 b1:Ed) (va1 vb1:EdV) (Ao:Option Addr) (co:Nat),k≤n∧i= .int .i64 k∧o= .slice Ao k co∧Hid (wishesN ta tb f (l.take k) a b=(a1,b1))∧Hid ((boolsN ta tb f (l.take k) a b).length=k)∧Hid (wr.ownsRow w.heap.size 4 1 (.slice Ao k co) k ((boolsN ta tb f (l.take k) a b).flatMap boolE))∧Hid (Mem w wr [(g20,sideA a1 va1 ta vta,128),(g21,sideA b1 vb1 tb vtb,128),(g13,#[.int .i64 0,.int .i64 0,.int .i64 0,.slice none 0 0,.bool false,.int .i64 0,.int .i64 0,.bool false,.int .i64 0,.int .i64 0,.int .i64 0,.slice none 0 0,.slice none 0 0,.bool false,.int .i64 0,.bool false,.int .i64 0,.int .i64 0,.int .i64 0,.slice none 0 0,.slice none 0 0,.int .i64 0,.bool false,.int .i64 0,.int .i64 0,.int .i64 0,.slice none 0 0,.slice none 0 0],32),(g12,#[.int .i64 0,.int .i64 0,.int .i64 0,.slice none 0 0,.bool false,.int .i64 0,.int .i64 0,.bool false,.int .i64 0,.int .i64 0,.int .i64 0,.slice none 0 0,.slice none 0 0,.bool false,.int .i64 0,.bool false,.int .i64 0,.int .i64 0,.int .i64 0,.slice none 0 0,.slice none 0 0,.int .i64 0,.bool false,.int .i64 0,.int .i64 0,.int .i64 0,.slice none 0 0,.slice none 0 0],32)])∧Hid (EdW w va1 a1 wr)∧Hid (EdW w vb1 b1 wr))) (fun _ _ _ _ _ _ i _=>n-(intOf i).toNat)
  case atStart=>exact Zh ⟨0,a,b,va,vb,none,0,by omega,rfl,rfl,rfl,rfl,World.ownsRow_nil _ _ _ _,HM,.inr h1.out,.inr h2.out⟩
  case round=>
   clear HM hF hFs
   obtain⟨k,a1,b1,va1,vb1,Ao,co,hk,rfl,rfl,hW,hBl,HO,HM,hA1,hB1⟩:=hrel.out
   clear hrel
   obtain⟨F0,hFs,hF,gA,gB⟩:∃F:World→Prop,Stb F∧Hid (F wr)∧Hid (∀W,F W→EdW w va1 a1 W)∧Hid (∀W,F W→EdW w vb1 b1 W):=⟨_,(Stb.edW w va1 a1).and (Stb.edW w vb1 b1),⟨hA1.out,hB1.out⟩,fun _ h=>h.1,fun _ h=>h.2⟩
   clear hA1 hB1
   by_cases hlt:k<n
   ·have hkl:k<l.length:=by rw[hlen.out];exact hlt
    obtain⟨bq,off,rfl⟩:=hl.out.addr (by omega)
    have hrg:=Zh (fun(W:World) (hb:Below w.heap.size w W)=>wsh_range (hl.out.keep hb) hlt)
    have hW2:wishesN ta tb f (l.take (k+1)) a b=wishN ta tb f a1 b1 (l.getD k default):=by rw[take_wsh hkl,wishes_snoc,hW.out]
    have hB2:boolsN ta tb f (l.take (k+1)) a b=boolsN ta tb f (l.take k) a b++ [consB (wishesN ta tb f (l.take (k+1)) a b).1 (wishesN ta tb f (l.take (k+1)) a b).2]:=by rw[take_wsh hkl,bools_snoc]
    rw[hW2]at hB2
    generalize boolsN ta tb f (l.take k) a b=bs at*
    generalize l.getD k default=x at*
    clear hW hkl
    have r1:(k:Int)<(n:Int):=by omega
    have r0:(0:Int)≤(k:Int):=by omega
    obtain⟨xo,xk,xc,xf⟩:=x
    replace hW2:=Zh hW2
    replace hB2:=Zh hB2
    have mk8:Unit:=()
    go_upto_region 11 with(first|go_skip|(refine wpList_load_mid rfl 42 _ rfl bq (off+k*7) rfl (wshE ⟨xo,xk,xc,xf⟩) _ (hrg.out _ HM.out.below) uW.out rfl (by exact zws) ?_)|(clear mk8;refine aN HM wsInfo ?_;clear HM;intro g21w w1 HM hG hN9;replace hF:=hFs.y hF hG;replace HO:=Zh (owns_keep HO.out hG.out);clear hG hN9)|(refine sF 0 HM ?_;have hBq:=HM.out.at_ 0 rfl;clear HM;intro w4 HM hG4;simp only[List.set]at HM;replace hF:=hFs.p hF hBq hG4;replace HO:=Zh (HO.out.kept hG4.out (.inr (row_ne_blk HO.out hBq (by decide))));clear hBq hG4)|fail)
    have p0:=Zc HM 0 0 (.bool xo)
    cases xo
    case' false=>
     go_upto_region 14 with fail
     clear p0
     replace hF:=Zh (hFs.keep hF.out ((Below.refl _ _).drew))
     replace HM:=Zh (HM.out.keep ((Below.refl _ _).drew))
     replace HO:=Zh (owns_keep HO.out ((Below.refl _ _).drew))
     have cR:=fun W (hb:Below w.heap.size w W) (q1:EdIs W va1 a1) (q2:EdIs W vb1 b1)=>run_any a1 b1 ta tb f xk xc xf va1 vb1 vta vtb A nf cf W q1 q2 (t1.out.keep hb) (t2.out.keep hb) (hf.out.keep hb)
     have hwn:wishN ta tb f a1 b1 ⟨false,xk,xc,xf⟩=if askC a1 ta f xk xc 0=0 then((runN a1 b1 ta tb f xk xc xf).1,(runN a1 b1 ta tb f xk xc xf).2.1)else(a1,b1):=rfl
     have HMs:=Zh HM.out
     refine wp_region_plan (fun w'=>Mem _ w' _) 18 [(0,true),(1,true),(2,true),(3,true),(4,true),(5,true),(6,true),(7,true),(8,true),(9,true),(10,true),(11,true),(12,true),(13,false),(14,true),(15,true),(16,true),(17,true)] (by kernel_rfl) (by kernel_rfl) HMs.out ?_
     generalize World.drew _=wd at*
     repeat(first|(refine plPure rfl rfl (by intro w_ hSw;go_simp;first|done|exact rfl) ?_;try go_frame))
     refine plTakeL (by rfl) (yields_memw rfl _ _ rfl 1 (fun w_ hSw=>hSw) rfl rfl _ uS.out rfl (by exact zsd)) ?_
     try go_frame
     repeat(first|(refine plPure rfl rfl (by intro w_ hSw;go_simp;first|done|exact rfl) ?_;try go_frame))
     refine plTakeL (by rfl) (yields_memw rfl _ _ rfl 2 (fun w_ hSw=>hSw) rfl rfl _ uS.out rfl (by exact zsd)) ?_
     try go_frame
     repeat(first|(refine plPure rfl rfl (by intro w_ hSw;go_simp;first|done|exact rfl) ?_;try go_frame))
     refine plTakeL (by rfl) (yields_memc rfl _ _ rfl 0 (fun w_ hSw=>hSw) rfl 1 rfl (.int .i64 xk) (by rfl) _ Tryz.underlying3 (by rfl)) ?_
     try go_frame
     repeat(first|(refine plPure rfl rfl (by intro w_ hSw;go_simp;first|done|exact rfl) ?_;try go_frame))
     refine plTakeL (by rfl) (yields_memc rfl _ _ rfl 0 (fun w_ hSw=>hSw) rfl 2 rfl (.int .i64 xc) (by rfl) _ Tryz.underlying3 (by rfl)) ?_
     try go_frame
     repeat(first|(refine plPure rfl rfl (by intro w_ hSw;go_simp;first|done|exact rfl) ?_;try go_frame))
     refine plTakeL (by rfl) (yields_mem (by rfl) _ _ (by rfl) 0 (fun w_ hSw=>hSw) (by rfl) _ (by rfl) (fateA xf) (by kernel_rfl) _ uY.out (by rfl) (by exact zfa)) ?_
     try go_frame
     repeat(first|(refine plPure rfl rfl (by intro w_ hSw;go_simp;first|done|exact rfl) ?_;try go_frame))
     by_cases e5:askC a1 ta f xk xc 0=0
     case' neg=>
      have hh1:wishN ta tb f a1 b1 ⟨false,xk,xc,xf⟩=(a1,b1):=hwn.trans (if_neg e5)
      have cR0:=Zh (fun W hb q1 q2=>(cR W hb q1 q2).mono (fun r w' (h':RunPost _ _ _ _ _ _ _ _ _ _ _ _ r w')=>(h'.resolve_right (fun h=>e5 h.1)).2))
      have d5:(askC a1 ta f xk xc 0==0)=false:=by rw[beq_eq_false_iff_ne];exact e5
      generalize askC a1 ta f xk xc 0=AC at*
      clear cR hwn
      replace hh1:=Zh hh1
      replace e5:=Zh e5
      refine plStepL rfl rfl fun K hK=> ?_
      go_wp2_with(first|(go_at_call 88;refine(cR0.out _ HM.out.below ((gA.out _ hF.out).is HM.out.below) ((gB.out _ hF.out).is HM.out.below)).mono ?_;rintro r w3 ⟨rfl,hb_⟩)|fail)
      refine hK.out _ _ (HMs.out.keep hb_) fun hS_=> ?_
      clear hK K hS_
      try go_frame
      replace HM:=Zm HM hb_
      replace hF:=hFs.z hF hb_
      replace HO:=Zh (owns_keep HO.out hb_)
      clear hb_ HMs
      repeat(first|(refine plPure rfl rfl (by intro w_ hSw;go_simp;first|done|exact rfl) ?_;try go_frame))
      refine plDone ?_
      simp only[List.drop]
      go_upto_region 17 with fail
      obtain⟨a2,b2,va2,vb2,hF1,HM1,hw1⟩:∃(a2 b2:Ed) (va2 vb2:EdV),Hid (EdW w va2 a2 _∧EdW w vb2 b2 _)∧Hid (Mem w _ [(g20,sideA a2 va2 ta vta,128),(g21,sideA b2 vb2 tb vtb,128),(g13,#[.int .i64 0,.int .i64 0,.int .i64 0,.slice none 0 0,.bool false,.int .i64 0,.int .i64 0,.bool false,.int .i64 0,.int .i64 0,.int .i64 0,.slice none 0 0,.slice none 0 0,.bool false,.int .i64 0,.bool false,.int .i64 0,.int .i64 0,.int .i64 0,.slice none 0 0,.slice none 0 0,.int .i64 0,.bool false,.int .i64 0,.int .i64 0,.int .i64 0,.slice none 0 0,.slice none 0 0],32),(g12,#[.int .i64 0,.int .i64 0,.int .i64 0,.slice none 0 0,.bool false,.int .i64 0,.int .i64 0,.bool false,.int .i64 0,.int .i64 0,.int .i64 0,.slice none 0 0,.slice none 0 0,.bool false,.int .i64 0,.bool false,.int .i64 0,.int .i64 0,.int .i64 0,.slice none 0 0,.slice none 0 0,.int .i64 0,.bool false,.int .i64 0,.int .i64 0,.int .i64 0,.slice none 0 0,.slice none 0 0],32)])∧Hid (wishN ta tb f a1 b1 ⟨false,xk,xc,xf⟩=(a2,b2)):=⟨a1,b1,va1,vb1,⟨gA.out _ hF.out,gB.out _ hF.out⟩,HM.out.sub (by repeat(first|exact List.Sublist.refl _|apply List.Sublist.cons_cons|apply List.Sublist.cons)),hh1.out⟩
      clear hh1 e5 d5 cR0 HM
     case' pos=>
      have hh1:=hwn.trans (if_pos e5)
      have cR1:=Zh (fun W hb q1 q2=>(cR W hb q1 q2).mono (fun r w' (h':RunPost _ _ _ _ _ _ _ _ _ _ _ _ r w')=>(h'.resolve_left (fun h=>h.1 e5)).2))
      clear cR hwn e5
      replace hh1:=Zh hh1
      refine plStepL rfl rfl fun K hK=> ?_
      go_wp2_with(first|(go_at_call 88;refine(cR1.out _ HM.out.below ((gA.out _ hF.out).is HM.out.below) ((gB.out _ hF.out).is HM.out.below)).mono ?_;rintro r w3 ⟨gx,⟨da,db,dta,dtb,dx,dm,dr,dc⟩,⟨xa,xb,xta,xtb,xA,xnf,xcf,xm,xr⟩,rfl,hM7,hD⟩;have hb_:=hM7.below)|fail)
      refine hK.out _ _ (HMs.out.keep hb_) fun hS_=> ?_
      clear hK K hS_
      try go_frame
      obtain⟨i1,i2,i3,i4,i5,i6,i7,i8,i9⟩:=hD
      dsimp only at i1 i2 i3 i4 i5 i6 i7 i8 i9
      replace i4:=i4.symm
      replace i5:=i5.symm
      replace i6:=i6.symm
      replace i7:=i7.symm
      subst i4 i5 i6 i7
      have hge:=hM7.ge _ (List.mem_cons_self ..)
      have hQ9:=gB.out _ (hFs.keep hF.out hb_)
      replace HM:=Zh (HM.out.add hb_ (hM7.at_ 0 rfl) hge)
      replace HO:=Zh (owns_keep HO.out hb_)
      have hq9:EdW w xb db _:=i9.elim .inl (fun e=>by rw[e.1,e.2];exact hQ9)
      clear hb_ hge hM7 HMs hQ9 i9 i3 hF hFs gA gB F0
      obtain⟨F0,hFs,hF,gA,gB⟩:∃F:World→Prop,Stb F∧Hid (F _)∧Hid (∀W,F W→EdW w xa da W)∧Hid (∀W,F W→EdW w xb db W):=⟨_,(Stb.edW w xa da).and (Stb.edW w xb db),⟨.inl i8,hq9⟩,fun _ h=>h.1,fun _ h=>h.2⟩
      clear i8 hq9
      replace hh1:=Zh (hh1.out.trans (by rw[←i1,←i2]))
      clear i1 i2
      repeat(first|(refine plPure rfl rfl (by intro w_ hSw;go_simp;first|done|exact rfl) ?_;try go_frame))
      refine plDone ?_
      simp only[List.drop]
      go_upto_region 16 with fail
      replace hF:=Zh (hFs.keep hF.out ((Below.refl _ _).drew))
      replace HM:=Zh (HM.out.keep ((Below.refl _ _).drew))
      replace HO:=Zh (owns_keep HO.out ((Below.refl _ _).drew))
      have HMs:=Zh HM.out
      replace HMs:=Zh (HMs.out.less 3)
      replace HMs:=Zh (HMs.out.less 2)
      simp only[List.eraseIdx]at HMs
      refine wp_region_plan (fun w'=>Mem _ w' _) 12 [(0,true),(1,true),(2,true),(3,true),(4,true),(5,true),(6,true),(7,true),(8,true),(9,true),(10,true),(11,false)] (by kernel_rfl) (by kernel_rfl) HMs.out ?_
      generalize World.drew _=wd2 at*
      repeat(first|(refine plPure rfl rfl (by intro w_ hSw;go_simp;first|done|exact rfl) ?_;try go_frame))
      refine plTakeL (by rfl) (yields_mem (by rfl) _ _ (by rfl) 0 (fun w_ hSw=>hSw) (by rfl) _ (by rfl) (sideA da xa ta vta) (by kernel_rfl) _ uS.out (by rfl) (by exact zsd)) ?_
      try go_frame
      repeat(first|(refine plPure rfl rfl (by intro w_ hSw;go_simp;first|done|exact rfl) ?_;try go_frame))
      refine plTakeL (by rfl) (yields_mem (by rfl) _ _ (by rfl) 0 (fun w_ hSw=>hSw) (by rfl) _ (by rfl) (sideA db xb tb vtb) (by kernel_rfl) _ uS.out (by rfl) (by exact zsd)) ?_
      try go_frame
      repeat(first|(refine plPure rfl rfl (by intro w_ hSw;go_simp;first|done|exact rfl) ?_;try go_frame))
      clear HMs
      refine plStepL rfl rfl fun K hK=> ?_
      go_wp2_with(first|(refine sF 2 HM ?_;have hBq:=HM.out.at_ 2 rfl;clear HM;intro w4 HM hG4;simp only[List.set]at HM;replace hF:=hFs.p hF hBq hG4;replace HO:=Zh (HO.out.kept hG4.out (.inr (row_ne_blk HO.out hBq (by decide))));clear hBq hG4)|fail)
      refine hK.out _ _ ((HM.out.less 3).less 2) fun hS_=> ?_
      clear hK K hS_
      try go_frame
      refine plDone ?_
      simp only[List.drop]
      go_upto_region 17 with(first|go_skip|(refine sF 3 HM ?_;have hBq:=HM.out.at_ 3 rfl;clear HM;intro w4 HM hG4;simp only[List.set]at HM;replace hF:=hFs.p hF hBq hG4;replace HO:=Zh (HO.out.kept hG4.out (.inr (row_ne_blk HO.out hBq (by decide))));clear hBq hG4)|fail)
      obtain⟨a2,b2,va2,vb2,hF1,HM1,hw1⟩:∃(a2 b2:Ed) (va2 vb2:EdV),Hid (EdW w va2 a2 _∧EdW w vb2 b2 _)∧Hid (Mem w _ [(g20,sideA a2 va2 ta vta,128),(g21,sideA b2 vb2 tb vtb,128),(g13,#[.int .i64 0,.int .i64 0,.int .i64 0,.slice none 0 0,.bool false,.int .i64 0,.int .i64 0,.bool false,.int .i64 0,.int .i64 0,.int .i64 0,.slice none 0 0,.slice none 0 0,.bool false,.int .i64 0,.bool false,.int .i64 0,.int .i64 0,.int .i64 0,.slice none 0 0,.slice none 0 0,.int .i64 0,.bool false,.int .i64 0,.int .i64 0,.int .i64 0,.slice none 0 0,.slice none 0 0],32),(g12,#[.int .i64 0,.int .i64 0,.int .i64 0,.slice none 0 0,.bool false,.int .i64 0,.int .i64 0,.bool false,.int .i64 0,.int .i64 0,.int .i64 0,.slice none 0 0,.slice none 0 0,.bool false,.int .i64 0,.bool false,.int .i64 0,.int .i64 0,.int .i64 0,.slice none 0 0,.slice none 0 0,.int .i64 0,.bool false,.int .i64 0,.int .i64 0,.int .i64 0,.slice none 0 0,.slice none 0 0],32)])∧Hid (wishN ta tb f a1 b1 ⟨false,xk,xc,xf⟩=(a2,b2)):=⟨da,db,xa,xb,⟨gA.out _ hF.out,gB.out _ hF.out⟩,HM.out.sub (by repeat(first|exact List.Sublist.refl _|apply List.Sublist.cons_cons|apply List.Sublist.cons)),hh1.out⟩
      clear hh1 HM
    case' true=>
     go_upto_region 14 with fail
     clear p0
     replace hF:=Zh (hFs.keep hF.out ((Below.refl _ _).drew))
     replace HM:=Zh (HM.out.keep ((Below.refl _ _).drew))
     replace HO:=Zh (owns_keep HO.out ((Below.refl _ _).drew))
     have cR:=fun W (hb:Below w.heap.size w W) (q1:EdIs W vb1 b1) (q2:EdIs W va1 a1)=>run_any b1 a1 tb ta f xk xc xf vb1 va1 vtb vta A nf cf W q1 q2 (t2.out.keep hb) (t1.out.keep hb) (hf.out.keep hb)
     have hwn:wishN ta tb f a1 b1 ⟨true,xk,xc,xf⟩=if askC b1 tb f xk xc 0=0 then((runN b1 a1 tb ta f xk xc xf).2.1,(runN b1 a1 tb ta f xk xc xf).1)else(a1,b1):=rfl
     have HMs:=Zh HM.out
     refine wp_region_plan (fun w'=>Mem _ w' _) 18 [(0,true),(1,true),(2,true),(3,true),(4,true),(5,true),(6,true),(7,true),(8,true),(9,true),(10,true),(11,true),(12,true),(13,false),(14,true),(15,true),(16,true),(17,true)] (by kernel_rfl) (by kernel_rfl) HMs.out ?_
     generalize World.drew _=wd at*
     repeat(first|(refine plPure rfl rfl (by intro w_ hSw;go_simp;first|done|exact rfl) ?_;try go_frame))
     refine plTakeL (by rfl) (yields_memw rfl _ _ rfl 2 (fun w_ hSw=>hSw) rfl rfl _ uS.out rfl (by exact zsd)) ?_
     try go_frame
     repeat(first|(refine plPure rfl rfl (by intro w_ hSw;go_simp;first|done|exact rfl) ?_;try go_frame))
     refine plTakeL (by rfl) (yields_memw rfl _ _ rfl 1 (fun w_ hSw=>hSw) rfl rfl _ uS.out rfl (by exact zsd)) ?_
     try go_frame
     repeat(first|(refine plPure rfl rfl (by intro w_ hSw;go_simp;first|done|exact rfl) ?_;try go_frame))
     refine plTakeL (by rfl) (yields_memc rfl _ _ rfl 0 (fun w_ hSw=>hSw) rfl 1 rfl (.int .i64 xk) (by rfl) _ Tryz.underlying3 (by rfl)) ?_
     try go_frame
     repeat(first|(refine plPure rfl rfl (by intro w_ hSw;go_simp;first|done|exact rfl) ?_;try go_frame))
     refine plTakeL (by rfl) (yields_memc rfl _ _ rfl 0 (fun w_ hSw=>hSw) rfl 2 rfl (.int .i64 xc) (by rfl) _ Tryz.underlying3 (by rfl)) ?_
     try go_frame
     repeat(first|(refine plPure rfl rfl (by intro w_ hSw;go_simp;first|done|exact rfl) ?_;try go_frame))
     refine plTakeL (by rfl) (yields_mem (by rfl) _ _ (by rfl) 0 (fun w_ hSw=>hSw) (by rfl) _ (by rfl) (fateA xf) (by kernel_rfl) _ uY.out (by rfl) (by exact zfa)) ?_
     try go_frame
     repeat(first|(refine plPure rfl rfl (by intro w_ hSw;go_simp;first|done|exact rfl) ?_;try go_frame))
     by_cases e5:askC b1 tb f xk xc 0=0
     case' neg=>
      have hh1:wishN ta tb f a1 b1 ⟨true,xk,xc,xf⟩=(a1,b1):=hwn.trans (if_neg e5)
      have cR0:=Zh (fun W hb q1 q2=>(cR W hb q1 q2).mono (fun r w' (h':RunPost _ _ _ _ _ _ _ _ _ _ _ _ r w')=>(h'.resolve_right (fun h=>e5 h.1)).2))
      have d5:(askC b1 tb f xk xc 0==0)=false:=by rw[beq_eq_false_iff_ne];exact e5
      generalize askC b1 tb f xk xc 0=AC at*
      clear cR hwn
      replace hh1:=Zh hh1
      replace e5:=Zh e5
      refine plStepL rfl rfl fun K hK=> ?_
      go_wp2_with(first|(go_at_call 88;refine(cR0.out _ HM.out.below ((gB.out _ hF.out).is HM.out.below) ((gA.out _ hF.out).is HM.out.below)).mono ?_;rintro r w3 ⟨rfl,hb_⟩)|fail)
      refine hK.out _ _ (HMs.out.keep hb_) fun hS_=> ?_
      clear hK K hS_
      try go_frame
      replace HM:=Zm HM hb_
      replace hF:=hFs.z hF hb_
      replace HO:=Zh (owns_keep HO.out hb_)
      clear hb_ HMs
      repeat(first|(refine plPure rfl rfl (by intro w_ hSw;go_simp;first|done|exact rfl) ?_;try go_frame))
      refine plDone ?_
      simp only[List.drop]
      go_upto_region 17 with fail
      obtain⟨a2,b2,va2,vb2,hF1,HM1,hw1⟩:∃(a2 b2:Ed) (va2 vb2:EdV),Hid (EdW w va2 a2 _∧EdW w vb2 b2 _)∧Hid (Mem w _ [(g20,sideA a2 va2 ta vta,128),(g21,sideA b2 vb2 tb vtb,128),(g13,#[.int .i64 0,.int .i64 0,.int .i64 0,.slice none 0 0,.bool false,.int .i64 0,.int .i64 0,.bool false,.int .i64 0,.int .i64 0,.int .i64 0,.slice none 0 0,.slice none 0 0,.bool false,.int .i64 0,.bool false,.int .i64 0,.int .i64 0,.int .i64 0,.slice none 0 0,.slice none 0 0,.int .i64 0,.bool false,.int .i64 0,.int .i64 0,.int .i64 0,.slice none 0 0,.slice none 0 0],32),(g12,#[.int .i64 0,.int .i64 0,.int .i64 0,.slice none 0 0,.bool false,.int .i64 0,.int .i64 0,.bool false,.int .i64 0,.int .i64 0,.int .i64 0,.slice none 0 0,.slice none 0 0,.bool false,.int .i64 0,.bool false,.int .i64 0,.int .i64 0,.int .i64 0,.slice none 0 0,.slice none 0 0,.int .i64 0,.bool false,.int .i64 0,.int .i64 0,.int .i64 0,.slice none 0 0,.slice none 0 0],32)])∧Hid (wishN ta tb f a1 b1 ⟨true,xk,xc,xf⟩=(a2,b2)):=⟨a1,b1,va1,vb1,⟨gA.out _ hF.out,gB.out _ hF.out⟩,HM.out.sub (by repeat(first|exact List.Sublist.refl _|apply List.Sublist.cons_cons|apply List.Sublist.cons)),hh1.out⟩
      clear hh1 e5 d5 cR0 HM
     case' pos=>
      have hh1:=hwn.trans (if_pos e5)
      have cR1:=Zh (fun W hb q1 q2=>(cR W hb q1 q2).mono (fun r w' (h':RunPost _ _ _ _ _ _ _ _ _ _ _ _ r w')=>(h'.resolve_left (fun h=>h.1 e5)).2))
      clear cR hwn e5
      replace hh1:=Zh hh1
      refine plStepL rfl rfl fun K hK=> ?_
      go_wp2_with(first|(go_at_call 88;refine(cR1.out _ HM.out.below ((gB.out _ hF.out).is HM.out.below) ((gA.out _ hF.out).is HM.out.below)).mono ?_;rintro r w3 ⟨gx,⟨da,db,dta,dtb,dx,dm,dr,dc⟩,⟨xa,xb,xta,xtb,xA,xnf,xcf,xm,xr⟩,rfl,hM7,hD⟩;have hb_:=hM7.below)|fail)
      refine hK.out _ _ (HMs.out.keep hb_) fun hS_=> ?_
      clear hK K hS_
      try go_frame
      obtain⟨i1,i2,i3,i4,i5,i6,i7,i8,i9⟩:=hD
      dsimp only at i1 i2 i3 i4 i5 i6 i7 i8 i9
      replace i4:=i4.symm
      replace i5:=i5.symm
      replace i6:=i6.symm
      replace i7:=i7.symm
      subst i4 i5 i6 i7
      have hge:=hM7.ge _ (List.mem_cons_self ..)
      have hQ9:=gA.out _ (hFs.keep hF.out hb_)
      replace HM:=Zh (HM.out.add hb_ (hM7.at_ 0 rfl) hge)
      replace HO:=Zh (owns_keep HO.out hb_)
      have hq9:EdW w xb db _:=i9.elim .inl (fun e=>by rw[e.1,e.2];exact hQ9)
      clear hb_ hge hM7 HMs hQ9 i9 i3 hF hFs gA gB F0
      obtain⟨F0,hFs,hF,gA,gB⟩:∃F:World→Prop,Stb F∧Hid (F _)∧Hid (∀W,F W→EdW w xa da W)∧Hid (∀W,F W→EdW w xb db W):=⟨_,(Stb.edW w xa da).and (Stb.edW w xb db),⟨.inl i8,hq9⟩,fun _ h=>h.1,fun _ h=>h.2⟩
      clear i8 hq9
      replace hh1:=Zh (hh1.out.trans (by rw[←i1,←i2]))
      clear i1 i2
      repeat(first|(refine plPure rfl rfl (by intro w_ hSw;go_simp;first|done|exact rfl) ?_;try go_frame))
      refine plDone ?_
      simp only[List.drop]
      go_upto_region 16 with fail
      replace hF:=Zh (hFs.keep hF.out ((Below.refl _ _).drew))
      replace HM:=Zh (HM.out.keep ((Below.refl _ _).drew))
      replace HO:=Zh (owns_keep HO.out ((Below.refl _ _).drew))
      have HMs:=Zh HM.out
      replace HMs:=Zh (HMs.out.less 3)
      replace HMs:=Zh (HMs.out.less 2)
      simp only[List.eraseIdx]at HMs
      refine wp_region_plan (fun w'=>Mem _ w' _) 12 [(0,true),(1,true),(2,true),(3,true),(4,true),(5,true),(6,true),(7,true),(8,true),(9,true),(10,true),(11,false)] (by kernel_rfl) (by kernel_rfl) HMs.out ?_
      generalize World.drew _=wd2 at*
      repeat(first|(refine plPure rfl rfl (by intro w_ hSw;go_simp;first|done|exact rfl) ?_;try go_frame))
      refine plTakeL (by rfl) (yields_mem (by rfl) _ _ (by rfl) 0 (fun w_ hSw=>hSw) (by rfl) _ (by rfl) (sideA da xa tb vtb) (by kernel_rfl) _ uS.out (by rfl) (by exact zsd)) ?_
      try go_frame
      repeat(first|(refine plPure rfl rfl (by intro w_ hSw;go_simp;first|done|exact rfl) ?_;try go_frame))
      refine plTakeL (by rfl) (yields_mem (by rfl) _ _ (by rfl) 0 (fun w_ hSw=>hSw) (by rfl) _ (by rfl) (sideA db xb ta vta) (by kernel_rfl) _ uS.out (by rfl) (by exact zsd)) ?_
      try go_frame
      repeat(first|(refine plPure rfl rfl (by intro w_ hSw;go_simp;first|done|exact rfl) ?_;try go_frame))
      clear HMs
      refine plStepL rfl rfl fun K hK=> ?_
      go_wp2_with(first|(refine sF 3 HM ?_;have hBq:=HM.out.at_ 3 rfl;clear HM;intro w4 HM hG4;simp only[List.set]at HM;replace hF:=hFs.p hF hBq hG4;replace HO:=Zh (HO.out.kept hG4.out (.inr (row_ne_blk HO.out hBq (by decide))));clear hBq hG4)|fail)
      refine hK.out _ _ ((HM.out.less 3).less 2) fun hS_=> ?_
      clear hK K hS_
      try go_frame
      refine plDone ?_
      simp only[List.drop]
      go_upto_region 17 with(first|go_skip|(refine sF 2 HM ?_;have hBq:=HM.out.at_ 2 rfl;clear HM;intro w4 HM hG4;simp only[List.set]at HM;replace hF:=hFs.p hF hBq hG4;replace HO:=Zh (HO.out.kept hG4.out (.inr (row_ne_blk HO.out hBq (by decide))));clear hBq hG4)|fail)
      obtain⟨a2,b2,va2,vb2,hF1,HM1,hw1⟩:∃(a2 b2:Ed) (va2 vb2:EdV),Hid (EdW w va2 a2 _∧EdW w vb2 b2 _)∧Hid (Mem w _ [(g20,sideA a2 va2 ta vta,128),(g21,sideA b2 vb2 tb vtb,128),(g13,#[.int .i64 0,.int .i64 0,.int .i64 0,.slice none 0 0,.bool false,.int .i64 0,.int .i64 0,.bool false,.int .i64 0,.int .i64 0,.int .i64 0,.slice none 0 0,.slice none 0 0,.bool false,.int .i64 0,.bool false,.int .i64 0,.int .i64 0,.int .i64 0,.slice none 0 0,.slice none 0 0,.int .i64 0,.bool false,.int .i64 0,.int .i64 0,.int .i64 0,.slice none 0 0,.slice none 0 0],32),(g12,#[.int .i64 0,.int .i64 0,.int .i64 0,.slice none 0 0,.bool false,.int .i64 0,.int .i64 0,.bool false,.int .i64 0,.int .i64 0,.int .i64 0,.slice none 0 0,.slice none 0 0,.bool false,.int .i64 0,.bool false,.int .i64 0,.int .i64 0,.int .i64 0,.slice none 0 0,.slice none 0 0,.int .i64 0,.bool false,.int .i64 0,.int .i64 0,.int .i64 0,.slice none 0 0,.slice none 0 0],32)])∧Hid (wishN ta tb f a1 b1 ⟨true,xk,xc,xf⟩=(a2,b2)):=⟨db,da,xb,xa,⟨gB.out _ hF.out,gA.out _ hF.out⟩,HM.out.sub (by repeat(first|exact List.Sublist.refl _|apply List.Sublist.cons_cons|apply List.Sublist.cons)),hh1.out⟩
      clear hh1 HM
    all_goals
     have hbs:=Zh (hB2.out.trans (by rw[hw1.out]))
     have hws:=Zh (hW2.out.trans hw1.out)
     clear hB2 hW2 hw1
     try clear hF
     try clear hFs
     try clear gA
     try clear gB
     obtain⟨F9,hFs,hF,gA,gB⟩:∃F:World→Prop,Stb F∧Hid (F _)∧Hid (∀W,F W→EdW w va2 a2 W)∧Hid (∀W,F W→EdW w vb2 b2 W):=⟨_,(Stb.edW w va2 a2).and (Stb.edW w vb2 b2),hF1.out,fun _ h=>h.1,fun _ h=>h.2⟩
     have HM:=HM1
     clear HM1 hF1
     have cC:=fun W (hb:Below w.heap.size w W) (q1:EdW w va2 a2 W) (q2:EdW w vb2 b2 W)=>consP_any a2 b2 va2 vb2 W (q1.is hb) (q2.is hb)
     dsimp only at hbs
     generalize consB a2 b2=cb at*
     replace cC:=Zh cC
     have mk9:Unit:=()
     go_wp2_with(first|go_skip|(refine lP 0 HM 0 (endA a2 va2) uE.out ?_)|(refine lP 1 HM 0 (endA b2 vb2) uE.out ?_)|(go_at_call 39;clear mk9;refine(cC.out _ HM.out.below (gA.out _ hF.out) (gB.out _ hF.out)).mono ?_;rintro r w3 ⟨rfl,hb_⟩;replace HM:=Zm HM hb_;replace hF:=hFs.z hF hb_;replace HO:=Zh (owns_keep HO.out hb_);clear hb_;dsimp only)|(at_builtin;refine wpList_append_sls eltB _ rfl _ _ rfl w.heap.size (.slice Ao k co) bs rfl (by rw[hBl.out];exact HO.out.alloc _) _ 1 1 [cb] rfl (Sls.one (t:=4) (Blk.new _ _ _)) (by rw[hBl.out];have:=hn5.out;omega) (by exact(ballN HM.out.below _).size) ?_;intro v9 w7 HO1 HG1 _;rw[List.length_append,hBl.out,List.length_singleton]at HO1;obtain⟨A6,c6,rfl⟩:=own_slice HO1;have HR:=HO.out.alloc (.cells #[.bool cb] 4);replace HM:=Zh ((HM.out.keep (ball _ _)).row HR HG1 (Nat.le_refl _) (apart_of rfl));replace hF:=Zh (hFs.row (hFs.keep hF.out (ball _ _)) HR (by decide) (by decide) HG1);replace HO1:=Zh HO1;clear HR HG1 HO)|fail)
     rw[←hbs.out]at HO1
     exact⟨Zh ⟨k+1,a2,b2,va2,vb2,A6,c6,by omega,by go_num,rfl,hws,Zh (by rw[hbs.out,List.length_append,hBl.out];rfl),HO1,HM,gA.out _ hF.out,gB.out _ hF.out⟩,by simp[intOf];omega⟩
   ·obtain rfl:k=n:=by omega
    have htk:l.take k=l:=List.take_of_length_le (by rw[hlen.out];exact Nat.le_refl _)
    rw[htk]at hW hBl HO
    clear htk
    obtain⟨hl1,hl2⟩:=hLen.out _ _ hW.out
    have hc1:Hid (a1.cells.length=va1.cn):=((gA.out _ hF.out).is HM.out.below).cells.len
    have hc2:Hid (b1.cells.length=vb1.cn):=((gB.out _ hF.out).is HM.out.below).cells.len
    rw[hc1.out]at hl1
    rw[hc2.out]at hl2
    have hm1:va1.cn≤100000:=by omega
    have hm2:vb1.cn≤100000:=by omega
    have cX:=fun W (hb:Below w.heap.size w W) (q1:EdW w va1 a1 W)=>cloneT_any va1.cA va1.cn va1.cc a1.cells W (q1.is hb).cells hm1
    have cY:=fun W (hb:Below w.heap.size w W) (q1:EdW w vb1 b1 W)=>cloneT_any vb1.cA vb1.cn vb1.cc b1.cells W (q1.is hb).cells hm2
    unfold ClonePost at cX cY
    replace cX:=Zh cX
    replace cY:=Zh cY
    clear hl1 hl2 hm1 hm2 hlt hk
    go_upto_region 19 with fail
    replace hF:=Zh (hFs.keep hF.out ((Below.refl _ _).drew))
    replace HM:=Zh (HM.out.keep ((Below.refl _ _).drew))
    replace HO:=Zh (owns_keep HO.out ((Below.refl _ _).drew))
    have HMs:=Zh HM.out
    refine wp_region_plan (fun w'=>Mem _ w' _) 7 [(0,true),(1,true),(2,true),(4,true),(5,true),(6,true),(3,false)] (by kernel_rfl) (by kernel_rfl) HMs.out ?_
    generalize World.drew _=wd at*
    repeat(first|(refine plPure rfl rfl (by intro w_ hSw;go_simp;first|done|exact rfl) ?_;try go_frame))
    refine plTakeL (by rfl) (yields_memc rfl _ _ rfl 0 (fun w_ hSw=>hSw) rfl 3 rfl (.slice va1.cA va1.cn va1.cc) (by rfl) _ Tryz.underlying27 (by rfl)) ?_
    try go_frame
    repeat(first|(refine plPure rfl rfl (by intro w_ hSw;go_simp;first|done|exact rfl) ?_;try go_frame))
    refine plTakeL (by rfl) (yields_memc rfl _ _ rfl 1 (fun w_ hSw=>hSw) rfl 3 rfl (.slice vb1.cA vb1.cn vb1.cc) (by rfl) _ Tryz.underlying27 (by rfl)) ?_
    try go_frame
    repeat(first|(refine plPure rfl rfl (by intro w_ hSw;go_simp;first|done|exact rfl) ?_;try go_frame))
    refine plStepL rfl rfl fun K hK=> ?_
    go_wp2_with(first|(go_at_call 77;refine(cX.out _ HM.out.below (gA.out _ hF.out)).mono ?_;rintro r w3 ⟨A5,c5,rfl,hR5,hb_⟩)|fail)
    refine hK.out _ _ (HMs.out.keep hb_) fun hS_=> ?_
    clear hK K hS_
    try go_frame
    replace HM:=Zm HM hb_
    replace hF:=hFs.z hF hb_
    replace HO:=Zh (owns_keep HO.out hb_)
    clear hb_ HMs
    replace hR5:TclOwn A5 va1.cn c5 a1.cells _:=⟨_,hR5⟩
    obtain⟨F3,hFs2,hF2,hU,hNw⟩:=stb_add hFs hF (Stb.tcl A5 va1.cn c5 a1.cells) hR5
    clear hFs hF
    replace gA:=Zu gA hU
    replace gB:=Zu gB hU
    have gX:=Zh hNw
    clear hNw hU hR5
    have hFs:=hFs2
    have hF:=hF2
    clear hFs2 hF2
    refine plDone ?_
    simp only[List.drop]
    go_upto_region 20 with(first|go_skip|(go_at_call 77;refine(cY.out _ HM.out.below (gB.out _ hF.out)).mono ?_;rintro r w3 ⟨A6,c6,rfl,hR6,hb_⟩;replace HM:=Zm HM hb_;replace hF:=hFs.z hF hb_;replace HO:=Zh (owns_keep HO.out hb_);replace hR6:TclOwn A6 vb1.cn c6 b1.cells _:=⟨_,hR6⟩;obtain⟨F77,hFs2,hF2,hU,hNw⟩:=stb_add hFs hF (Stb.tcl A6 vb1.cn c6 b1.cells) hR6;clear hFs hF hb_ hR6;replace gA:=Zu gA hU;replace gB:=Zu gB hU;replace gX:=Zu gX hU;have gY:=Zh hNw;clear hNw hU;have hFs:=hFs2;have hF:=hF2;clear hFs2 hF2;dsimp only)|(refine sM 0 HM 3 (sideA a1 { va1 with cA:=A5,cc:=c5} ta vta) ?_;have hBq:=HM.out.at_ 0 rfl;clear HM;intro w4 HM hG4;simp only[List.set]at HM;replace hF:=hFs.p hF hBq hG4;replace HO:=Zh (HO.out.kept hG4.out (.inr (row_ne_blk HO.out hBq (by decide))));clear hBq hG4)|(refine sM 1 HM 3 (sideA b1 { vb1 with cA:=A6,cc:=c6} tb vtb) ?_;have hBq:=HM.out.at_ 1 rfl;clear HM;intro w4 HM hG4;simp only[List.set]at HM;replace hF:=hFs.p hF hBq hG4;replace HO:=Zh (HO.out.kept hG4.out (.inr (row_ne_blk HO.out hBq (by decide))));clear hBq hG4)|fail)
    replace hF:=Zh (hFs.keep hF.out ((Below.refl _ _).drew))
    replace HM:=Zh (HM.out.keep ((Below.refl _ _).drew))
    replace HO:=Zh (owns_keep HO.out ((Below.refl _ _).drew))
    have HMs:=Zh HM.out
    replace HMs:=Zh (HMs.out.less 3)
    replace HMs:=Zh (HMs.out.less 2)
    simp only[List.eraseIdx]at HMs
    refine wp_region_plan (fun w'=>Mem _ w' _) 7 [(0,true),(1,true),(2,true),(3,true),(4,true),(5,false),(6,false)] (by kernel_rfl) (by kernel_rfl) HMs.out ?_
    generalize World.drew _=wd2 at*
    repeat(first|(refine plPure rfl rfl (by intro w_ hSw;go_simp;first|done|exact rfl) ?_;try go_frame))
    refine plTakeL (by rfl) (yields_mem (by rfl) _ _ (by rfl) 0 (fun w_ hSw=>hSw) (by rfl) _ (by rfl) (endA a1 { va1 with cA:=A5,cc:=c5}) (by kernel_rfl) _ uE.out (by rfl) (by exact zend)) ?_
    try go_frame
    repeat(first|(refine plPure rfl rfl (by intro w_ hSw;go_simp;first|done|exact rfl) ?_;try go_frame))
    refine plTakeL (by rfl) (yields_mem (by rfl) _ _ (by rfl) 1 (fun w_ hSw=>hSw) (by rfl) _ (by rfl) (endA b1 { vb1 with cA:=A6,cc:=c6}) (by kernel_rfl) _ uE.out (by rfl) (by exact zend)) ?_
    try go_frame
    repeat(first|(refine plPure rfl rfl (by intro w_ hSw;go_simp;first|done|exact rfl) ?_;try go_frame))
    clear HMs
    refine plStepL rfl rfl fun K hK=> ?_
    go_wp2_with(first|(refine sF 3 HM ?_;have hBq:=HM.out.at_ 3 rfl;clear HM;intro w4 HM hG4;simp only[List.set]at HM;replace hF:=hFs.p hF hBq hG4;replace HO:=Zh (HO.out.kept hG4.out (.inr (row_ne_blk HO.out hBq (by decide))));clear hBq hG4)|fail)
    refine hK.out _ _ ((HM.out.less 3).less 2) fun hS_=> ?_
    clear hK K hS_
    try go_frame
    repeat(first|(refine plPure rfl rfl (by intro w_ hSw;go_simp;first|done|exact rfl) ?_;try go_frame))
    refine plStepL rfl rfl fun K hK=> ?_
    go_wp2_with(first|(refine sF 2 HM ?_;have hBq:=HM.out.at_ 2 rfl;clear HM;intro w4 HM hG4;simp only[List.set]at HM;replace hF:=hFs.p hF hBq hG4;replace HO:=Zh (HO.out.kept hG4.out (.inr (row_ne_blk HO.out hBq (by decide))));clear hBq hG4)|fail)
    refine hK.out _ _ ((HM.out.less 3).less 2) fun hS_=> ?_
    clear hK K hS_
    try go_frame
    repeat(first|(refine plPure rfl rfl (by intro w_ hSw;go_simp;first|done|exact rfl) ?_;try go_frame))
    refine plDone ?_
    simp only[List.drop]
    go_wp2_with fail
    try simp only[Exit.inBlock,Exit.then]
    refine bodyPost_ret (results_cctt rfl (HM.out.at_ 3 rfl) (HM.out.at_ 2 rfl) rfl rfl _ uE.out rfl (by exact zend) _ uE.out rfl (by exact zend)) rfl ?_
    exact hPo.out a1 b1 { va1 with cA:=A5,cc:=c5} { vb1 with cA:=A6,cc:=c6} Ao k co _ _ _ hC.out hW.out rfl ((gA.out _ hF.out).clone2 (gX.out _ hF.out) hc1.out) ((gB.out _ hF.out).clone2 (gY.out _ hF.out) hc2.out) HO.out hBl.out HM.out.below
end Tx
end Go.Proofs.YtfamifgchgolpaaGreat
