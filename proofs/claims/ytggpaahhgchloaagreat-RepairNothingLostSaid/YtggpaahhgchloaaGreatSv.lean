/- Chapter 28: Losses, where every message arrives: the program's. -/
import Derived.Test.YtggpaahhgchloaaGreatSr
set_option linter.unusedVariables false
set_option linter.unusedSimpArgs false
set_option maxRecDepth 100000
set_option maxHeartbeats 16000000
namespace Go.Proofs.YtggpaahhgchloaaGreat
open Go Go.RowKit Go.Sort Go.Shelf Go.Maps
namespace Tx
open Sw Mm Pl
structure Outof(bs:List Nat)(w w':World):Prop where
 os:w'.os=w.os
 tape:w'.tape=w.tape
 output:w'.output=w.output
 size:w.heap.size≤w'.heap.size
 block:∀k,k<w.heap.size→k∉bs→w'.heap[k]? =w.heap[k]?
theorem Outof.refl(bs:List Nat)(w:World):Outof bs w w:=⟨rfl,rfl,rfl,Nat.le_refl _,fun _ _ _=>rfl⟩
theorem Outof.put {bs:List Nat} {w w1 w2:World} {B:Nat}(h:Outof bs w w1)(hg:w1.grownBy w2 (some B))(hB:B∈bs):Outof bs w w2:=
 ⟨hg.os.trans h.os,hg.tape.trans h.tape,hg.output.trans h.output,Nat.le_trans h.size hg.size,fun k hk hn=>(hg.block k (Nat.lt_of_lt_of_le hk h.size) (fun e=>hn (by injection e with e;rw[e];exact hB))).trans (h.block k hk hn)⟩
theorem Outof.below {bs:List Nat} {w w':World}(h:Outof bs w w')(hs:∀k∈bs,w'.heap[k]? =w.heap[k]?):Below w.heap.size w w':=
 ⟨h.os,h.tape,h.output,h.size,fun k hk=>by
  by_cases e:k∈bs
  ·exact hs k e
  ·exact h.block k hk e⟩
theorem below_same {w w':World} {B:Nat} {C:Array Value} {t:TypeId}(h:Blk w B C t)(h':Blk w' B C t)(hg:w.grownBy w' (some B)):Below w.heap.size w w':=
 ((Outof.refl [B] w).put hg (List.mem_singleton.2 rfl)).below fun k hk=>by
   obtain rfl:k=B:=List.mem_singleton.1 hk
   rw[h.at_,h'.at_]
theorem row1z_any(B1 B2:Nat)(w:World)(h1:Blk w B1 #[.int .i64 0] 3)(h2:Blk w B2 #[.int .i64 0] 3)(hne:B1≠B2):Calls Tryz.prog 143 #[.bool false,.pointer (some ⟨B1,0,none⟩),.pointer (some ⟨B2,0,none⟩)] w fun r w'=>r= .returned (.int .i64 0)∧Below w.heap.size w w':=by
 have HM:Hid (Mem { w with heap:=#[]} w [(B1,#[.int .i64 0],3),(B2,#[.int .i64 0],3)]):=Zh ⟨⟨rfl,rfl,rfl,Nat.zero_le _,fun k hk=>absurd hk (Nat.not_lt_zero k)⟩,fun e he=>by
  rcases List.mem_cons.1 he with rfl|he
  ·exact h1
  ·obtain rfl:=List.mem_singleton.1 he
   exact h2,by simp[hne],fun e _=>Nat.zero_le _⟩
 generalize({ w with heap:=#[]}:World)=a0 at HM
 have HO:=Zh (Outof.refl [B1,B2] w)
 have hm1:Hid (B1∈ [B1,B2]):=Zh (List.mem_cons_self ..)
 have hm2:Hid (B2∈ [B1,B2]):=Zh (List.mem_cons_of_mem _ (List.mem_cons_self ..))
 have uI:=Tryz.underlying3
 replace h1:=Zh h1
 replace h2:=Zh h2
 replace uI:=Zh uI
 replace hne:=Zh hne
 generalize hbs: [B1,B2]=bs at*
 replace hbs:=Zh hbs
 go_enter Tryz.func143,Tryz.ntmps143
 have p1:=HM.out.cell 0 rfl
 have p2:=HM.out.cell 1 rfl
 go_wp2_with(first|(refine wpList_storeM 0 HM rfl _ _ _ rfl _ _ rfl rfl _ (by conv=> {lhs;whnf}) (by exact zint) (by rfl) (Nat.le_of_ble_eq_true (by rfl)) _ (by simp only[setL,List.set,Value.cells];exact rfl) ?_;clear HM p1 p2;intro w4 HM hG4;simp only[List.set]at HM;have p1:=HM.out.cell 0 rfl;have p2:=HM.out.cell 1 rfl;replace HO:=Zh (HO.out.put hG4.out hm1.out);clear hG4)|(refine wpList_storeM 1 HM rfl _ _ _ rfl _ _ rfl rfl _ (by conv=> {lhs;whnf}) (by exact zint) (by rfl) (Nat.le_of_ble_eq_true (by rfl)) _ (by simp only[setL,List.set,Value.cells];exact rfl) ?_;clear HM p1 p2;intro w4 HM hG4;simp only[List.set]at HM;have p1:=HM.out.cell 0 rfl;have p2:=HM.out.cell 1 rfl;replace HO:=Zh (HO.out.put hG4.out hm2.out);clear hG4)|fail)
 all_goals
  try go_ret
  refine⟨rfl,HO.out.below fun k hk=> ?_⟩
  rw[←hbs.out]at hk
  rcases List.mem_cons.1 hk with rfl|hk
  ·exact(HM.out.at_ 0 rfl).at_.trans h1.out.at_.symm
  ·obtain rfl:=List.mem_singleton.1 hk
   exact(HM.out.at_ 1 rfl).at_.trans h2.out.at_.symm
theorem who_cases(c:Cpl)(x:Wsh):(stepN c x).2=0∨(stepN c x).2=1∨(stepN c x).2=2:=by
 unfold stepN actN whoN
 dsimp only
 repeat' split
 all_goals simp
theorem losses0_any(c:Cpl)(v:CplV)(l:List Wsh)(Al:Option Addr)(n cl:Nat)(w:World)(h:CplIs w v c)(hl:WshS w Al n l)(hn:v.nf≤1048576)(hr:runC c l=0)(hk:CplOk c)(hkp:Kept l):Calls Tryz.prog 42 #[.agg (cplA c v),.slice Al n cl] w fun r w'=>r= .returned (.tuple #[.int .i64 0,.int .i64 0,.int .i64 0])∧Below w.heap.size w w':=by
 have HM:=Zh (Mem.start w)
 have uC:=Tryz.underlying57
 have uW:=Tryz.underlying68
 have uF:=Tryz.underlying125
 have hlen:=hl.len
 have hs:=hl.small
 unfold maxLen at hs
 have cK:=fun W (hb:Below w.heap.size w W)=>startR_any c v l Al n cl W (h.keep hb) (hl.keep hb)
 rw[hr]at cK
 have hfl:=h.f.len
 have hchk:chkCp c=0∧n≤4096:=by
  unfold runC at hr
  split at hr
  ·cases hr
  rename_i h1
  split at hr
  ·cases hr
  ·exact⟨Decidable.not_not.1 h1,by omega⟩
 obtain⟨⟨p1,p2,f0,f1⟩,hI⟩:=chkCp_iff.1 hchk.1
 have hn4:=hchk.2
 clear hchk p1 p2 hI hr
 replace cK:=Zh cK
 replace hl:=Zh hl
 replace hlen:=Zh hlen
 replace h:=Zh h
 replace uC:=Zh uC
 replace uW:=Zh uW
 replace uF:=Zh uF
 replace hk:=Zh hk
 replace hkp:=Zh hkp
 replace f0:=Zh f0
 replace f1:=Zh f1
 go_enter Tryz.func42,Tryz.ntmps42
 have mk1:Unit:=()
 go_upto_region 4 with(first|go_skip|(clear mk1;refine wpList_boxA HM rfl 57 _ rfl _ rfl ?_;clear HM;intro gc w1 HM hG;clear hG)|(refine wpList_loadG 0 HM (by rfl) _ _ rfl _ rfl rfl _ uC.out rfl (by exact zcp) ?_)|(go_at_call 98;refine(cK.out _ HM.out.below).mono ?_;rintro r w3 ⟨rfl,hb_⟩;replace HM:=Zh (HM.out.keep hb_);clear hb_;dsimp only)|fail)
 have mk2:Unit:=()
 go_upto_region 5 with(first|(clear mk2;go_at_call 92;refine(row_any _).mono ?_;rintro r w4 ⟨B1,B2,rfl,HR⟩;replace HM:=Zh (HM.out.join HR);clear HR)|(go_at_call 92;refine(row_any _).mono ?_;rintro r w5 ⟨B3,B4,rfl,HR⟩;replace HM:=Zh (HM.out.join HR);clear HR)|fail)
 have HM5:=Zh (HM.out.alloc #[.func (.func 143) #[] #[.pointer (some ⟨B1,0,none⟩),.pointer (some ⟨B2,0,none⟩)],.func (.func 143) #[] #[.pointer (some ⟨B3,0,none⟩),.pointer (some ⟨B4,0,none⟩)]] 125)
 clear HM
 obtain⟨gs,hgs⟩:∃pb,pb=w5.heap.size:=⟨_,rfl⟩
 rw[←hgs]at HM5 ⊢
 clear hgs
 generalize w5.alloc (.cells #[.func (.func 143) #[] #[.pointer (some ⟨B1,0,none⟩),.pointer (some ⟨B2,0,none⟩)],.func (.func 143) #[] #[.pointer (some ⟨B3,0,none⟩),.pointer (some ⟨B4,0,none⟩)]] 125)=w6 at*
 have HM:=HM5
 clear HM5
 go_upto_region 6 with fail
 have HM5:=Zh (HM.out.alloc #[.int .i64 0,.int .i64 0] 3)
 clear HM
 obtain⟨gm,hgm⟩:∃pb,pb=w6.heap.size:=⟨_,rfl⟩
 rw[←hgm]at HM5 ⊢
 clear hgm
 generalize w6.alloc (.cells #[.int .i64 0,.int .i64 0] 3)=w7 at*
 have HM:=HM5
 clear HM5
 replace HM:Hid (Mem w _ [(gm,#[.int .i64 0,.int .i64 0],3),(gs,#[.func (.func 143) #[] #[.pointer (some ⟨B1,0,none⟩),.pointer (some ⟨B2,0,none⟩)],.func (.func 143) #[] #[.pointer (some ⟨B3,0,none⟩),.pointer (some ⟨B4,0,none⟩)]],125),(B3,#[.int .i64 0],3),(B4,#[.int .i64 0],3),(B1,#[.int .i64 0],3),(B2,#[.int .i64 0],3),(gc,cplA c v,57)]):=HM
 clear cK
 have hF:=Zh h.out
 go_wp2_with fail
 go_loopw[11,12,13,26] (fun _ _ _ i wr=>Hid (∃(q:Nat) (d:Cpl) (vd:CplV),q≤n∧i= .int .i64 q∧Hid (stepsN (l.take q) c=d)∧Hid (Mem w wr [(gm,#[.int .i64 0,.int .i64 0],3),(gs,#[.func (.func 143) #[] #[.pointer (some ⟨B1,0,none⟩),.pointer (some ⟨B2,0,none⟩)],.func (.func 143) #[] #[.pointer (some ⟨B3,0,none⟩),.pointer (some ⟨B4,0,none⟩)]],125),(B3,#[.int .i64 0],3),(B4,#[.int .i64 0],3),(B1,#[.int .i64 0],3),(B2,#[.int .i64 0],3),(gc,cplA d vd,57)])∧Hid ((q=0∧d=c∧vd=v)∨CplOwn wr vd d))) (fun _ _ _ i _=>n-(intOf i).toNat)
 case atStart=>exact Zh ⟨0,c,v,by omega,rfl,rfl,HM,Zh (.inl ⟨rfl,rfl,rfl⟩)⟩
 case round=>
  clear HM hF
  obtain⟨q,d,vd,hq,rfl,hD,HM,hO⟩:=hrel.out
  clear hrel
  by_cases hlt:q<n
  ·have hql:q<l.length:=by rw[hlen.out];exact hlt
   obtain⟨bq,off,rfl⟩:=hl.out.addr (by omega)
   have hrg:=Zh (fun(W:World) (hb:Below w.heap.size w W)=>wsh_range (hl.out.keep hb) hlt)
   have hD2:stepsN (l.take (q+1)) c=(stepN d (l.getD q default)).1:=by rw[take_wsh hql,steps_snoc,hD.out]
   have hkd:CplOk d:=by rw[←hD.out];exact CplOk.steps _ hk.out
   have hst:=still_steps (l.take q) c
   rw[hD.out,List.length_take,hlen.out]at hst
   have hfd0:0≤d.frame:=by rw[hst.frame];have:=f0.out;omega
   have hfd1:d.frame≤2305843009213693952:=by rw[hst.frame];have:=f1.out;omega
   have hxm:l.getD q default∈l:=by rw[List.getD_eq_getElem?_getD,List.getElem?_eq_getElem hql];exact List.getElem_mem hql
   obtain⟨x1,x2⟩:=hkp.out _ hxm
   obtain⟨F0,hFs,hF,gO⟩:∃F:World→Prop,Stc F∧Hid (F wr)∧Hid (∀W,Below w.heap.size w W→F W→CplIs W vd d):=by
    rcases hO.out with⟨_,rfl,rfl⟩|hO
    ·exact⟨_,Stc.true,Zh trivial,Zh fun W hb _=>h.out.keep hb⟩
    ·exact⟨_,Stc.cplOwn vd d,Zh hO,Zh fun W _ h=>h.is⟩
   have hnd:vd.nf≤1048576:=by rw[←((gO.out _ HM.out.below hF.out).f.len),hst.free,hfl];exact hn
   have hnu:=HM.out.nodup
   simp only[List.map_cons,List.map_nil,List.nodup_cons,List.mem_cons,List.not_mem_nil,or_false,not_or]at hnu
   have hne2:Hid (B1≠B2):=Zh hnu.2.2.2.2.1.1
   have hne4:Hid (B3≠B4):=Zh hnu.2.2.1.1
   generalize l.getD q default=x at*
   have hw:=who_cases d x
   have cS:=fun W (q:CplIs W vd d)=>stepP_any d vd x W q hkd hnd hfd0 hfd1
   unfold StepPost at cS
   generalize(stepN d x).2=N9 at*
   generalize(stepN d x).1=d2 at*
   clear hD hql hst hfd0 hfd1 hnd hkd hxm hO hnu
   have r1:(q:Int)<(n:Int):=by omega
   have r0:(0:Int)≤(q:Int):=by omega
   obtain⟨xo,xk,xc,⟨y1,y2,y3,y4⟩⟩:=x
   dsimp only at x1 x2
   subst x1
   subst x2
   replace hD2:=Zh hD2
   replace cS:=Zh cS
   replace hw:=Zh hw
   have mk5:Unit:=()
   go_upto_region 9 with(first|go_skip|(refine wpList_load_mid rfl 68 _ rfl bq (off+q*7) rfl (wshE ⟨xo,xk,xc,⟨false,false,y3,y4⟩⟩) _ (hrg.out _ HM.out.below) uW.out rfl (by exact zws) ?_)|(clear mk5;refine wpList_allocN HM rfl 68 rfl wsInfo ?_;clear HM;intro g11 w1 HM hG hN9;replace hF:=Zh (hFs.keep hF.out hG.out);clear hG hN9)|(refine wpList_storeF 0 HM rfl _ _ _ rfl _ rfl rfl _ rfl (by exact zws) (by rfl) (by rfl) ?_;have hBq:=HM.out.at_ 0 rfl;clear HM;intro w4 HM hG4;simp only[List.set]at HM;replace hF:=Zh (hFs.put hF.out hBq (by decide) (by decide) (by decide) hG4.out);clear hBq hG4)|fail)
   go_upto_region 11 with(first|go_skip|(refine wpList_loadG 0 HM (by rfl) _ _ rfl _ rfl rfl _ uW.out rfl (by exact zws) ?_)|(refine wpList_loadG 7 HM (by rfl) _ _ rfl _ rfl rfl _ uC.out rfl (by exact zcp) ?_)|(go_at_call 94;refine(cS.out _ (gO.out _ HM.out.below hF.out)).mono ?_;rintro r w3 ⟨v3,rfl,hO3,hb_⟩;replace HM:=Zh (HM.out.keep hb_);clear hF hFs gO F0 hb_;replace hO3:=Zh hO3;dsimp only)|(refine wpList_storeF 7 HM rfl _ _ _ rfl _ rfl rfl _ rfl (by exact zcp) (by rfl) (by rfl) ?_;have hBq:=HM.out.at_ 7 rfl;clear HM;intro w4 HM hG4;simp only[List.set]at HM;replace hO3:=Zh ((Stc.cplOwn ..).put hO3.out hBq (by decide) (by decide) (by decide) hG4.out);clear hBq hG4)|fail)
   clear cS
   rcases hw.out with rfl|rfl|rfl
   ·go_wp2_with fail
    exact⟨Zh ⟨q+1,d2,v3,by omega,by go_num,hD2,Zh (HM.out.sub (by repeat(first|exact List.Sublist.refl _|apply List.Sublist.cons_cons|apply List.Sublist.cons))),Zh (.inr hO3.out)⟩,by simp[intOf];omega⟩
   ·skip
    go_upto_region 13 with fail
    replace hO3:=Zh ((Stc.cplOwn ..).keep hO3.out ((Below.refl _ _).drew))
    replace HM:=Zh (HM.out.keep ((Below.refl _ _).drew))
    have HMs:=Zh HM.out
    refine wp_region_plan (fun w'=>Mem _ w' _) 10 [(0,true),(1,true),(2,true),(3,true),(4,true),(5,true),(6,true),(7,true),(8,true),(9,false)] (by kernel_rfl) (by kernel_rfl) HMs.out ?_
    clear HMs
    generalize World.drew _=wd at*
    repeat(refine plPure rfl rfl (by intro w_ hSw;go_simp;first|done|exact rfl) ?_;try go_frame)
    refine plTakeL (by rfl) (yields_memc rfl _ _ rfl 2 (fun w_ hSw=>hSw) rfl 0 rfl (.func (.func 143) #[] #[.pointer (some ⟨B1,0,none⟩),.pointer (some ⟨B2,0,none⟩)]) (by rfl) _ uF.out (by rfl)) ?_
    try go_frame
    repeat(refine plPure rfl rfl (by intro w_ hSw;go_simp;first|done|exact rfl) ?_;try go_frame)
    refine plTakeL (by rfl) (yields_memc rfl _ _ rfl 0 (fun w_ hSw=>hSw) rfl 3 rfl (.bool false) (by rfl) _ Tryz.underlying4 (by rfl)) ?_
    try go_frame
    refine plStepL rfl rfl fun K hK=> ?_
    go_wp2_with(first|(go_at_call 143;refine(row1z_any B1 B2 _ (HM.out.at_ 5 rfl) (HM.out.at_ 6 rfl) hne2.out).mono ?_;rintro r w9 ⟨rfl,hb_⟩)|fail)
    refine hK.out _ _ (HM.out.keep hb_) fun hS_=> ?_
    clear hK K hS_
    try go_frame
    replace HM:=Zh (HM.out.keep hb_)
    replace hO3:=Zh ((Stc.cplOwn ..).keep hO3.out hb_)
    clear hb_
    refine plDone ?_
    simp only[List.drop]
    go_upto_region 14 with(first|(have hBq:=HM.out.at_ 1 rfl;refine wpList_storeM 1 HM rfl _ _ _ rfl _ 0 rfl rfl (.int .i64 0) rfl (by exact zint) (by rfl) (Nat.le_of_ble_eq_true (by rfl)) (#[.int .i64 0,.int .i64 0]) (by rfl) ?_;clear HM;intro w10 HM hG4;simp only[List.set]at HM;replace hO3:=Zh ((Stc.cplOwn ..).keep hO3.out (below_same hBq (HM.out.at_ 1 rfl) hG4.out));clear hBq hG4)|fail)
    have pr:World.cell? _ ⟨g11,3,none⟩=some (.bool false):=HM.out.cell 0 rfl 3
    go_upto_region 15 with fail
    replace hO3:=Zh ((Stc.cplOwn ..).keep hO3.out ((Below.refl _ _).drew))
    replace HM:=Zh (HM.out.keep ((Below.refl _ _).drew))
    have HMs:=Zh HM.out
    refine wp_region_plan (fun w'=>Mem _ w' _) 12 [(0,true),(1,true),(2,true),(3,true),(4,true),(5,true),(6,true),(7,true),(8,true),(9,true),(10,true),(11,false)] (by kernel_rfl) (by kernel_rfl) HMs.out ?_
    clear HMs
    generalize World.drew _=wd at*
    repeat(refine plPure rfl rfl (by intro w_ hSw;go_simp;first|done|exact rfl) ?_;try go_frame)
    refine plTakeL (by rfl) (yields_memc rfl _ _ rfl 2 (fun w_ hSw=>hSw) rfl 1 rfl (.func (.func 143) #[] #[.pointer (some ⟨B3,0,none⟩),.pointer (some ⟨B4,0,none⟩)]) (by rfl) _ uF.out (by rfl)) ?_
    try go_frame
    repeat(refine plPure rfl rfl (by intro w_ hSw;go_simp;first|done|exact rfl) ?_;try go_frame)
    refine plTakeL (by rfl) (yields_memc rfl _ _ rfl 0 (fun w_ hSw=>hSw) rfl 4 rfl (.bool false) (by rfl) _ Tryz.underlying4 (by rfl)) ?_
    try go_frame
    refine plStepL rfl rfl fun K hK=> ?_
    go_wp2_with(first|(go_at_call 143;refine(row1z_any B3 B4 _ (HM.out.at_ 3 rfl) (HM.out.at_ 4 rfl) hne4.out).mono ?_;rintro r w9 ⟨rfl,hb_⟩)|fail)
    refine hK.out _ _ (HM.out.keep hb_) fun hS_=> ?_
    clear hK K hS_
    try go_frame
    replace HM:=Zh (HM.out.keep hb_)
    replace hO3:=Zh ((Stc.cplOwn ..).keep hO3.out hb_)
    clear hb_
    refine plDone ?_
    simp only[List.drop]
    go_wp2_with(first|(have hBq:=HM.out.at_ 1 rfl;refine wpList_storeM 1 HM rfl _ _ _ rfl _ 1 rfl rfl (.int .i64 0) rfl (by exact zint) (by rfl) (Nat.le_of_ble_eq_true (by rfl)) (#[.int .i64 0,.int .i64 0]) (by rfl) ?_;clear HM;intro w10 HM hG4;simp only[List.set]at HM;replace hO3:=Zh ((Stc.cplOwn ..).keep hO3.out (below_same hBq (HM.out.at_ 1 rfl) hG4.out));clear hBq hG4)|fail)
    exact⟨Zh ⟨q+1,d2,v3,by omega,by go_num,hD2,Zh (HM.out.sub (by repeat(first|exact List.Sublist.refl _|apply List.Sublist.cons_cons|apply List.Sublist.cons))),Zh (.inr hO3.out)⟩,by simp[intOf];omega⟩
   ·skip
    go_upto_region 13 with fail
    replace hO3:=Zh ((Stc.cplOwn ..).keep hO3.out ((Below.refl _ _).drew))
    replace HM:=Zh (HM.out.keep ((Below.refl _ _).drew))
    have HMs:=Zh HM.out
    refine wp_region_plan (fun w'=>Mem _ w' _) 10 [(0,true),(1,true),(2,true),(3,true),(4,true),(5,true),(6,true),(7,true),(8,true),(9,false)] (by kernel_rfl) (by kernel_rfl) HMs.out ?_
    clear HMs
    generalize World.drew _=wd at*
    repeat(refine plPure rfl rfl (by intro w_ hSw;go_simp;first|done|exact rfl) ?_;try go_frame)
    refine plTakeL (by rfl) (yields_memc rfl _ _ rfl 2 (fun w_ hSw=>hSw) rfl 1 rfl (.func (.func 143) #[] #[.pointer (some ⟨B3,0,none⟩),.pointer (some ⟨B4,0,none⟩)]) (by rfl) _ uF.out (by rfl)) ?_
    try go_frame
    repeat(refine plPure rfl rfl (by intro w_ hSw;go_simp;first|done|exact rfl) ?_;try go_frame)
    refine plTakeL (by rfl) (yields_memc rfl _ _ rfl 0 (fun w_ hSw=>hSw) rfl 3 rfl (.bool false) (by rfl) _ Tryz.underlying4 (by rfl)) ?_
    try go_frame
    refine plStepL rfl rfl fun K hK=> ?_
    go_wp2_with(first|(go_at_call 143;refine(row1z_any B3 B4 _ (HM.out.at_ 3 rfl) (HM.out.at_ 4 rfl) hne4.out).mono ?_;rintro r w9 ⟨rfl,hb_⟩)|fail)
    refine hK.out _ _ (HM.out.keep hb_) fun hS_=> ?_
    clear hK K hS_
    try go_frame
    replace HM:=Zh (HM.out.keep hb_)
    replace hO3:=Zh ((Stc.cplOwn ..).keep hO3.out hb_)
    clear hb_
    refine plDone ?_
    simp only[List.drop]
    go_upto_region 14 with(first|(have hBq:=HM.out.at_ 1 rfl;refine wpList_storeM 1 HM rfl _ _ _ rfl _ 1 rfl rfl (.int .i64 0) rfl (by exact zint) (by rfl) (Nat.le_of_ble_eq_true (by rfl)) (#[.int .i64 0,.int .i64 0]) (by rfl) ?_;clear HM;intro w10 HM hG4;simp only[List.set]at HM;replace hO3:=Zh ((Stc.cplOwn ..).keep hO3.out (below_same hBq (HM.out.at_ 1 rfl) hG4.out));clear hBq hG4)|fail)
    have pr:World.cell? _ ⟨g11,3,none⟩=some (.bool false):=HM.out.cell 0 rfl 3
    go_upto_region 15 with fail
    replace hO3:=Zh ((Stc.cplOwn ..).keep hO3.out ((Below.refl _ _).drew))
    replace HM:=Zh (HM.out.keep ((Below.refl _ _).drew))
    have HMs:=Zh HM.out
    refine wp_region_plan (fun w'=>Mem _ w' _) 12 [(0,true),(1,true),(2,true),(3,true),(4,true),(5,true),(6,true),(7,true),(8,true),(9,true),(10,true),(11,false)] (by kernel_rfl) (by kernel_rfl) HMs.out ?_
    clear HMs
    generalize World.drew _=wd at*
    repeat(refine plPure rfl rfl (by intro w_ hSw;go_simp;first|done|exact rfl) ?_;try go_frame)
    refine plTakeL (by rfl) (yields_memc rfl _ _ rfl 2 (fun w_ hSw=>hSw) rfl 0 rfl (.func (.func 143) #[] #[.pointer (some ⟨B1,0,none⟩),.pointer (some ⟨B2,0,none⟩)]) (by rfl) _ uF.out (by rfl)) ?_
    try go_frame
    repeat(refine plPure rfl rfl (by intro w_ hSw;go_simp;first|done|exact rfl) ?_;try go_frame)
    refine plTakeL (by rfl) (yields_memc rfl _ _ rfl 0 (fun w_ hSw=>hSw) rfl 4 rfl (.bool false) (by rfl) _ Tryz.underlying4 (by rfl)) ?_
    try go_frame
    refine plStepL rfl rfl fun K hK=> ?_
    go_wp2_with(first|(go_at_call 143;refine(row1z_any B1 B2 _ (HM.out.at_ 5 rfl) (HM.out.at_ 6 rfl) hne2.out).mono ?_;rintro r w9 ⟨rfl,hb_⟩)|fail)
    refine hK.out _ _ (HM.out.keep hb_) fun hS_=> ?_
    clear hK K hS_
    try go_frame
    replace HM:=Zh (HM.out.keep hb_)
    replace hO3:=Zh ((Stc.cplOwn ..).keep hO3.out hb_)
    clear hb_
    refine plDone ?_
    simp only[List.drop]
    go_wp2_with(first|(have hBq:=HM.out.at_ 1 rfl;refine wpList_storeM 1 HM rfl _ _ _ rfl _ 0 rfl rfl (.int .i64 0) rfl (by exact zint) (by rfl) (Nat.le_of_ble_eq_true (by rfl)) (#[.int .i64 0,.int .i64 0]) (by rfl) ?_;clear HM;intro w10 HM hG4;simp only[List.set]at HM;replace hO3:=Zh ((Stc.cplOwn ..).keep hO3.out (below_same hBq (HM.out.at_ 1 rfl) hG4.out));clear hBq hG4)|fail)
    exact⟨Zh ⟨q+1,d2,v3,by omega,by go_num,hD2,Zh (HM.out.sub (by repeat(first|exact List.Sublist.refl _|apply List.Sublist.cons_cons|apply List.Sublist.cons))),Zh (.inr hO3.out)⟩,by simp[intOf];omega⟩
  ·obtain rfl:q=n:=by omega
   go_upto_region 17 with fail
   replace HM:=Zh (HM.out.keep ((Below.refl _ _).drew))
   have HMs:=Zh HM.out
   refine wp_region_plan (fun w'=>Mem _ w' _) 7 [(0,true),(1,true),(2,true),(3,true),(4,true),(5,true),(6,true)] (by kernel_rfl) (by kernel_rfl) HMs.out ?_
   clear HMs
   generalize World.drew _=wd at*
   repeat(first|(refine plPure rfl rfl (by intro w_ hSw;go_simp;first|done|exact rfl) ?_;try go_frame)|(refine plTakeL (by rfl) (yields_memc rfl _ _ rfl 0 (fun w_ hSw=>hSw) rfl _ rfl _ rfl _ (by first|exact Tryz.underlying3|exact Tryz.underlying4|exact Tryz.underlying23|exact Tryz.underlying22) (by rfl)) ?_;try go_frame))
   refine plDone ?_
   simp only[List.drop]
   go_wp2_with fail
   try simp only[Exit.inBlock,Exit.then]
   refine bodyPost_ret (v:= .tuple #[.int .i64 0,.int .i64 0,.int .i64 0]) (by simp[results,Tryz.results42,go_sem]) rfl ⟨rfl,HM.out.below⟩
theorem wshE_one(x:Wsh):∀v∈wshE x,v.oneCell'=true:=fun v hv=>by
 obtain⟨a,b,c,d,e,f,g⟩:=x
 simp only[wshE,List.mem_cons,List.not_mem_nil,or_false]at hv
 rcases hv with rfl|rfl|rfl|rfl|rfl|rfl|rfl<;>rfl
theorem cloneW_any(A:Option Addr)(n c:Nat)(xs:List Wsh)(w:World)(hs:WshS w A n xs)(hn:n≤100000):
 Calls Tryz.prog 44 #[.slice A n c] w (ClonePost wshE 7 68 n xs w):=by
 have heq:=fun W=>Lib.run_eql_slice_nil (P:=Tryz.prog) W 50 68 A n c 0 0 Tryz.underlying50
 have hlen:=hs.len
 rcases A with _|a
 ·have h0:n=0:=by
   rcases Nat.eq_zero_or_pos n with h|h
   ·exact h
   ·obtain⟨b,off,e⟩:=hs.addr h;cases e
  subst h0
  have hc:xs= []:=List.length_eq_zero_iff.1 hlen
  subst hc
  replace hs:=Zh hs
  replace hlen:=Zh hlen
  simp only[Option.isNone_none]at heq
  go_enter Tryz.func44,Tryz.ntmps44
  go_wp2
  go_ret
  exact⟨none,0,rfl,World.ownsRow_nil _ _ _ _,Below.refl _ _⟩
 ·simp only[Option.isNone_some]at heq
  obtain⟨i0,hi,hz0,hz1,hz2⟩:=info_parts wsInfo
  have hm0:=World.ownsRow_made (base:=w.heap.size) (e:=68) (size:=7) w #[] 0 (Nat.le_refl _) (by decide) rfl
  have hb0:=ball w (.cells #[] 68)
  have hsk:=hs.keep hb0
  have hnews:∀j u,(xs.flatMap wshE)[j]? =some u→(w.alloc (.cells #[] 68)).cell? (a.add j)=some u:=by
   rcases Nat.eq_zero_or_pos n with h|h
   ·have hx:xs= []:=List.length_eq_zero_iff.1 (by omega)
    subst hx
    intro j u hu;simp at hu
   ·exact hsk.news wshE_len h
  have h1:=fm_one wshE_one xs
  have hfl:(xs.flatMap wshE).length=n*7:=by rw[Sk.fm_len wshE 7 wshE_len,hlen]
  replace hi:=Zh hi
  replace hz0:=Zh hz0
  replace hz1:=Zh hz1
  replace hz2:=Zh hz2
  replace hs:=Zh hs
  replace hlen:=Zh hlen
  replace hm0:=Zh hm0
  replace hnews:=Zh hnews
  replace h1:=Zh h1
  replace hfl:=Zh hfl
  replace hb0:=Zh hb0
  replace hsk:=Zh hsk
  go_enter Tryz.func44,Tryz.ntmps44
  go_wp2_with(at_builtin;refine wpList_append_own _ rfl _ _ _ rfl w.heap.size 68 i0 (.agg #[.bool false,.int .i64 0,.int .i64 0,.bool false,.bool false,.bool false,.bool false]) 7 32 Tryz.underlying50 hi.out hz0.out hz1.out hz2.out rfl (by decide) (.slice (some ⟨w.heap.size,0,none⟩) 0 0) 0 [] rfl hm0.out a n c (xs.flatMap wshE) rfl hfl.out hnews.out h1.out ?c1 ?c2 ?c3 ?_)
  try case c1=>unfold maxLen;omega
  try case c2=>omega
  try case c3=>simp
  intro v' w1 hown hgrow _
  have hb1:=below_append hb0.out hm0.out hgrow (Nat.le_refl _)
  obtain⟨A',c',rfl⟩:=own_slice hown
  replace hown:=Zh hown
  replace hgrow:=Zh hgrow
  replace hb1:=Zh hb1
  go_wp2
  go_ret
  exact⟨A',c',by first|rfl|simp,hown.out,hb1.out⟩
theorem indexB0_any(A:Option Addr)(n cp:Nat)(xs:List Bool)(w:World)(h:Sls boolE 1 w A n xs)(ha:∀b∈xs,b=true):Calls Tryz.prog 99 #[.slice A n cp,.bool false] w fun r w'=>r= .returned (.int .i64 (-1))∧Below w.heap.size w w':=by
 have hlen:=h.len
 have hs:=h.small
 unfold maxLen at hs
 replace h:=Zh h
 replace hlen:=Zh hlen
 replace ha:=Zh ha
 go_enter Tryz.func99,Tryz.ntmps99
 go_wp2_with fail
 go_loopw[5,8] (fun _ i wr=>∃k:Nat,k≤n∧i= .int .i64 k∧Hid (Below w.heap.size w wr)) (fun _ i _=>n-(intOf i).toNat)
 case atStart=>exact⟨0,by omega,rfl,Zh (Below.refl _ _)⟩
 case round=>
  obtain⟨k,hk,rfl,HB⟩:=hrel
  by_cases hlt:k<n
  ·obtain⟨b,off,rfl⟩:=h.out.addr (by omega)
   have q0:=bool_at (h.out.keep HB.out) hlt
   have hx:xs.getD k default=true:=by
    refine ha.out _ ?_
    rw[List.getD_eq_getElem?_getD,List.getElem?_eq_getElem (by rw[hlen.out];exact hlt)]
    exact List.getElem_mem _
   rw[hx]at q0
   clear hx
   have r1:(k:Int)<(n:Int):=by omega
   have r0:(0:Int)≤(k:Int):=by omega
   go_wp2_with fail
   go_roundw
   case rel=>exact⟨k+1,by omega,by go_num,HB⟩
   case measure=>simp[intOf];omega
  ·obtain rfl:k=n:=by omega
   go_wp2
   go_ret
   exact⟨rfl,HB.out⟩
theorem containsB0_any(A:Option Addr)(n cp:Nat)(xs:List Bool)(w:World)(h:Sls boolE 1 w A n xs)(ha:∀b∈xs,b=true):Calls Tryz.prog 45 #[.slice A n cp,.bool false] w fun r w'=>r= .returned (.bool false)∧Below w.heap.size w w':=by
 have hi:=indexB0_any A n cp xs w h ha
 replace hi:=Zh hi
 go_enter Tryz.func45,Tryz.ntmps45
 go_wp2_with fail
 refine hi.out.mono ?_
 rintro r w1 ⟨rfl,hb_⟩
 replace hb_:=Zh hb_
 go_wp2
 go_ret
 exact⟨rfl,hb_.out⟩
end Tx
end Go.Proofs.YtggpaahhgchloaaGreat
