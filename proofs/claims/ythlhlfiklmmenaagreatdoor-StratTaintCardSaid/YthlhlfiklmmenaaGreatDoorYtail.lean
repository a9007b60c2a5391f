/-
  WHAT THE LAW LEANS ON, part 12 of 13: a machine of values and its soundness; the functions of the law upon it; what they come to.
-/
import Derived.Test.YthlhlfiklmmenaaGreatDoorYtaik
set_option linter.unusedVariables false
set_option linter.unusedSimpArgs false
set_option maxRecDepth 100000
namespace Go.Aa.T
open Go.Aa Go.Proofs
theorem must_ok(e:Int):Gives cfg 82 [.bool true,.int .i64 e] (.tuple []):=by
 refine Gives.run (l82 _ _) ?_
 exact gG 60 [] trivial (.ff<|.fin ((.ret (.tuple []),{boxes:=[],toks:=[],loops:=[]:Heap})) rfl)
theorem must_no{e:Int}(he:¬e=0):Pans cfg 82 [.bool false,.int .i64 e] (stopV e):=by
 have h:=stop_pan he
 refine Pans.run (l82 _ _) ?_
 exact gG 60 [] trivial (.tt<|.callP ([.int .i64 e]) ({boxes:=[],toks:=[],loops:=[]:Heap}) h ⟨rfl,rfl⟩ rfl rfl)
theorem freeS_len(s:St)(hs:StIn s)(nd:List UInt8):(freeS s nd).1.length≤8:=by
 unfold freeS freeG
 split
 ·refine(subV_rg ?_).2
  unfold capOf
  split
  ·exact fun x hx=>by cases hx
  ·rename_i n hf;exact(hs.cap n (findG_mem hf)).rg
 ·simp
theorem drop_inF{s:St}(h:StIn s)(nm:List UInt8):StIn (dropS s nm):=by
 have l:=off_len nm s.pods
 exact⟨h.nodes,by show(offP nm s.pods).length≤_;have:=h.pods;omega,h.cap,fun p hp=>h.need p (off_mem hp).1⟩
def fitG(s:St)(p:Pod)(nm:List UInt8)(sk:Int)(ok:Bool):Int:=match findG Node.name s.nodes nm with
 |none=>3
 |some n=>if(!n.cordon&&matchB n.labels p.sel)=true then(if(worstB p.tols n.taints).isSome=true then 9 else
   (if(ok&&(p.key==[]||decide (sk≤p.most)))=true then(if(decide ((freeS s nm).2=0)&&fitsV p.need (freeS s nm).1)=true then 0 else 7)else 10))else 8
structure PdIn(p:Pod):Prop where
 need:p.need.length<9223372036854775807
 labels:p.labels.length<9223372036854775807
 sel:p.sel.length<9223372036854775807
 tols:p.tols.length<9223372036854775807
structure NdIn(n:Node):Prop where
 labels:n.labels.length<9223372036854775807
 taints:n.taints.length<9223372036854775807
theorem fit_all(s:St)(hs:StIn s)(hn:∀n∈s.nodes,NdIn n)(p:Pod)(hp:PdIn p)(nm:List UInt8)(sk:Int)(ok:Bool)
 (h83:Gives cfg 85 [encSt s,encPd p,.str nm] (.tuple [.int .i64 sk,.bool ok])):
 Goes cfg a80 [.c c80] (initEnv [.ptr 0 0,.ptr 2 0,.ptr 1 0]) ⟨[(encSt s).cells,(encPd p).cells,[.str nm]],[],[]⟩ (ChkR (fitG s p nm sk ok)):=by
 have f:=findN_any s.nodes nm hs.nodes
 unfold fitG
 cases hf:findG Node.name s.nodes nm with
 |none=>
  rw[hf]at f
  simp only
  have m3:Pans cfg 82 [.bool false,.int .i64 3] (stopV 3):=must_no (by decide)
  exact let ζ1:List AV:=[.str [],.sl .sh [],.sl .sh [],.sl .sh [],.bool false];let ζ2:List AV:=[.sl .sh (s.nodes.map encN),.str nm];gG 120 [] trivial (.callK (ζ2) (.tuple [.agg ζ1,.bool false]) f<|.callP ([.bool false,.int .i64 3]) ({boxes:=[[.sl .sh (s.nodes.map encN),.sl .sh (s.pods.map encPd),.sl .sh (s.buds.map encB)],[.str p.name,.str p.owner,.int .i64 p.prio,.sl .sh (p.need.map encA),.sl .sh (p.labels.map encP),.sl .sh (p.sel.map encM),.sl .sh (p.tols.map encL),.str p.key,.int .i64 p.most,.str p.node,.bool p.hold],[.str nm],ζ1],toks:=[],loops:=[]:Heap}) m3 ⟨rfl,rfl⟩ rfl (by exact .inr ⟨by decide,rfl⟩))
 |some n=>
  rw[hf]at f
  have hni:=hn n (findG_mem hf)
  have mt:=match_any n.labels p.sel hni.labels hp.sel
  have m8:Pans cfg 82 [.bool false,.int .i64 8] (stopV 8):=must_no (by decide)
  simp only
  cases hc:n.cordon with
  |true=>
   rw[if_neg (by simp)]
   exact let ζ1:List AV:=[.str n.name,.sl .sh (n.cap.map encA),.sl .sh (n.labels.map encP),.sl .sh (n.taints.map encT),.bool n.cordon];let ζ2:List AV:=[.sl .sh (s.nodes.map encN),.str nm];gG 160 [] trivial (.callK (ζ2) (.tuple [.agg ζ1,.bool true]) f<|.callK ([.bool true,.int .i64 3]) (.tuple []) (show Gives cfg 82 [.bool true,.int .i64 3] (.tuple [])from must_ok _)<|.no (show(!n.cordon)=false from by have hh:n.cordon=true:=(by exact hc);simp[hh])<|.callP ([.bool false,.int .i64 8]) ({boxes:=[[.sl .sh (s.nodes.map encN),.sl .sh (s.pods.map encPd),.sl .sh (s.buds.map encB)],[.str p.name,.str p.owner,.int .i64 p.prio,.sl .sh (p.need.map encA),.sl .sh (p.labels.map encP),.sl .sh (p.sel.map encM),.sl .sh (p.tols.map encL),.str p.key,.int .i64 p.most,.str p.node,.bool p.hold],[.str nm],ζ1],toks:=[],loops:=[]:Heap}) m8 ⟨rfl,rfl⟩ rfl (by exact .inr ⟨by decide,rfl⟩))
  |false=>
   cases hm:matchB n.labels p.sel with
   |false=>
    rw[hm]at mt
    rw[if_neg (by simp)]
    exact let ζ1:List AV:=[.str n.name,.sl .sh (n.cap.map encA),.sl .sh (n.labels.map encP),.sl .sh (n.taints.map encT),.bool n.cordon];let ζ2:List AV:=[.sl .sh (p.sel.map encM),.sl .sh (n.labels.map encP)];let ζ3:List AV:=[.sl .sh (s.nodes.map encN),.str nm];gG 160 [] trivial (.callK (ζ3) (.tuple [.agg ζ1,.bool true]) f<|.callK ([.bool true,.int .i64 3]) (.tuple []) (show Gives cfg 82 [.bool true,.int .i64 3] (.tuple [])from must_ok _)<|.yes (show(!n.cordon)=true from by have hh:¬(n.cordon=true):=(by simp+zetaDelta [hc]);simp[hh])<|.callK (ζ2) (.bool false) mt<|.callP ([.bool false,.int .i64 8]) ({boxes:=[[.sl .sh (s.nodes.map encN),.sl .sh (s.pods.map encPd),.sl .sh (s.buds.map encB)],[.str p.name,.str p.owner,.int .i64 p.prio,.sl .sh (p.need.map encA),.sl .sh (p.labels.map encP),.sl .sh (p.sel.map encM),.sl .sh (p.tols.map encL),.str p.key,.int .i64 p.most,.str p.node,.bool p.hold],[.str nm],ζ1],toks:=[],loops:=[]:Heap}) m8 ⟨rfl,rfl⟩ rfl (by exact .inr ⟨by decide,rfl⟩))
   |true=>
    rw[hm]at mt
    rw[if_pos (by simp)]
    have w:=worst_any p.tols n.taints hp.tols hni.taints
    cases hw:worstB p.tols n.taints with
    |some x=>
     rw[hw]at w
     have w:Gives cfg 84 [.sl .sh (p.tols.map encL),.sl .sh (n.taints.map encT)] (.tuple [encT x,.bool true]):=w
     rw[if_pos (show(some x).isSome=true from rfl)]
     have m9:Pans cfg 82 [.bool false,.int .i64 9] (stopV 9):=must_no (by decide)
     exact let ζ1:List AV:=[.str n.name,.sl .sh (n.cap.map encA),.sl .sh (n.labels.map encP),.sl .sh (n.taints.map encT),.bool n.cordon];let ζ2:List AV:=[.sl .sh (p.tols.map encL),.sl .sh (n.taints.map encT)];let ζ3:List AV:=[.sl .sh (p.sel.map encM),.sl .sh (n.labels.map encP)];let ζ4:List AV:=[.sl .sh (s.nodes.map encN),.str nm];let ζ5:List AV:=[.str x.key,.str x.val,.bool x.hard];gG 160 [] trivial (.callK (ζ4) (.tuple [.agg ζ1,.bool true]) f<|.callK ([.bool true,.int .i64 3]) (.tuple []) (show Gives cfg 82 [.bool true,.int .i64 3] (.tuple [])from must_ok _)<|.yes (show(!n.cordon)=true from by have hh:¬(n.cordon=true):=(by simp+zetaDelta [hc]);simp[hh])<|.callK (ζ3) (.bool true) mt<|.callK ([.bool true,.int .i64 8]) (.tuple []) (show Gives cfg 82 [.bool true,.int .i64 8] (.tuple [])from must_ok _)<|.callK (ζ2) (.tuple [.agg ζ5,.bool true]) w<|.callP ([.bool !true,.int .i64 9]) ({boxes:=[[.sl .sh (s.nodes.map encN),.sl .sh (s.pods.map encPd),.sl .sh (s.buds.map encB)],[.str p.name,.str p.owner,.int .i64 p.prio,.sl .sh (p.need.map encA),.sl .sh (p.labels.map encP),.sl .sh (p.sel.map encM),.sl .sh (p.tols.map encL),.str p.key,.int .i64 p.most,.str p.node,.bool p.hold],[.str nm],ζ1,ζ5],toks:=[],loops:=[]:Heap}) m9 ⟨rfl,rfl⟩ rfl (by exact .inr ⟨by decide,rfl⟩))
    |none=>
     rw[hw]at w
     have w:Gives cfg 84 [.sl .sh (p.tols.map encL),.sl .sh (n.taints.map encT)] (.tuple [encT noT,.bool false]):=w
     rw[if_neg (by simp)]
     have m10:Pans cfg 82 [.bool false,.int .i64 10] (stopV 10):=must_no (by decide)
     have m7:Pans cfg 82 [.bool false,.int .i64 7] (stopV 7):=must_no (by decide)
     obtain⟨c,fr⟩:=free_any s nm hs
     have fi:=freeS_len s hs nm
     have ft:=fits_any p.need (freeS s nm).1 hp.need (by omega)
     generalize freeS s nm=u at fr ft fi⊢
     obtain⟨u,e⟩:=u
     have fr:Gives cfg 86 [encSt s,.str nm] (resW c u e):=fr
     have ft:Gives cfg 87 [.sl .sh (p.need.map encA),.sl .sh (u.map encA)] (.bool (fitsV p.need u)):=ft
     simp only
     generalize fitsV p.need u=b at ft⊢
     cases ok with
     |false=>
      rw[if_neg (by simp)]
      exact let ζ1:List AV:=[.str p.name,.str p.owner,.int .i64 p.prio,.sl .sh (p.need.map encA),.sl .sh (p.labels.map encP),.sl .sh (p.sel.map encM),.sl .sh (p.tols.map encL),.str p.key,.int .i64 p.most,.str p.node,.bool p.hold];let ζ2:List AV:=[.str n.name,.sl .sh (n.cap.map encA),.sl .sh (n.labels.map encP),.sl .sh (n.taints.map encT),.bool n.cordon];let ζ3:List AV:=[.sl .sh (s.nodes.map encN),.sl .sh (s.pods.map encPd),.sl .sh (s.buds.map encB)];let ζ4:List AV:=[.sl .sh (p.tols.map encL),.sl .sh (n.taints.map encT)];let ζ5:List AV:=[.sl .sh (p.sel.map encM),.sl .sh (n.labels.map encP)];let ζ6:List AV:=[.sl .sh (s.nodes.map encN),.str nm];let ζ7:List AV:=[.str [],.str [],.bool noT.hard];gG 200 [] trivial (.callK (ζ6) (.tuple [.agg ζ2,.bool true]) f<|.callK ([.bool true,.int .i64 3]) (.tuple []) (show Gives cfg 82 [.bool true,.int .i64 3] (.tuple [])from must_ok _)<|.yes (show(!n.cordon)=true from by have hh:¬(n.cordon=true):=(by simp+zetaDelta [hc]);simp[hh])<|.callK (ζ5) (.bool true) mt<|.callK ([.bool true,.int .i64 8]) (.tuple []) (show Gives cfg 82 [.bool true,.int .i64 8] (.tuple [])from must_ok _)<|.callK (ζ4) (.tuple [.agg ζ7,.bool false]) w<|.callK ([.bool !false,.int .i64 9]) (.tuple []) (show Gives cfg 82 [.bool true,.int .i64 9] (.tuple [])from must_ok _)<|.callK ([.agg ζ3,.agg ζ1,.str nm]) (.tuple [.int .i64 sk,.bool false]) h83<|.ff<|.callP ([.bool false,.int .i64 10]) ({boxes:=[ζ3,ζ1,[.str nm],ζ2,ζ7],toks:=[],loops:=[]:Heap}) m10 ⟨rfl,rfl⟩ rfl (by exact .inr ⟨by decide,rfl⟩))
     |true=>
      by_cases hk:p.key=[]
      ·rw[if_pos (by simp[hk])]
       by_cases he:e=0
       ·cases b with
        |true=>
         rw[if_pos (by simp[he])]
         exact let ζ1:List AV:=[.str p.name,.str p.owner,.int .i64 p.prio,.sl .sh (p.need.map encA),.sl .sh (p.labels.map encP),.sl .sh (p.sel.map encM),.sl .sh (p.tols.map encL),.str p.key,.int .i64 p.most,.str p.node,.bool p.hold];let ζ2:List AV:=[.sl .sh (s.nodes.map encN),.sl .sh (s.pods.map encPd),.sl .sh (s.buds.map encB)];let ζ3:List AV:=[.str n.name,.sl .sh (n.cap.map encA),.sl .sh (n.labels.map encP),.sl .sh (n.taints.map encT),.bool n.cordon];let ζ4:List AV:=[.sl .sh (p.tols.map encL),.sl .sh (n.taints.map encT)];let ζ5:List AV:=[.sl .sh (p.sel.map encM),.sl .sh (n.labels.map encP)];let ζ6:List AV:=[.sl .sh (p.need.map encA),.sl .sh (u.map encA)];let ζ7:List AV:=[.sl .sh (s.nodes.map encN),.str nm];let ζ8:List AV:=[.str [],.str [],.bool noT.hard];gG 240 [] trivial (.callK (ζ7) (.tuple [.agg ζ3,.bool true]) f<|.callK ([.bool true,.int .i64 3]) (.tuple []) (show Gives cfg 82 [.bool true,.int .i64 3] (.tuple [])from must_ok _)<|.yes (show(!n.cordon)=true from by have hh:¬(n.cordon=true):=(by simp+zetaDelta [hc]);simp[hh])<|.callK (ζ5) (.bool true) mt<|.callK ([.bool true,.int .i64 8]) (.tuple []) (show Gives cfg 82 [.bool true,.int .i64 8] (.tuple [])from must_ok _)<|.callK (ζ4) (.tuple [.agg ζ8,.bool false]) w<|.callK ([.bool !false,.int .i64 9]) (.tuple []) (show Gives cfg 82 [.bool true,.int .i64 9] (.tuple [])from must_ok _)<|.callK ([.agg ζ2,.agg ζ1,.str nm]) (.tuple [.int .i64 sk,.bool true]) h83<|.tt<|.yes (show(p.key==[])=true from(by simp+zetaDelta [hk]))<|.callK ([.bool true,.int .i64 10]) (.tuple []) (show Gives cfg 82 [.bool true,.int .i64 10] (.tuple [])from must_ok _)<|.callG ([.agg ζ2,.str nm]) (.tuple [.sl .sh (u.map encA),.int .i64 e]) fr ⟨rfl,rfl⟩ Res.p<|.yes (show(e==(0:Int))=true from(by simp+zetaDelta [he]))<|.callK (ζ6) (.bool true) ft<|.callK ([.bool true,.int .i64 7]) (.tuple []) (show Gives cfg 82 [.bool true,.int .i64 7] (.tuple [])from must_ok _)<|.fin ((.ret (.tuple []),{boxes:=[ζ2,ζ1,[.str nm],ζ3,ζ8],toks:=[],loops:=[]:Heap})) (by exact .inl ⟨rfl,rfl⟩))
        |false=>
         rw[if_neg (by simp)]
         exact let ζ1:List AV:=[.str p.name,.str p.owner,.int .i64 p.prio,.sl .sh (p.need.map encA),.sl .sh (p.labels.map encP),.sl .sh (p.sel.map encM),.sl .sh (p.tols.map encL),.str p.key,.int .i64 p.most,.str p.node,.bool p.hold];let ζ2:List AV:=[.sl .sh (s.nodes.map encN),.sl .sh (s.pods.map encPd),.sl .sh (s.buds.map encB)];let ζ3:List AV:=[.str n.name,.sl .sh (n.cap.map encA),.sl .sh (n.labels.map encP),.sl .sh (n.taints.map encT),.bool n.cordon];let ζ4:List AV:=[.sl .sh (p.tols.map encL),.sl .sh (n.taints.map encT)];let ζ5:List AV:=[.sl .sh (p.sel.map encM),.sl .sh (n.labels.map encP)];let ζ6:List AV:=[.sl .sh (p.need.map encA),.sl .sh (u.map encA)];let ζ7:List AV:=[.sl .sh (s.nodes.map encN),.str nm];let ζ8:List AV:=[.str [],.str [],.bool noT.hard];gG 240 [] trivial (.callK (ζ7) (.tuple [.agg ζ3,.bool true]) f<|.callK ([.bool true,.int .i64 3]) (.tuple []) (show Gives cfg 82 [.bool true,.int .i64 3] (.tuple [])from must_ok _)<|.yes (show(!n.cordon)=true from by have hh:¬(n.cordon=true):=(by simp+zetaDelta [hc]);simp[hh])<|.callK (ζ5) (.bool true) mt<|.callK ([.bool true,.int .i64 8]) (.tuple []) (show Gives cfg 82 [.bool true,.int .i64 8] (.tuple [])from must_ok _)<|.callK (ζ4) (.tuple [.agg ζ8,.bool false]) w<|.callK ([.bool !false,.int .i64 9]) (.tuple []) (show Gives cfg 82 [.bool true,.int .i64 9] (.tuple [])from must_ok _)<|.callK ([.agg ζ2,.agg ζ1,.str nm]) (.tuple [.int .i64 sk,.bool true]) h83<|.tt<|.yes (show(p.key==[])=true from(by simp+zetaDelta [hk]))<|.callK ([.bool true,.int .i64 10]) (.tuple []) (show Gives cfg 82 [.bool true,.int .i64 10] (.tuple [])from must_ok _)<|.callG ([.agg ζ2,.str nm]) (.tuple [.sl .sh (u.map encA),.int .i64 e]) fr ⟨rfl,rfl⟩ Res.p<|.yes (show(e==(0:Int))=true from(by simp+zetaDelta [he]))<|.callK (ζ6) (.bool false) ft<|.callP ([.bool false,.int .i64 7]) ({boxes:=[ζ2,ζ1,[.str nm],ζ3,ζ8],toks:=[],loops:=[]:Heap}) m7 ⟨rfl,rfl⟩ rfl (by exact .inr ⟨by decide,rfl⟩))
       ·rw[if_neg (by simp[he])]
        exact let ζ1:List AV:=[.str p.name,.str p.owner,.int .i64 p.prio,.sl .sh (p.need.map encA),.sl .sh (p.labels.map encP),.sl .sh (p.sel.map encM),.sl .sh (p.tols.map encL),.str p.key,.int .i64 p.most,.str p.node,.bool p.hold];let ζ2:List AV:=[.sl .sh (s.nodes.map encN),.sl .sh (s.pods.map encPd),.sl .sh (s.buds.map encB)];let ζ3:List AV:=[.str n.name,.sl .sh (n.cap.map encA),.sl .sh (n.labels.map encP),.sl .sh (n.taints.map encT),.bool n.cordon];let ζ4:List AV:=[.sl .sh (p.tols.map encL),.sl .sh (n.taints.map encT)];let ζ5:List AV:=[.sl .sh (p.sel.map encM),.sl .sh (n.labels.map encP)];let ζ6:List AV:=[.sl .sh (s.nodes.map encN),.str nm];let ζ7:List AV:=[.str [],.str [],.bool noT.hard];gG 240 [] trivial (.callK (ζ6) (.tuple [.agg ζ3,.bool true]) f<|.callK ([.bool true,.int .i64 3]) (.tuple []) (show Gives cfg 82 [.bool true,.int .i64 3] (.tuple [])from must_ok _)<|.yes (show(!n.cordon)=true from by have hh:¬(n.cordon=true):=(by simp+zetaDelta [hc]);simp[hh])<|.callK (ζ5) (.bool true) mt<|.callK ([.bool true,.int .i64 8]) (.tuple []) (show Gives cfg 82 [.bool true,.int .i64 8] (.tuple [])from must_ok _)<|.callK (ζ4) (.tuple [.agg ζ7,.bool false]) w<|.callK ([.bool !false,.int .i64 9]) (.tuple []) (show Gives cfg 82 [.bool true,.int .i64 9] (.tuple [])from must_ok _)<|.callK ([.agg ζ2,.agg ζ1,.str nm]) (.tuple [.int .i64 sk,.bool true]) h83<|.tt<|.yes (show(p.key==[])=true from(by simp+zetaDelta [hk]))<|.callK ([.bool true,.int .i64 10]) (.tuple []) (show Gives cfg 82 [.bool true,.int .i64 10] (.tuple [])from must_ok _)<|.callG ([.agg ζ2,.str nm]) (.tuple [.sl .sh (u.map encA),.int .i64 e]) fr ⟨rfl,rfl⟩ Res.p<|.no (show(e==(0:Int))=false from Bool.eq_false_iff.2 (by simp+zetaDelta [he]))<|.callP ([.bool false,.int .i64 7]) ({boxes:=[ζ2,ζ1,[.str nm],ζ3,ζ7],toks:=[],loops:=[]:Heap}) m7 ⟨rfl,rfl⟩ rfl (by exact .inr ⟨by decide,rfl⟩))
      ·by_cases hq:sk≤p.most
       ·have mq:Gives cfg 82 [.bool (decide (sk≤p.most)),.int .i64 10] (.tuple []):=by
         rw[show decide (sk≤p.most)=true by simpa using hq];exact must_ok 10
        rw[if_pos (by simp[hq])]
        by_cases he:e=0
        ·cases b with
         |true=>
          rw[if_pos (by simp[he])]
          exact let ζ1:List AV:=[.str p.name,.str p.owner,.int .i64 p.prio,.sl .sh (p.need.map encA),.sl .sh (p.labels.map encP),.sl .sh (p.sel.map encM),.sl .sh (p.tols.map encL),.str p.key,.int .i64 p.most,.str p.node,.bool p.hold];let ζ2:List AV:=[.sl .sh (s.nodes.map encN),.sl .sh (s.pods.map encPd),.sl .sh (s.buds.map encB)];let ζ3:List AV:=[.str n.name,.sl .sh (n.cap.map encA),.sl .sh (n.labels.map encP),.sl .sh (n.taints.map encT),.bool n.cordon];let ζ4:List AV:=[.sl .sh (p.tols.map encL),.sl .sh (n.taints.map encT)];let ζ5:List AV:=[.sl .sh (p.sel.map encM),.sl .sh (n.labels.map encP)];let ζ6:List AV:=[.sl .sh (p.need.map encA),.sl .sh (u.map encA)];let ζ7:List AV:=[.bool (decide (sk≤p.most)),.int .i64 10];let ζ8:List AV:=[.sl .sh (s.nodes.map encN),.str nm];let ζ9:List AV:=[.str [],.str [],.bool noT.hard];gG 240 [] trivial (.callK (ζ8) (.tuple [.agg ζ3,.bool true]) f<|.callK ([.bool true,.int .i64 3]) (.tuple []) (show Gives cfg 82 [.bool true,.int .i64 3] (.tuple [])from must_ok _)<|.yes (show(!n.cordon)=true from by have hh:¬(n.cordon=true):=(by simp+zetaDelta [hc]);simp[hh])<|.callK (ζ5) (.bool true) mt<|.callK ([.bool true,.int .i64 8]) (.tuple []) (show Gives cfg 82 [.bool true,.int .i64 8] (.tuple [])from must_ok _)<|.callK (ζ4) (.tuple [.agg ζ9,.bool false]) w<|.callK ([.bool !false,.int .i64 9]) (.tuple []) (show Gives cfg 82 [.bool true,.int .i64 9] (.tuple [])from must_ok _)<|.callK ([.agg ζ2,.agg ζ1,.str nm]) (.tuple [.int .i64 sk,.bool true]) h83<|.tt<|.no (show(p.key==[])=false from Bool.eq_false_iff.2 (by simp+zetaDelta [hk]))<|.callK (ζ7) (.tuple []) mq<|.callG ([.agg ζ2,.str nm]) (.tuple [.sl .sh (u.map encA),.int .i64 e]) fr ⟨rfl,rfl⟩ Res.p<|.yes (show(e==(0:Int))=true from(by simp+zetaDelta [he]))<|.callK (ζ6) (.bool true) ft<|.callK ([.bool true,.int .i64 7]) (.tuple []) (show Gives cfg 82 [.bool true,.int .i64 7] (.tuple [])from must_ok _)<|.fin ((.ret (.tuple []),{boxes:=[ζ2,ζ1,[.str nm],ζ3,ζ9],toks:=[],loops:=[]:Heap})) (by exact .inl ⟨rfl,rfl⟩))
         |false=>
          rw[if_neg (by simp)]
          exact let ζ1:List AV:=[.str p.name,.str p.owner,.int .i64 p.prio,.sl .sh (p.need.map encA),.sl .sh (p.labels.map encP),.sl .sh (p.sel.map encM),.sl .sh (p.tols.map encL),.str p.key,.int .i64 p.most,.str p.node,.bool p.hold];let ζ2:List AV:=[.sl .sh (s.nodes.map encN),.sl .sh (s.pods.map encPd),.sl .sh (s.buds.map encB)];let ζ3:List AV:=[.str n.name,.sl .sh (n.cap.map encA),.sl .sh (n.labels.map encP),.sl .sh (n.taints.map encT),.bool n.cordon];let ζ4:List AV:=[.sl .sh (p.tols.map encL),.sl .sh (n.taints.map encT)];let ζ5:List AV:=[.sl .sh (p.sel.map encM),.sl .sh (n.labels.map encP)];let ζ6:List AV:=[.sl .sh (p.need.map encA),.sl .sh (u.map encA)];let ζ7:List AV:=[.bool (decide (sk≤p.most)),.int .i64 10];let ζ8:List AV:=[.sl .sh (s.nodes.map encN),.str nm];let ζ9:List AV:=[.str [],.str [],.bool noT.hard];gG 240 [] trivial (.callK (ζ8) (.tuple [.agg ζ3,.bool true]) f<|.callK ([.bool true,.int .i64 3]) (.tuple []) (show Gives cfg 82 [.bool true,.int .i64 3] (.tuple [])from must_ok _)<|.yes (show(!n.cordon)=true from by have hh:¬(n.cordon=true):=(by simp+zetaDelta [hc]);simp[hh])<|.callK (ζ5) (.bool true) mt<|.callK ([.bool true,.int .i64 8]) (.tuple []) (show Gives cfg 82 [.bool true,.int .i64 8] (.tuple [])from must_ok _)<|.callK (ζ4) (.tuple [.agg ζ9,.bool false]) w<|.callK ([.bool !false,.int .i64 9]) (.tuple []) (show Gives cfg 82 [.bool true,.int .i64 9] (.tuple [])from must_ok _)<|.callK ([.agg ζ2,.agg ζ1,.str nm]) (.tuple [.int .i64 sk,.bool true]) h83<|.tt<|.no (show(p.key==[])=false from Bool.eq_false_iff.2 (by simp+zetaDelta [hk]))<|.callK (ζ7) (.tuple []) mq<|.callG ([.agg ζ2,.str nm]) (.tuple [.sl .sh (u.map encA),.int .i64 e]) fr ⟨rfl,rfl⟩ Res.p<|.yes (show(e==(0:Int))=true from(by simp+zetaDelta [he]))<|.callK (ζ6) (.bool false) ft<|.callP ([.bool false,.int .i64 7]) ({boxes:=[ζ2,ζ1,[.str nm],ζ3,ζ9],toks:=[],loops:=[]:Heap}) m7 ⟨rfl,rfl⟩ rfl (by exact .inr ⟨by decide,rfl⟩))
        ·rw[if_neg (by simp[he])]
         exact let ζ1:List AV:=[.str p.name,.str p.owner,.int .i64 p.prio,.sl .sh (p.need.map encA),.sl .sh (p.labels.map encP),.sl .sh (p.sel.map encM),.sl .sh (p.tols.map encL),.str p.key,.int .i64 p.most,.str p.node,.bool p.hold];let ζ2:List AV:=[.sl .sh (s.nodes.map encN),.sl .sh (s.pods.map encPd),.sl .sh (s.buds.map encB)];let ζ3:List AV:=[.str n.name,.sl .sh (n.cap.map encA),.sl .sh (n.labels.map encP),.sl .sh (n.taints.map encT),.bool n.cordon];let ζ4:List AV:=[.sl .sh (p.tols.map encL),.sl .sh (n.taints.map encT)];let ζ5:List AV:=[.sl .sh (p.sel.map encM),.sl .sh (n.labels.map encP)];let ζ6:List AV:=[.bool (decide (sk≤p.most)),.int .i64 10];let ζ7:List AV:=[.sl .sh (s.nodes.map encN),.str nm];let ζ8:List AV:=[.str [],.str [],.bool noT.hard];gG 240 [] trivial (.callK (ζ7) (.tuple [.agg ζ3,.bool true]) f<|.callK ([.bool true,.int .i64 3]) (.tuple []) (show Gives cfg 82 [.bool true,.int .i64 3] (.tuple [])from must_ok _)<|.yes (show(!n.cordon)=true from by have hh:¬(n.cordon=true):=(by simp+zetaDelta [hc]);simp[hh])<|.callK (ζ5) (.bool true) mt<|.callK ([.bool true,.int .i64 8]) (.tuple []) (show Gives cfg 82 [.bool true,.int .i64 8] (.tuple [])from must_ok _)<|.callK (ζ4) (.tuple [.agg ζ8,.bool false]) w<|.callK ([.bool !false,.int .i64 9]) (.tuple []) (show Gives cfg 82 [.bool true,.int .i64 9] (.tuple [])from must_ok _)<|.callK ([.agg ζ2,.agg ζ1,.str nm]) (.tuple [.int .i64 sk,.bool true]) h83<|.tt<|.no (show(p.key==[])=false from Bool.eq_false_iff.2 (by simp+zetaDelta [hk]))<|.callK (ζ6) (.tuple []) mq<|.callG ([.agg ζ2,.str nm]) (.tuple [.sl .sh (u.map encA),.int .i64 e]) fr ⟨rfl,rfl⟩ Res.p<|.no (show(e==(0:Int))=false from Bool.eq_false_iff.2 (by simp+zetaDelta [he]))<|.callP ([.bool false,.int .i64 7]) ({boxes:=[ζ2,ζ1,[.str nm],ζ3,ζ8],toks:=[],loops:=[]:Heap}) m7 ⟨rfl,rfl⟩ rfl (by exact .inr ⟨by decide,rfl⟩))
       ·have mq:Pans cfg 82 [.bool (decide (sk≤p.most)),.int .i64 10] (stopV 10):=by
         rw[show decide (sk≤p.most)=false by simpa using hq];exact m10
        rw[if_neg (by simp[hk,hq])]
        exact let ζ1:List AV:=[.str p.name,.str p.owner,.int .i64 p.prio,.sl .sh (p.need.map encA),.sl .sh (p.labels.map encP),.sl .sh (p.sel.map encM),.sl .sh (p.tols.map encL),.str p.key,.int .i64 p.most,.str p.node,.bool p.hold];let ζ2:List AV:=[.str n.name,.sl .sh (n.cap.map encA),.sl .sh (n.labels.map encP),.sl .sh (n.taints.map encT),.bool n.cordon];let ζ3:List AV:=[.sl .sh (s.nodes.map encN),.sl .sh (s.pods.map encPd),.sl .sh (s.buds.map encB)];let ζ4:List AV:=[.sl .sh (p.tols.map encL),.sl .sh (n.taints.map encT)];let ζ5:List AV:=[.sl .sh (p.sel.map encM),.sl .sh (n.labels.map encP)];let ζ6:List AV:=[.bool (decide (sk≤p.most)),.int .i64 10];let ζ7:List AV:=[.sl .sh (s.nodes.map encN),.str nm];let ζ8:List AV:=[.str [],.str [],.bool noT.hard];gG 240 [] trivial (.callK (ζ7) (.tuple [.agg ζ2,.bool true]) f<|.callK ([.bool true,.int .i64 3]) (.tuple []) (show Gives cfg 82 [.bool true,.int .i64 3] (.tuple [])from must_ok _)<|.yes (show(!n.cordon)=true from by have hh:¬(n.cordon=true):=(by simp+zetaDelta [hc]);simp[hh])<|.callK (ζ5) (.bool true) mt<|.callK ([.bool true,.int .i64 8]) (.tuple []) (show Gives cfg 82 [.bool true,.int .i64 8] (.tuple [])from must_ok _)<|.callK (ζ4) (.tuple [.agg ζ8,.bool false]) w<|.callK ([.bool !false,.int .i64 9]) (.tuple []) (show Gives cfg 82 [.bool true,.int .i64 9] (.tuple [])from must_ok _)<|.callK ([.agg ζ3,.agg ζ1,.str nm]) (.tuple [.int .i64 sk,.bool true]) h83<|.tt<|.no (show(p.key==[])=false from Bool.eq_false_iff.2 (by simp+zetaDelta [hk]))<|.callP (ζ6) ({boxes:=[ζ3,ζ1,[.str nm],ζ2,ζ8],toks:=[],loops:=[]:Heap}) mq ⟨rfl,rfl⟩ rfl (by exact .inr ⟨by decide,rfl⟩))
theorem fit_gen(s:St)(hs:StIn s)(hn:∀n∈s.nodes,NdIn n)(p:Pod)(hp:PdIn p)(nm:List UInt8)(sk:Int)(ok:Bool)
 (h83:Gives cfg 85 [encSt (dropS s p.name),encPd p,.str nm] (.tuple [.int .i64 sk,.bool ok])):
 Gives cfg 35 [encSt s,encPd p,.str nm] (.int .i64 (fitG (dropS s p.name) p nm sk ok)):=by
 refine Gives.run (l35 _ _) ?_
 have dr:=drop_gives s p.name (by have:=hs.pods;omega)
 obtain⟨⟨a,H1⟩,hr,hR⟩:=fit_all (dropS s p.name) (drop_inF hs p.name) hn p hp nm sk ok h83
 generalize fitG (dropS s p.name) p nm sk ok=e at hR⊢
 generalize dropS s p.name=s2 at*
 have ht:lim cfg (.fn 66) [.func 80 [.ptr 0 0,.ptr 2 0,.ptr 1 0]] ⟨[(encSt s2).cells,(encPd p).cells,[.str nm]],[],[]⟩=some (.ret (.int .i64 e),H1):=by
  rw[lim_try rfl,l80,hr]
  rcases hR with⟨h0,h1⟩|⟨h0,h1⟩
  ·simp only at h1;subst h1;subst h0;rfl
  ·simp only at h1;subst h1;rfl
 have hd:=does_callE (xs:=[.func 80 [.ptr 0 0,.ptr 2 0,.ptr 1 0]]) (caps:=[]) ht rfl rfl
 generalize trunc _ _ _ H1=H2 at hd
 exact let ζ1:Heap:={boxes:=[[.sl .sh (s.nodes.map encN),.sl .sh (s.pods.map encPd),.sl .sh (s.buds.map encB)],[.str p.name,.str p.owner,.int .i64 p.prio,.sl .sh (p.need.map encA),.sl .sh (p.labels.map encP),.sl .sh (p.sel.map encM),.sl .sh (p.tols.map encL),.str p.key,.int .i64 p.most,.str p.node,.bool p.hold],[.str nm]],toks:=[],loops:=[]:Heap};gG 90 [] trivial (.effY (show Does cfg (.call (.c (.func 79 [])) [.c (encSt s),.c (.str p.name)]) ζ1 (encSt s2) ζ1 from gf27 dr _)<|.effY hd<|.fin ((.ret (.int .i64 e),H2)) rfl)
end Go.Aa.T
set_option linter.unusedVariables false
set_option linter.unusedSimpArgs false
set_option maxRecDepth 100000
namespace Go.Aa.T
open Go.Aa Go.Proofs
theorem drop_drop(s:St)(a b:List UInt8):dropS (dropS s a) b=dropS (dropS s b) a:=by
 unfold dropS offP
 simp only[List.filter_filter,Bool.and_comm]
end Go.Aa.T
set_option linter.unusedVariables false
set_option linter.unusedSimpArgs false
set_option maxRecDepth 100000
namespace Go.Aa.T
open Go.Aa Go.Proofs
end Go.Aa.T
set_option linter.unusedVariables false
set_option linter.unusedSimpArgs false
set_option maxRecDepth 100000
namespace Go.Aa.T
open Go.Aa Go.Proofs
theorem few_nd{s:St}(fs:FewS s):∀n∈s.nodes,NdIn n:=fun n hn=>by
 have f:=fewNd (fs.node n hn)
 exact⟨by have:=f.labels;omega,by have:=f.taints;omega⟩
theorem few_pd{p:Pod}(h:fewPd p=true):PdIn p:=by
 have f:=fewPod h
 exact⟨by have:=f.need;omega,by have:=f.labels;omega,by have:=f.sel;omega,by have:=f.tols;omega⟩
end Go.Aa.T
set_option linter.unusedVariables false
set_option linter.unusedSimpArgs false
set_option maxRecDepth 100000
namespace Go.Aa.T
open Go.Aa Go.Proofs
def fitS(s:St)(p:Pod)(nm:List UInt8):Int:=fitG (dropS s p.name) p nm (skewS (dropS s p.name) p nm).1 (skewS (dropS s p.name) p nm).2
theorem fit_any(s:St)(hs:StIn s)(hn:∀n∈s.nodes,NdIn n)(hl:s.nodes.length≤1000)(p:Pod)(hp:PdIn p)(nm:List UInt8):Gives cfg 35 [encSt s,encPd p,.str nm] (.int .i64 (fitS s p nm)):=
 fit_gen s hs hn p hp nm _ _ (skew_any (dropS s p.name) p nm (by have:=(drop_inF hs p.name).pods;omega) hl fun n h=>(hn n h).labels)
theorem pods_at{s:St}:∀{l:List Pod},podsE s l=0→∀p∈l,p.node≠[]→∃n,findG Node.name s.nodes p.node=some n
 |[],_,p,hp,_=>by cases hp
 |x::l,h,p,hp,hne=>by
  unfold podsE at h
  split at h
  ·cases h
  ·rename_i h1
   rcases List.mem_cons.1 hp with rfl|hp
   ·cases hf:findG Node.name s.nodes p.node with
    |some n=>exact⟨n,rfl⟩
    |none=>exact absurd ⟨hne,hf⟩ h1
   ·exact pods_at h p hp hne
end Go.Aa.T
set_option linter.unusedVariables false
set_option linter.unusedSimpArgs false
set_option maxRecDepth 100000
namespace Go.Aa.T
open Go.Aa Go.Proofs
end Go.Aa.T
set_option linter.unusedVariables false
set_option linter.unusedSimpArgs false
set_option maxRecDepth 100000
namespace Go.Aa.T
open Go.Aa Go.Proofs
end Go.Aa.T
set_option linter.unusedVariables false
set_option linter.unusedSimpArgs false
set_option maxRecDepth 100000
namespace Go.Aa.T
open Go.Aa Go.Proofs
def ovB(hi x:AV):Bool:=decide (0<cmp x hi)
def geB(lo x:AV):Bool:=decide (0≤cmp x lo)
def lvS(us:List AV)(lo hi:AV):Int:=if us.any (ovB hi)=true then 2 else if us=[]then 1 else if us.any (geB lo)=true then 1 else 0
def lvN(s:St)(nm:List UInt8)(lo hi:AV):Int:=lvS (usL s nm) lo hi
theorem ov_one{lo hi:AV}(hh:Fl hi)(S:List AV)(y:AV)(hy:Fl y):Does cfg (.call (.c (.func 57 [.ptr 1 0])) [.c y]) ⟨[S,[lo,hi]],[],[]⟩ (.bool (ovB hi y)) ⟨[S,[lo,hi]],[],[]⟩:=by
 have hc:=compare_any hy hh
 haveI:=hh.C
 haveI:=hy.C
 have key:Goes cfg a57 [.c c57] (initEnv [y,.ptr 1 0]) ⟨[S,[lo,hi]],[],[]⟩ (fun r=>r=(.ret (.bool (ovB hi y)),⟨[S,[lo,hi]],[],[]⟩)):=by
  unfold ovB
  generalize cmp y hi=q at hc⊢
  exact gG 60 [] trivial (.callG ([y,hi]) (.int .i64 q) hc Shuts.p ⟨rfl,rfl⟩<|.fin ((.ret (.bool (decide ((0:Int)<q))),{boxes:=[S,[lo,hi]],toks:=[],loops:=[]:Heap})) rfl)
 obtain⟨r,h,rfl⟩:=key
 have h2:lim cfg (.fn 57) ([y]++[.ptr 1 0]) ⟨[S,[lo,hi]],[],[]⟩=some (.ret (.bool (ovB hi y)),⟨[S,[lo,hi]],[],[]⟩):=by
  rw[l57];exact h
 have h3:=does_callE h2 (by show [shutA y]=[y];rw[hy.shut]) (Bool.and_false _)
 rwa [show shutA (.bool (ovB hi y))=.bool (ovB hi y)from rfl,trunc_self]at h3
theorem ge_one{lo hi:AV}(hh:Fl lo)(S:List AV)(y:AV)(hy:Fl y):Does cfg (.call (.c (.func 58 [.ptr 1 0])) [.c y]) ⟨[S,[lo,hi]],[],[]⟩ (.bool (geB lo y)) ⟨[S,[lo,hi]],[],[]⟩:=by
 have hc:=compare_any hy hh
 haveI:=hh.C
 haveI:=hy.C
 have key:Goes cfg a58 [.c c58] (initEnv [y,.ptr 1 0]) ⟨[S,[lo,hi]],[],[]⟩ (fun r=>r=(.ret (.bool (geB lo y)),⟨[S,[lo,hi]],[],[]⟩)):=by
  unfold geB
  generalize cmp y lo=q at hc⊢
  exact gG 60 [] trivial (.callG ([y,lo]) (.int .i64 q) hc Shuts.p ⟨rfl,rfl⟩<|.fin ((.ret (.bool (decide ((0:Int)≤q))),{boxes:=[S,[lo,hi]],toks:=[],loops:=[]:Heap})) rfl)
 obtain⟨r,h,rfl⟩:=key
 have h2:lim cfg (.fn 58) ([y]++[.ptr 1 0]) ⟨[S,[lo,hi]],[],[]⟩=some (.ret (.bool (geB lo y)),⟨[S,[lo,hi]],[],[]⟩):=by
  rw[l58];exact h
 have h3:=does_callE h2 (by show [shutA y]=[y];rw[hy.shut]) (Bool.and_false _)
 rwa [show shutA (.bool (geB lo y))=.bool (geB lo y)from rfl,trunc_self]at h3
theorem lv_any(s:St)(hs:StIn s)(hc:∀n∈s.nodes,n.cap.length≤1000)(nm:List UInt8){lo hi:AV}(hl:Fl lo)(hh:Fl hi):Gives cfg 18 [encSt s,.str nm,.agg [lo,hi]] (.int .i64 (lvN s nm lo hi)):=by
 refine Gives.run (l18 _ _) ?_
 have h1:=usL_any s hs hc nm
 have fl:=usL_fl s nm
 have hn:=usL_len hs nm
 unfold lvN
 generalize usL s nm=us at h1 fl hn⊢
 have d1:=anyFl (ov_one (lo:=lo) hh (encSt s).cells) us fl hn
 have d2:=anyFl (ge_one (hi:=hi) hl (encSt s).cells) us fl hn
 have h1:Gives cfg 55 [encSt s,.str nm] (rowF id us):=h1
 have e:us.map id=us:=List.map_id us
 have h1':∃k,Gives cfg 55 [encSt s,.str nm] (.sl k us)∧shutA (.sl k us)=.sl .sh us:=by
  refine⟨skF us,?_,by cases us<;>rfl⟩
  unfold rowF at h1
  rwa [e]at h1
 obtain⟨k,h2,h3⟩:=h1'
 haveI:Res (.sl k us) (.sl .sh us):=⟨h3,rfl⟩
 unfold lvS
 by_cases a:us.any (ovB hi)=true
 ·rw[if_pos a]
  rw[a]at d1
  exact let ζ1:List AV:=[.sl .sh (s.nodes.map encN),.sl .sh (s.pods.map encPd),.sl .sh (s.buds.map encB)];let ζ2:Heap:={boxes:=[(encSt s).cells,[lo,hi]],toks:=[],loops:=[]:Heap};gG 60 [] trivial (.callG ([.agg ζ1,.str nm]) (.sl .sh us) h2 ⟨rfl,rfl⟩ Res.p<|.effY d1<|.tt<|.fin ((.ret (.int .i64 2),{boxes:=[ζ1,[lo,hi]],toks:=[],loops:=[]:Heap})) rfl)
 ·rw[if_neg a]
  rw[Bool.not_eq_true]at a
  rw[a]at d1
  by_cases b:us=[]
  ·rw[if_pos b]
   have b':us.length=0:=by rw[b];rfl
   exact let ζ1:List AV:=[.sl .sh (s.nodes.map encN),.sl .sh (s.pods.map encPd),.sl .sh (s.buds.map encB)];let ζ2:Heap:={boxes:=[(encSt s).cells,[lo,hi]],toks:=[],loops:=[]:Heap};gG 60 [] trivial (.callG ([.agg ζ1,.str nm]) (.sl .sh us) h2 ⟨rfl,rfl⟩ Res.p<|.effY d1<|.ff<|.len (show lenA false (.sl .sh us)=some (.int .i64 (↑us.length))from len_sl _ _)<|.yes (show((↑us.length:Int)==(0:Int))=true from(by simp+zetaDelta [b']))<|.tt<|.fin ((.ret (.int .i64 1),{boxes:=[ζ1,[lo,hi]],toks:=[],loops:=[]:Heap})) rfl)
  ·rw[if_neg b]
   have b':¬us.length=0:=by simpa using b
   by_cases g:us.any (geB lo)=true
   ·rw[if_pos g]
    rw[g]at d2
    exact let ζ1:Heap:={boxes:=[(encSt s).cells,[lo,hi]],toks:=[],loops:=[]:Heap};let ζ2:List AV:=[.sl .sh (s.nodes.map encN),.sl .sh (s.pods.map encPd),.sl .sh (s.buds.map encB)];gG 60 [] trivial (.callG ([.agg ζ2,.str nm]) (.sl .sh us) h2 ⟨rfl,rfl⟩ Res.p<|.effY d1<|.ff<|.len (show lenA false (.sl .sh us)=some (.int .i64 (↑us.length))from len_sl _ _)<|.no (show((↑us.length:Int)==(0:Int))=false from Bool.eq_false_iff.2 (by simp+zetaDelta [b']))<|.effY d2<|.tt<|.fin ((.ret (.int .i64 1),{boxes:=[ζ2,[lo,hi]],toks:=[],loops:=[]:Heap})) rfl)
   ·rw[if_neg g]
    rw[Bool.not_eq_true]at g
    rw[g]at d2
    exact let ζ1:Heap:={boxes:=[(encSt s).cells,[lo,hi]],toks:=[],loops:=[]:Heap};let ζ2:List AV:=[.sl .sh (s.nodes.map encN),.sl .sh (s.pods.map encPd),.sl .sh (s.buds.map encB)];gG 60 [] trivial (.callG ([.agg ζ2,.str nm]) (.sl .sh us) h2 ⟨rfl,rfl⟩ Res.p<|.effY d1<|.ff<|.len (show lenA false (.sl .sh us)=some (.int .i64 (↑us.length))from len_sl _ _)<|.no (show((↑us.length:Int)==(0:Int))=false from Bool.eq_false_iff.2 (by simp+zetaDelta [b']))<|.effY d2<|.ff<|.fin ((.ret (.int .i64 0),{boxes:=[ζ2,[lo,hi]],toks:=[],loops:=[]:Heap})) rfl)
end Go.Aa.T
set_option linter.unusedVariables false
set_option linter.unusedSimpArgs false
set_option maxRecDepth 100000
namespace Go.Aa.T
open Go.Aa Go.Proofs
def nmB(l:List (List UInt8))(s:List UInt8):Bool:=l.any fun x=>x==s
theorem ixS_loop(l:List (List UInt8))(s:List UInt8)(hn:l.length<9223372036854775807):∀(post:List (List UInt8))(i:Nat)(hd:l.drop i=post)(T:Env)
 (hT:Has T [(0,.sl .sh (l.map .str)),(1,.str s),(7,.int .i64 l.length),(8,.int .i64 i)]),
 Goes cfg a216 k216_0 T Heap.nil (IsRet (.int .i64 (fidxB (fun x=>x==s) post i))):=by
 intro post
 induction post with
 |nil=>
  intro i hd T hT
  have hge:=drop_ge hd
  exact gG 60 _ hT (.no (dF ((↑i:Int)<(↑l.length:Int)))<|.fin ((.ret (.int .i64 (-1:Int)),{boxes:=[],toks:=[],loops:=[]:Heap})) rfl)
 |cons x post ih=>
  intro i hd T hT
  have hlt:=drop_lt hd
  have hnx:=drop_next hd
  by_cases h:s=x
  ·have e:fidxB (fun x=>x==s) (x::post) i=i:=by simp[fidxB,h]
   rw[e]
   exact gG 60 _ hT (.yes (dT ((↑i:Int)<(↑l.length:Int)))<|.idx (show idxA 1 (.sl .sh (List.map .str l)) (.int .i64 ↑i)=some (.ref (AV.str x).cells)from idx_row hd (by rfl))<|.yes (show(s==x)=true from(by simpa using h))<|.fin ((.ret (.int .i64 ↑i),{boxes:=[],toks:=[],loops:=[]:Heap})) rfl)
  ·have h':¬x=s:=fun e=>h e.symm
   have e:fidxB (fun x=>x==s) (x::post) i=fidxB (fun x=>x==s) post (i+1):=by simp[fidxB,h']
   rw[e]
   exact gG 60 _ hT (.yes (dT ((↑i:Int)<(↑l.length:Int)))<|.idx (show idxA 1 (.sl .sh (List.map .str l)) (.int .i64 ↑i)=some (.ref (AV.str x).cells)from idx_row hd (by rfl))<|.no (show(s==x)=false from Bool.eq_false_iff.2 (by simpa using h))<|.bin (iI i)<|.cutQ k216_0 [(0,.sl .sh (List.map .str l)),(1,.str s),(7,.int .i64 (↑l.length)),(8,.int .i64 (↑(i+1)))] ({boxes:=[],toks:=[],loops:=[]:Heap}) (fun T hT=>(ih (i+1) hnx T hT)))
theorem ctS_any(l:List (List UInt8))(s:List UInt8)(hn:l.length<9223372036854775807):Gives cfg 139 [.sl .sh (l.map .str),.str s] (.bool (nmB l s)):=by
 refine Gives.run (l139 _ _) ?_
 have h0:Gives cfg 216 [.sl .sh (l.map .str),.str s] (.int .i64 (fidxB (fun x=>x==s) l 0)):=by
  refine Gives.run (l216 _ _) ?_
  have h:=ixS_loop l s hn l 0 rfl
  exact gG 60 [] trivial (.len (lM .sh .str l)<|.cutQ k216_0 [(0,.sl .sh (List.map .str l)),(1,.str s),(7,.int .i64 (↑l.length)),(8,.int .i64 0)] ({boxes:=[],toks:=[],loops:=[]:Heap}) (fun T hT=>(h T hT)))
 have hf:decide (0≤fidxB (fun x=>x==s) l 0)=nmB l s:=fidxB_ge _ l 0
 rw[←hf]
 generalize fidxB (fun x=>x==s) l 0=c at h0⊢
 exact let ζ1:List AV:=[.sl .sh (List.map .str l),.str s];gG 60 [] trivial (.callK (ζ1) (.int .i64 c) h0<|.fin ((.ret (.bool (decide ((0:Int)≤c))),{boxes:=[],toks:=[],loops:=[]:Heap})) rfl)
def badP(s:St)(p:Pod):Bool:= !(p.node==[]||p.key==[])&&(!(skewS s p p.node).2||decide (p.most<(skewS s p p.node).1))
def badL(s:St)(l:List Pod):List (List UInt8):=(l.filter (badP s)).map Pod.name
def badS(s:St):List (List UInt8):=badL s s.pods
theorem badS_len(s:St):(badS s).length≤s.pods.length:=by
 unfold badS badL
 rw[List.length_map];exact List.length_filter_le _ _
theorem bad_yes{s:St}{p:Pod}{l:List Pod}(h:badP s p=true):badL s (p::l)=p.name::badL s l:=by simp[badL,List.filter_cons,h]
theorem bad_no{s:St}{p:Pod}{l:List Pod}(h:badP s p=false):badL s (p::l)=badL s l:=by simp[badL,List.filter_cons,h]
theorem ap_S{acc:List (List UInt8)}(x:List UInt8)(hn:acc.length≤100000)(bs:List (List AV))(ls:List LRec):
 appendA 1 16 ⟨bs,tkR .str acc,ls⟩ (rowF .str acc) (.sl .full [.str x])=some (rowF .str (acc++[x]),⟨bs,tkR .str (acc++[x]),ls⟩):=
 row_append_T AV.str (x:=x) (by simp;omega) (lenOk_map fun _=>rfl) rfl rfl
theorem bad_loop(s:St)(hp:s.pods.length≤1000)(hs:s.nodes.length≤1000)(hl:∀n∈s.nodes,n.labels.length<9223372036854775807):
 ∀(post:List Pod)(i:Nat)(hd:s.pods.drop i=post)(acc:List (List UInt8))(ha:acc.length≤i)(ex:List (List AV))(T:Env)
 (hT:Has T [(1,.ptr 0 0),(3,rowF .str acc),(9,.sl .sh (s.pods.map encPd)),(10,.int .i64 s.pods.length),(11,.int .i64 i)]),
 Goes cfg a137 k137_0 T ⟨(encSt s).cells::ex,tkR .str acc,[]⟩ (IsRet (rowF .str (acc++badL s post))):=by
 intro post
 induction post with
 |nil=>
  intro i hd acc ha ex T hT
  have hge:=drop_ge hd
  rw[show acc++badL s []=acc by simp[badL]]
  exact gG 60 _ hT (.no (dF ((↑i:Int)<(↑s.pods.length:Int)))<|.fin ((.ret (.sl (skF acc) (List.map .str acc)),{boxes:=[.sl .sh (s.nodes.map encN),.sl .sh (s.pods.map encPd),.sl .sh (s.buds.map encB)]::ex,toks:=tkR .str acc,loops:=[]:Heap})) rfl)
 |cons x post ih=>
  intro i hd acc ha ex T hT
  have hlt:=drop_lt hd
  have hnx:=drop_next hd
  have hxi:idxA 11 (.sl .sh (s.pods.map encPd)) (.int .i64 (i:Nat))=some (.ref (encPd x).cells):=idx_row (f:=encPd) hd rfl
  have hk:=skew_any s x x.node hp hs hl
  have ap:=ap_S (acc:=acc) x.name (by omega)
  have no:=fun(h:badP s x=false)=>ih (i+1) hnx acc (by omega) (ex++[(encPd x).cells])
  have yes:=ih (i+1) hnx (acc++[x.name]) (by simp;omega) (ex++[(encPd x).cells])
  by_cases h1:x.node=[]
  ·have e:badP s x=false:=by simp[badP,h1]
   rw[bad_no e]
   have n1:=no e
   exact let ζ1:List AV:=[.str x.name,.str x.owner,.int .i64 x.prio,.sl .sh (x.need.map encA),.sl .sh (x.labels.map encP),.sl .sh (x.sel.map encM),.sl .sh (x.tols.map encL),.str x.key,.int .i64 x.most,.str x.node,.bool x.hold];let ζ2:List AV:=[.sl .sh (s.nodes.map encN),.sl .sh (s.pods.map encPd),.sl .sh (s.buds.map encB)];let ζ3:List AV:=[.str [],.str [],.int .i64 0,.sl .full [],.sl .full [],.sl .full [],.sl .full [],.str [],.int .i64 0,.str [],.bool false];let ζ4:Heap:={boxes:=ζ2::(ex++[ζ1]),toks:=tkR .str acc,loops:=[]:Heap};gG 120 _ hT (.yes (dT ((↑i:Int)<(↑s.pods.length:Int)))<|.idx hxi<|.load (rfl:loadA true 11 {boxes:=ζ2::ex,toks:=tkR .str acc,loops:=[]:Heap} (.ref ζ1)=some (.agg ζ1))<|.store (show storeA 11 {boxes:=ζ2::(ex++[ζ3]),toks:=tkR .str acc,loops:=[]:Heap} (.ptr (ζ2::ex).length 0) (.agg ζ1)=some (ζ4)from store_box2 (cs:=ζ3) (cs':=ζ1) (by simp+zetaDelta) rfl (by simp+zetaDelta [List.set_append]))<|.load (show loadA false 1 ζ4 (.ptr (ζ2::ex).length 9)=some (.str x.node)from load_box (cs:=ζ1) (by simp+zetaDelta) rfl)<|.yes (show(x.node==[])=true from(by simpa using h1))<|.tt<|.bin (iI i)<|.cutQ k137_0 [(1,.ptr 0 0),(3,.sl (skF acc) (List.map .str acc)),(9,.sl .sh (s.pods.map encPd)),(10,.int .i64 (↑s.pods.length)),(11,.int .i64 (↑(i+1)))] (ζ4) (fun T hT=>(n1 T hT)))
  ·by_cases h2:x.key=[]
   ·have e:badP s x=false:=by simp[badP,h2]
    rw[bad_no e]
    have n1:=no e
    exact let ζ1:List AV:=[.str x.name,.str x.owner,.int .i64 x.prio,.sl .sh (x.need.map encA),.sl .sh (x.labels.map encP),.sl .sh (x.sel.map encM),.sl .sh (x.tols.map encL),.str x.key,.int .i64 x.most,.str x.node,.bool x.hold];let ζ2:List AV:=[.sl .sh (s.nodes.map encN),.sl .sh (s.pods.map encPd),.sl .sh (s.buds.map encB)];let ζ3:Heap:={boxes:=ζ2::(ex++[ζ1]),toks:=tkR .str acc,loops:=[]:Heap};let ζ4:List AV:=[.str [],.str [],.int .i64 0,.sl .full [],.sl .full [],.sl .full [],.sl .full [],.str [],.int .i64 0,.str [],.bool false];gG 120 _ hT (.yes (dT ((↑i:Int)<(↑s.pods.length:Int)))<|.idx hxi<|.load (rfl:loadA true 11 {boxes:=ζ2::ex,toks:=tkR .str acc,loops:=[]:Heap} (.ref ζ1)=some (.agg ζ1))<|.store (show storeA 11 {boxes:=ζ2::(ex++[ζ4]),toks:=tkR .str acc,loops:=[]:Heap} (.ptr (ζ2::ex).length 0) (.agg ζ1)=some (ζ3)from store_box2 (cs:=ζ4) (cs':=ζ1) (by simp+zetaDelta) rfl (by simp+zetaDelta [List.set_append]))<|.load (show loadA false 1 ζ3 (.ptr (ζ2::ex).length 9)=some (.str x.node)from load_box (cs:=ζ1) (by simp+zetaDelta) rfl)<|.no (show(x.node==[])=false from Bool.eq_false_iff.2 (by simpa using h1))<|.load (show loadA false 1 ζ3 (.ptr (ζ2::ex).length 7)=some (.str x.key)from load_box (cs:=ζ1) (by simp+zetaDelta) rfl)<|.yes (show(x.key==[])=true from(by simpa using h2))<|.bin (iI i)<|.cutQ k137_0 [(1,.ptr 0 0),(3,.sl (skF acc) (List.map .str acc)),(9,.sl .sh (s.pods.map encPd)),(10,.int .i64 (↑s.pods.length)),(11,.int .i64 (↑(i+1)))] (ζ3) (fun T hT=>(n1 T hT)))
   ·have e:badP s x=(!(skewS s x x.node).2||decide (x.most<(skewS s x x.node).1)):=by simp[badP,h1,h2]
    generalize skewS s x x.node=z at hk e
    obtain⟨k,ok⟩:=z
    simp only at hk e
    cases ok with
    |false=>
     have e':badP s x=true:=by rw[e];rfl
     rw[bad_yes e',show acc++x.name::badL s post=(acc++[x.name])++badL s post by simp]
     exact let ζ1:List AV:=[.str x.name,.str x.owner,.int .i64 x.prio,.sl .sh (x.need.map encA),.sl .sh (x.labels.map encP),.sl .sh (x.sel.map encM),.sl .sh (x.tols.map encL),.str x.key,.int .i64 x.most,.str x.node,.bool x.hold];let ζ2:List AV:=[.sl .sh (s.nodes.map encN),.sl .sh (s.pods.map encPd),.sl .sh (s.buds.map encB)];let ζ3:Heap:={boxes:=ζ2::(ex++[ζ1]),toks:=tkR .str acc,loops:=[]:Heap};let ζ4:List AV:=[.str [],.str [],.int .i64 0,.sl .full [],.sl .full [],.sl .full [],.sl .full [],.str [],.int .i64 0,.str [],.bool false];let ζ5:Heap:={boxes:=ζ2::(ex++[ζ1]),toks:=tkR .str (acc++[x.name]),loops:=[]:Heap};gG 160 _ hT (.yes (dT ((↑i:Int)<(↑s.pods.length:Int)))<|.idx hxi<|.load (rfl:loadA true 11 {boxes:=ζ2::ex,toks:=tkR .str acc,loops:=[]:Heap} (.ref ζ1)=some (.agg ζ1))<|.store (show storeA 11 {boxes:=ζ2::(ex++[ζ4]),toks:=tkR .str acc,loops:=[]:Heap} (.ptr (ζ2::ex).length 0) (.agg ζ1)=some (ζ3)from store_box2 (cs:=ζ4) (cs':=ζ1) (by simp+zetaDelta) rfl (by simp+zetaDelta [List.set_append]))<|.load (show loadA false 1 ζ3 (.ptr (ζ2::ex).length 9)=some (.str x.node)from load_box (cs:=ζ1) (by simp+zetaDelta) rfl)<|.no (show(x.node==[])=false from Bool.eq_false_iff.2 (by simpa using h1))<|.load (show loadA false 1 ζ3 (.ptr (ζ2::ex).length 7)=some (.str x.key)from load_box (cs:=ζ1) (by simp+zetaDelta) rfl)<|.no (show(x.key==[])=false from Bool.eq_false_iff.2 (by simpa using h2))<|.load (lB true 3 ζ3 0 0 (.agg ζ2) ζ2)<|.load (show loadA true 11 ζ3 (.ptr (ζ2::ex).length 0)=some (.agg ζ1)from load_box (cs:=ζ1) (by simp+zetaDelta) rfl)<|.load (show loadA false 1 ζ3 (.ptr (ζ2::ex).length 9)=some (.str x.node)from load_box (cs:=ζ1) (by simp+zetaDelta) rfl)<|.callK ([.agg ζ2,.agg ζ1,.str x.node]) (.tuple [.int .i64 k,.bool false]) hk<|.tt<|.tt<|.load (show loadA false 1 ζ3 (.ptr (ζ2::ex).length 0)=some (.str x.name)from load_box (cs:=ζ1) (by simp+zetaDelta) rfl)<|.append (show appendA 1 16 ζ3 (.sl (skF acc) (List.map .str acc)) (.sl .full [.str x.name])=some ((rowF .str (acc++[x.name]),ζ5))from ap _ _)<|.bin (iI i)<|.cutQ k137_0 [(1,.ptr 0 0),(3,.sl (skF (acc++[x.name])) (List.map .str (acc++[x.name]))),(9,.sl .sh (s.pods.map encPd)),(10,.int .i64 (↑s.pods.length)),(11,.int .i64 (↑(i+1)))] (ζ5) (fun T hT=>(yes T hT)))
    |true=>
     by_cases h3:x.most<k
     ·have e':badP s x=true:=by rw[e];simp[h3]
      rw[bad_yes e',show acc++x.name::badL s post=(acc++[x.name])++badL s post by simp]
      exact let ζ1:List AV:=[.str x.name,.str x.owner,.int .i64 x.prio,.sl .sh (x.need.map encA),.sl .sh (x.labels.map encP),.sl .sh (x.sel.map encM),.sl .sh (x.tols.map encL),.str x.key,.int .i64 x.most,.str x.node,.bool x.hold];let ζ2:List AV:=[.sl .sh (s.nodes.map encN),.sl .sh (s.pods.map encPd),.sl .sh (s.buds.map encB)];let ζ3:Heap:={boxes:=ζ2::(ex++[ζ1]),toks:=tkR .str acc,loops:=[]:Heap};let ζ4:List AV:=[.str [],.str [],.int .i64 0,.sl .full [],.sl .full [],.sl .full [],.sl .full [],.str [],.int .i64 0,.str [],.bool false];let ζ5:Heap:={boxes:=ζ2::(ex++[ζ1]),toks:=tkR .str (acc++[x.name]),loops:=[]:Heap};gG 160 _ hT (.yes (dT ((↑i:Int)<(↑s.pods.length:Int)))<|.idx hxi<|.load (rfl:loadA true 11 {boxes:=ζ2::ex,toks:=tkR .str acc,loops:=[]:Heap} (.ref ζ1)=some (.agg ζ1))<|.store (show storeA 11 {boxes:=ζ2::(ex++[ζ4]),toks:=tkR .str acc,loops:=[]:Heap} (.ptr (ζ2::ex).length 0) (.agg ζ1)=some (ζ3)from store_box2 (cs:=ζ4) (cs':=ζ1) (by simp+zetaDelta) rfl (by simp+zetaDelta [List.set_append]))<|.load (show loadA false 1 ζ3 (.ptr (ζ2::ex).length 9)=some (.str x.node)from load_box (cs:=ζ1) (by simp+zetaDelta) rfl)<|.no (show(x.node==[])=false from Bool.eq_false_iff.2 (by simpa using h1))<|.load (show loadA false 1 ζ3 (.ptr (ζ2::ex).length 7)=some (.str x.key)from load_box (cs:=ζ1) (by simp+zetaDelta) rfl)<|.no (show(x.key==[])=false from Bool.eq_false_iff.2 (by simpa using h2))<|.load (lB true 3 ζ3 0 0 (.agg ζ2) ζ2)<|.load (show loadA true 11 ζ3 (.ptr (ζ2::ex).length 0)=some (.agg ζ1)from load_box (cs:=ζ1) (by simp+zetaDelta) rfl)<|.load (show loadA false 1 ζ3 (.ptr (ζ2::ex).length 9)=some (.str x.node)from load_box (cs:=ζ1) (by simp+zetaDelta) rfl)<|.callK ([.agg ζ2,.agg ζ1,.str x.node]) (.tuple [.int .i64 k,.bool true]) hk<|.ff<|.load (show loadA false 1 ζ3 (.ptr (ζ2::ex).length 8)=some (.int .i64 x.most)from load_box (cs:=ζ1) (by simp+zetaDelta) rfl)<|.yes (dT (x.most<k))<|.load (show loadA false 1 ζ3 (.ptr (ζ2::ex).length 0)=some (.str x.name)from load_box (cs:=ζ1) (by simp+zetaDelta) rfl)<|.append (show appendA 1 16 ζ3 (.sl (skF acc) (List.map .str acc)) (.sl .full [.str x.name])=some ((rowF .str (acc++[x.name]),ζ5))from ap _ _)<|.bin (iI i)<|.cutQ k137_0 [(1,.ptr 0 0),(3,.sl (skF (acc++[x.name])) (List.map .str (acc++[x.name]))),(9,.sl .sh (s.pods.map encPd)),(10,.int .i64 (↑s.pods.length)),(11,.int .i64 (↑(i+1)))] (ζ5) (fun T hT=>(yes T hT)))
     ·have e':badP s x=false:=by rw[e];simp[h3]
      rw[bad_no e']
      have n1:=no e'
      exact let ζ1:List AV:=[.str x.name,.str x.owner,.int .i64 x.prio,.sl .sh (x.need.map encA),.sl .sh (x.labels.map encP),.sl .sh (x.sel.map encM),.sl .sh (x.tols.map encL),.str x.key,.int .i64 x.most,.str x.node,.bool x.hold];let ζ2:List AV:=[.sl .sh (s.nodes.map encN),.sl .sh (s.pods.map encPd),.sl .sh (s.buds.map encB)];let ζ3:Heap:={boxes:=ζ2::(ex++[ζ1]),toks:=tkR .str acc,loops:=[]:Heap};let ζ4:List AV:=[.str [],.str [],.int .i64 0,.sl .full [],.sl .full [],.sl .full [],.sl .full [],.str [],.int .i64 0,.str [],.bool false];gG 160 _ hT (.yes (dT ((↑i:Int)<(↑s.pods.length:Int)))<|.idx hxi<|.load (rfl:loadA true 11 {boxes:=ζ2::ex,toks:=tkR .str acc,loops:=[]:Heap} (.ref ζ1)=some (.agg ζ1))<|.store (show storeA 11 {boxes:=ζ2::(ex++[ζ4]),toks:=tkR .str acc,loops:=[]:Heap} (.ptr (ζ2::ex).length 0) (.agg ζ1)=some (ζ3)from store_box2 (cs:=ζ4) (cs':=ζ1) (by simp+zetaDelta) rfl (by simp+zetaDelta [List.set_append]))<|.load (show loadA false 1 ζ3 (.ptr (ζ2::ex).length 9)=some (.str x.node)from load_box (cs:=ζ1) (by simp+zetaDelta) rfl)<|.no (show(x.node==[])=false from Bool.eq_false_iff.2 (by simpa using h1))<|.load (show loadA false 1 ζ3 (.ptr (ζ2::ex).length 7)=some (.str x.key)from load_box (cs:=ζ1) (by simp+zetaDelta) rfl)<|.no (show(x.key==[])=false from Bool.eq_false_iff.2 (by simpa using h2))<|.load (lB true 3 ζ3 0 0 (.agg ζ2) ζ2)<|.load (show loadA true 11 ζ3 (.ptr (ζ2::ex).length 0)=some (.agg ζ1)from load_box (cs:=ζ1) (by simp+zetaDelta) rfl)<|.load (show loadA false 1 ζ3 (.ptr (ζ2::ex).length 9)=some (.str x.node)from load_box (cs:=ζ1) (by simp+zetaDelta) rfl)<|.callK ([.agg ζ2,.agg ζ1,.str x.node]) (.tuple [.int .i64 k,.bool true]) hk<|.ff<|.load (show loadA false 1 ζ3 (.ptr (ζ2::ex).length 8)=some (.int .i64 x.most)from load_box (cs:=ζ1) (by simp+zetaDelta) rfl)<|.no (dF (x.most<k))<|.bin (iI i)<|.cutQ k137_0 [(1,.ptr 0 0),(3,.sl (skF acc) (List.map .str acc)),(9,.sl .sh (s.pods.map encPd)),(10,.int .i64 (↑s.pods.length)),(11,.int .i64 (↑(i+1)))] (ζ3) (fun T hT=>(n1 T hT)))
theorem bad_any(s:St)(hp:s.pods.length≤1000)(hs:s.nodes.length≤1000)(hl:∀n∈s.nodes,n.labels.length<9223372036854775807):Gives cfg 137 [encSt s] (rowF .str (badS s)):=by
 refine Gives.run (l137 _ _) ?_
 have h:=bad_loop s hp hs hl s.pods 0 rfl [] (by simp) []
 have e:rowF AV.str ([]:List (List UInt8))=.sl .full []:=rfl
 rw[e,tk_nil,List.nil_append]at h
 rw[show badS s=badL s s.pods from rfl]
 exact gG 60 [] trivial (.len (lM .sh encPd s.pods)<|.cutQ k137_0 [(1,.ptr 0 0),(3,.sl .full []),(9,.sl .sh (s.pods.map encPd)),(10,.int .i64 (↑s.pods.length)),(11,.int .i64 0)] ({boxes:=[[.sl .sh (s.nodes.map encN),.sl .sh (s.pods.map encPd),.sl .sh (s.buds.map encB)]],toks:=[],loops:=[]:Heap}) (fun T hT=>(h T hT)))
end Go.Aa.T
set_option linter.unusedVariables false
set_option linter.unusedSimpArgs false
set_option maxRecDepth 100000
namespace Go.Aa.T
open Go.Aa Go.Proofs
theorem trunc_fn{B:List (List AV)}{nb k o:Nat}{g:FuncId}{cs:List AV}(hl:nb≤k):trunc nb 0 (.func g (.ptr k o::cs)) ⟨B,[],[]⟩=⟨B,[],[]⟩:=by
 unfold trunc
 have hw:within nb 0 (.func g (.ptr k o::cs))=false:=by
  have:¬k<nb:=by omega
  simp[within,in2,in1,in0,this]
 simp only[hw,List.length_nil,List.all_nil,Bool.true_and,Bool.and_false,Bool.false_and,Bool.false_eq_true,if_false,List.take_zero,ite_self]
theorem does_cl{B ex:List (List AV)}{tk:List Nat}{g:FuncId}{k o:Nat}{cs:List AV}{x:AV}{b:Bool}(h:lim cfg (.fn g) ([x]++(.ptr k o::cs)) ⟨B,tk,[]⟩=some (.ret (.bool b),⟨B++ex,tk,[]⟩))(hx:shutA x=x)(hB:B.all (·.all data0)=true):
 Does cfg (.call (.c (.func g (.ptr k o::cs))) [.c x]) ⟨B,tk,[]⟩ (.bool b) ⟨B,tk,[]⟩:=by
 have hd:=does_callE (xs:=[x]) (caps:=.ptr k o::cs) h (by show [shutA x]=[x];rw[hx]) (by show(([x].all isData)&&(Go.Aa.data0 (.ptr k o)&&cs.all data0))=false;rw[show Go.Aa.data0 (.ptr k o)=false from rfl,Bool.false_and,Bool.and_false])
 rw[show shutA (.bool b)=.bool b from rfl,show(⟨B,tk,[]⟩:Heap).boxes.length=B.length from rfl,show(⟨B,tk,[]⟩:Heap).toks.length=tk.length from rfl,trunc_plain hB]at hd
 exact hd
section
variable{H:Heap}{g:FuncId}{k:Nat}{p:Pod→Bool}
theorem idxPd_loop(hd:∀y:Pod,Does cfg (.call (.c (.func g [.ptr k 0])) [.c (encPd y)]) H (.bool (p y)) H)(l:List Pod)(hn:l.length<9223372036854775807):∀(post:List Pod)(i:Nat)(hdr:l.drop i=post)(T:Env)
 (hT:Has T [(0,.sl .sh (l.map encPd)),(1,.func g [.ptr k 0]),(7,.int .i64 l.length),(8,.int .i64 i)]),
 Goes cfg a217 k217_0 T H (fun r=>r=(.ret (.int .i64 (fidxB p post i)),H)):=by
 intro post
 induction post with
 |nil=>
  intro i hdr T hT
  have hge:=drop_ge hdr
  exact gG 60 _ hT (.no (dF ((↑i:Int)<(↑l.length:Int)))<|.fin ((.ret (.int .i64 (-1:Int)),H)) rfl)
 |cons x post ih=>
  intro i hdr T hT
  have hlt:=drop_lt hdr
  have hnx:=drop_next hdr
  have hdx:=hd x
  cases hp:p x with
  |true=>
   rw[hp]at hdx
   have e:fidxB p (x::post) i=i:=by simp[fidxB,hp]
   rw[e]
   exact let ζ1:List AV:=[.str x.name,.str x.owner,.int .i64 x.prio,.sl .sh (x.need.map encA),.sl .sh (x.labels.map encP),.sl .sh (x.sel.map encM),.sl .sh (x.tols.map encL),.str x.key,.int .i64 x.most,.str x.node,.bool x.hold];gG 60 _ hT (.yes (dT ((↑i:Int)<(↑l.length:Int)))<|.idx (iR 11 encPd hdr)<|.load (rfl:loadA true 11 H (.ref ζ1)=some (.agg ζ1))<|.effY hdx<|.tt<|.fin ((.ret (.int .i64 ↑i),H)) rfl)
  |false=>
   rw[hp]at hdx
   have e:fidxB p (x::post) i=fidxB p post (i+1):=by simp[fidxB,hp]
   rw[e]
   exact let ζ1:List AV:=[.str x.name,.str x.owner,.int .i64 x.prio,.sl .sh (x.need.map encA),.sl .sh (x.labels.map encP),.sl .sh (x.sel.map encM),.sl .sh (x.tols.map encL),.str x.key,.int .i64 x.most,.str x.node,.bool x.hold];gG 60 _ hT (.yes (dT ((↑i:Int)<(↑l.length:Int)))<|.idx (iR 11 encPd hdr)<|.load (rfl:loadA true 11 H (.ref ζ1)=some (.agg ζ1))<|.effY hdx<|.ff<|.bin (iI i)<|.cutQ k217_0 [(0,.sl .sh (l.map encPd)),(1,.func g [.ptr k 0]),(7,.int .i64 (↑l.length)),(8,.int .i64 (↑(i+1)))] (H) (fun T hT=>(ih (i+1) hnx T hT)))
theorem anyPd(hd:∀y:Pod,Does cfg (.call (.c (.func g [.ptr k 0])) [.c (encPd y)]) H (.bool (p y)) H)(l:List Pod)(hn:l.length<9223372036854775807):
 Does cfg (.call (.c (.func 141 [])) [.c (.sl .sh (l.map encPd)),.c (.func g [.ptr k 0])]) H (.bool (l.any p)) H:=by
 have hl:lim cfg (.fn 217) [.sl .sh (l.map encPd),.func g [.ptr k 0]] H=some (.ret (.int .i64 (fidxB p l 0)),H):=by
  rw[l217]
  have h:=idxPd_loop hd l hn l 0 rfl
  have key:Goes cfg a217 [.c c217] (initEnv [.sl .sh (l.map encPd),.func g [.ptr k 0]]) H (fun r=>r=(.ret (.int .i64 (fidxB p l 0)),H)):=by
   exact gG 60 [] trivial (.len (lM .sh encPd l)<|.cutQ k217_0 [(0,.sl .sh (l.map encPd)),(1,.func g [.ptr k 0]),(7,.int .i64 (↑l.length)),(8,.int .i64 0)] (H) (fun T hT=>(h T hT)))
  obtain⟨r,h,rfl⟩:=key
  exact h
 have h0:=does_callE (xs:=[.sl .sh (l.map encPd),.func g [.ptr k 0]]) (caps:=[]) hl rfl rfl
 rw[show shutA (.int .i64 (fidxB p l 0))=.int .i64 (fidxB p l 0)from rfl,trunc_self]at h0
 have hf:decide (0≤fidxB p l 0)=l.any p:=fidxB_ge p l 0
 have key:Goes cfg a141 [.c c141] (initEnv [.sl .sh (l.map encPd),.func g [.ptr k 0]]) H (fun r=>r=(.ret (.bool (l.any p)),H)):=by
  rw[←hf]
  generalize fidxB p l 0=c at h0
  exact gG 60 [] trivial (.effY h0<|.fin ((.ret (.bool (decide ((0:Int)≤c))),H)) rfl)
 obtain⟨r,h,rfl⟩:=key
 have h2:lim cfg (.fn 141) ([.sl .sh (l.map encPd),.func g [.ptr k 0]]++[]) H=some (.ret (.bool (l.any p)),H):=by
  rw[l141];exact h
 have h3:=does_callE (xs:=[.sl .sh (l.map encPd),.func g [.ptr k 0]]) (caps:=[]) h2 rfl rfl
 rwa [show shutA (.bool (l.any p))=.bool (l.any p)from rfl,trunc_self]at h3
end
section
variable{H:Heap}{g:FuncId}{k j:Nat}{p:Node→Bool}
theorem idxNd_loop(hd:∀y:Node,Does cfg (.call (.c (.func g [.ptr k 0,.ptr j 0])) [.c (encN y)]) H (.bool (p y)) H)(l:List Node)(hn:l.length<9223372036854775807):∀(post:List Node)(i:Nat)(hdr:l.drop i=post)(T:Env)
 (hT:Has T [(0,.sl .sh (l.map encN)),(1,.func g [.ptr k 0,.ptr j 0]),(7,.int .i64 l.length),(8,.int .i64 i)]),
 Goes cfg a218 k218_0 T H (fun r=>r=(.ret (.int .i64 (fidxB p post i)),H)):=by
 intro post
 induction post with
 |nil=>
  intro i hdr T hT
  have hge:=drop_ge hdr
  exact gG 60 _ hT (.no (dF ((↑i:Int)<(↑l.length:Int)))<|.fin ((.ret (.int .i64 (-1:Int)),H)) rfl)
 |cons x post ih=>
  intro i hdr T hT
  have hlt:=drop_lt hdr
  have hnx:=drop_next hdr
  have hdx:=hd x
  cases hp:p x with
  |true=>
   rw[hp]at hdx
   have e:fidxB p (x::post) i=i:=by simp[fidxB,hp]
   rw[e]
   exact let ζ1:List AV:=[.str x.name,.sl .sh (x.cap.map encA),.sl .sh (x.labels.map encP),.sl .sh (x.taints.map encT),.bool x.cordon];gG 60 _ hT (.yes (dT ((↑i:Int)<(↑l.length:Int)))<|.idx (iR 5 encN hdr)<|.load (rfl:loadA true 5 H (.ref ζ1)=some (.agg ζ1))<|.effY hdx<|.tt<|.fin ((.ret (.int .i64 ↑i),H)) rfl)
  |false=>
   rw[hp]at hdx
   have e:fidxB p (x::post) i=fidxB p post (i+1):=by simp[fidxB,hp]
   rw[e]
   exact let ζ1:List AV:=[.str x.name,.sl .sh (x.cap.map encA),.sl .sh (x.labels.map encP),.sl .sh (x.taints.map encT),.bool x.cordon];let ζ2:List AV:=[.ptr k 0,.ptr j 0];gG 60 _ hT (.yes (dT ((↑i:Int)<(↑l.length:Int)))<|.idx (iR 5 encN hdr)<|.load (rfl:loadA true 5 H (.ref ζ1)=some (.agg ζ1))<|.effY hdx<|.ff<|.bin (iI i)<|.cutQ k218_0 [(0,.sl .sh (l.map encN)),(1,.func g ζ2),(7,.int .i64 (↑l.length)),(8,.int .i64 (↑(i+1)))] (H) (fun T hT=>(ih (i+1) hnx T hT)))
theorem anyNd(hd:∀y:Node,Does cfg (.call (.c (.func g [.ptr k 0,.ptr j 0])) [.c (encN y)]) H (.bool (p y)) H)(l:List Node)(hn:l.length<9223372036854775807):
 Does cfg (.call (.c (.func 144 [])) [.c (.sl .sh (l.map encN)),.c (.func g [.ptr k 0,.ptr j 0])]) H (.bool (l.any p)) H:=by
 have hl:lim cfg (.fn 218) [.sl .sh (l.map encN),.func g [.ptr k 0,.ptr j 0]] H=some (.ret (.int .i64 (fidxB p l 0)),H):=by
  rw[l218]
  have h:=idxNd_loop hd l hn l 0 rfl
  have key:Goes cfg a218 [.c c218] (initEnv [.sl .sh (l.map encN),.func g [.ptr k 0,.ptr j 0]]) H (fun r=>r=(.ret (.int .i64 (fidxB p l 0)),H)):=by
   exact gG 60 [] trivial (.len (lM .sh encN l)<|.cutQ k218_0 [(0,.sl .sh (l.map encN)),(1,.func g [.ptr k 0,.ptr j 0]),(7,.int .i64 (↑l.length)),(8,.int .i64 0)] (H) (fun T hT=>(h T hT)))
  obtain⟨r,h,rfl⟩:=key
  exact h
 have h0:=does_callE (xs:=[.sl .sh (l.map encN),.func g [.ptr k 0,.ptr j 0]]) (caps:=[]) hl rfl rfl
 rw[show shutA (.int .i64 (fidxB p l 0))=.int .i64 (fidxB p l 0)from rfl,trunc_self]at h0
 have hf:decide (0≤fidxB p l 0)=l.any p:=fidxB_ge p l 0
 have key:Goes cfg a144 [.c c144] (initEnv [.sl .sh (l.map encN),.func g [.ptr k 0,.ptr j 0]]) H (fun r=>r=(.ret (.bool (l.any p)),H)):=by
  rw[←hf]
  generalize fidxB p l 0=c at h0
  exact gG 60 [] trivial (.effY h0<|.fin ((.ret (.bool (decide ((0:Int)≤c))),H)) rfl)
 obtain⟨r,h,rfl⟩:=key
 have h2:lim cfg (.fn 144) ([.sl .sh (l.map encN),.func g [.ptr k 0,.ptr j 0]]++[]) H=some (.ret (.bool (l.any p)),H):=by
  rw[l144];exact h
 have h3:=does_callE (xs:=[.sl .sh (l.map encN),.func g [.ptr k 0,.ptr j 0]]) (caps:=[]) h2 rfl rfl
 rwa [show shutA (.bool (l.any p))=.bool (l.any p)from rfl,trunc_self]at h3
end
def wtB(s:St)(p:Pod):Bool:=(worstB p.tols ((findG Node.name s.nodes p.node).getD noN).taints).isSome
def twP(p x:Pod):Bool:=x.owner==p.owner&&(!x.hold&&Op.bytesLess x.name p.name)
def twB(s:St)(p:Pod):Bool:= !(p.owner==[])&&(onS s p.node).any (twP p)
structure StB(s:St):Prop where
 ins:StIn s
 nodes:s.nodes.length≤500
 cap:∀n∈s.nodes,n.cap.length≤1000
 nd:∀n∈s.nodes,NdIn n
 pd:∀p∈s.pods,PdIn p
theorem hp4(s:St){lo hi:AV}(hl:Fl lo)(hh:Fl hi){ex:List (List AV)}(he:ex.all (·.all data0)=true):((encSt s).cells::[lo,hi]::ex).all (·.all data0)=true:=by
 rw[List.all_cons,List.all_cons,he,encSt_d]
 show(true&&((Go.Aa.data0 lo&&(Go.Aa.data0 hi&&true))&&true))=true
 rw[hl.d0,hh.d0];rfl
theorem hp2(s:St){lo hi:AV}(hl:Fl lo)(hh:Fl hi){ex:List (List AV)}(he:ex.all (·.all data0)=true):((encSt s).cells::[lo,hi]::(encSt s).cells::[lo,hi]::ex).all (·.all data0)=true:=
 hp4 s hl hh (hp4 s hl hh he)
theorem cl136(s:St)(h:StB s){lo hi:AV}(hl:Fl lo)(hh:Fl hi)(tk:List Nat)(ex:List (List AV))(he:ex.all (·.all data0)=true)(x:Pod)(hx:PdIn x):
 Does cfg (.call (.c (.func 136 [.ptr 2 0])) [.c (encPd x)]) ⟨(encSt s).cells::[lo,hi]::(encSt s).cells::[lo,hi]::ex,tk,[]⟩ (.bool (wtB s x)) ⟨(encSt s).cells::[lo,hi]::(encSt s).cells::[lo,hi]::ex,tk,[]⟩:=by
 have f:=findN_any s.nodes x.node h.ins.nodes
 cases hf:findG Node.name s.nodes x.node with
 |none=>
  rw[hf]at f
  have w:=worst_any x.tols noN.taints hx.tols (by simp[noN])
  have e:wtB s x=(worstB x.tols noN.taints).isSome:=by unfold wtB;rw[hf];rfl
  have key:Goes cfg a136 [.c c136] (initEnv [encPd x,.ptr 2 0]) ⟨(encSt s).cells::[lo,hi]::(encSt s).cells::[lo,hi]::ex,tk,[]⟩ (fun r=>r=(.ret (.bool (wtB s x)),⟨(encSt s).cells::[lo,hi]::(encSt s).cells::[lo,hi]::(ex++[(encPd x).cells,(encN noN).cells,(encT ((worstB x.tols noN.taints).getD noT)).cells]),tk,[]⟩)):=by
   rw[e]
   have w:Gives cfg 84 [.sl .sh (x.tols.map encL),.sl .sh []] (worstV (worstB x.tols noN.taints)):=w
   unfold worstV at w
   generalize worstB x.tols noN.taints=q at w⊢
   exact let ζ1:List AV:=[.str x.name,.str x.owner,.int .i64 x.prio,.sl .sh (x.need.map encA),.sl .sh (x.labels.map encP),.sl .sh (x.sel.map encM),.sl .sh (x.tols.map encL),.str x.key,.int .i64 x.most,.str x.node,.bool x.hold];let ζ2:List AV:=[.sl .sh (s.nodes.map encN),.sl .sh (s.pods.map encPd),.sl .sh (s.buds.map encB)];let ζ3:List AV:=[.str [],.sl .sh [],.sl .sh [],.sl .sh [],.bool false];let ζ4:List AV:=[.str (q.getD noT).key,.str (q.getD noT).val,.bool (q.getD noT).hard];let ζ5:Heap:={boxes:=ζ2::[lo,hi]::ζ2::[lo,hi]::(ex++[ζ1,ζ3]),toks:=tk,loops:=[]:Heap};let ζ6:Heap:={boxes:=ζ2::[lo,hi]::ζ2::[lo,hi]::(ex++[ζ1,ζ3,ζ4]),toks:=tk,loops:=[]:Heap};let ζ7:Heap:={boxes:=ζ2::[lo,hi]::ζ2::[lo,hi]::(ex++[ζ1]),toks:=tk,loops:=[]:Heap};let ζ8:List AV:=[.str [],.sl .full [],.sl .full [],.sl .full [],.bool false];let ζ9:List AV:=[.sl .sh (s.nodes.map encN),.str x.node];let ζ10:List AV:=[.sl .sh (x.tols.map encL),.sl .sh []];gG 120 [] trivial (.load (lB false 1 ζ7 2 0 (.sl .sh (s.nodes.map encN)) ζ2)<|.load (show loadA false 1 ζ7 (.ptr (ζ2::[lo,hi]::ζ2::[lo,hi]::ex).length 9)=some (.str x.node)from load_box (cs:=ζ1) (by simp+zetaDelta) rfl)<|.callK (ζ9) (.tuple [.agg ζ3,.bool false]) f<|.store (show storeA 5 {boxes:=ζ2::[lo,hi]::ζ2::[lo,hi]::(ex++[ζ1]++[ζ8]),toks:=tk,loops:=[]:Heap} (.ptr (ζ2::[lo,hi]::ζ2::[lo,hi]::(ex++[ζ1])).length 0) (.agg ζ3)=some (ζ5)from store_box2 (cs:=ζ8) (cs':=ζ3) (by simp+zetaDelta) rfl (by simp+zetaDelta [List.set_append]))<|.load (show loadA false 1 ζ5 (.ptr (ζ2::[lo,hi]::ζ2::[lo,hi]::ex).length 6)=some (.sl .sh (x.tols.map encL))from load_box (cs:=ζ1) (by simp+zetaDelta) rfl)<|.load (show loadA false 1 ζ5 (.ptr (ζ2::[lo,hi]::ζ2::[lo,hi]::(ex++[ζ1])).length 3)=some (.sl .sh [])from load_box (cs:=ζ3) (by simp+zetaDelta) rfl)<|.callK (ζ10) (.tuple [.agg ζ4,.bool q.isSome]) w<|.store (show storeA 3 {boxes:=ζ2::[lo,hi]::ζ2::[lo,hi]::(ex++[ζ1,ζ3]++[[AV.str [],.str [],.bool false]]),toks:=tk,loops:=[]:Heap} (.ptr (ζ2::[lo,hi]::ζ2::[lo,hi]::(ex++[ζ1,ζ3])).length 0) (.agg ζ4)=some (ζ6)from store_box2 (cs:=[.str [],.str [],.bool false]) (cs':=ζ4) (by simp+zetaDelta) rfl (by simp+zetaDelta [List.set_append]))<|.fin ((.ret (.bool q.isSome),ζ6)) rfl)
  obtain⟨r,h1,rfl⟩:=key
  exact does_cl (ex:=[(encPd x).cells,(encN noN).cells,(encT ((worstB x.tols noN.taints).getD noT)).cells]) (by rw[show [encPd x]++[AV.ptr 2 0]=[encPd x,.ptr 2 0]from rfl,l136,h1];simp) rfl (hp2 s hl hh he)
 |some n=>
  rw[hf]at f
  have w:=worst_any x.tols n.taints hx.tols (h.nd n (find_in hf)).taints
  have e:wtB s x=(worstB x.tols n.taints).isSome:=by unfold wtB;rw[hf];rfl
  have key:Goes cfg a136 [.c c136] (initEnv [encPd x,.ptr 2 0]) ⟨(encSt s).cells::[lo,hi]::(encSt s).cells::[lo,hi]::ex,tk,[]⟩ (fun r=>r=(.ret (.bool (wtB s x)),⟨(encSt s).cells::[lo,hi]::(encSt s).cells::[lo,hi]::(ex++[(encPd x).cells,(encN n).cells,(encT ((worstB x.tols n.taints).getD noT)).cells]),tk,[]⟩)):=by
   rw[e]
   unfold worstV at w
   generalize worstB x.tols n.taints=q at w⊢
   exact let ζ1:List AV:=[.str x.name,.str x.owner,.int .i64 x.prio,.sl .sh (x.need.map encA),.sl .sh (x.labels.map encP),.sl .sh (x.sel.map encM),.sl .sh (x.tols.map encL),.str x.key,.int .i64 x.most,.str x.node,.bool x.hold];let ζ2:List AV:=[.sl .sh (s.nodes.map encN),.sl .sh (s.pods.map encPd),.sl .sh (s.buds.map encB)];let ζ3:List AV:=[.str n.name,.sl .sh (n.cap.map encA),.sl .sh (n.labels.map encP),.sl .sh (n.taints.map encT),.bool n.cordon];let ζ4:List AV:=[.str (q.getD noT).key,.str (q.getD noT).val,.bool (q.getD noT).hard];let ζ5:Heap:={boxes:=ζ2::[lo,hi]::ζ2::[lo,hi]::(ex++[ζ1,ζ3]),toks:=tk,loops:=[]:Heap};let ζ6:Heap:={boxes:=ζ2::[lo,hi]::ζ2::[lo,hi]::(ex++[ζ1,ζ3,ζ4]),toks:=tk,loops:=[]:Heap};let ζ7:Heap:={boxes:=ζ2::[lo,hi]::ζ2::[lo,hi]::(ex++[ζ1]),toks:=tk,loops:=[]:Heap};let ζ8:List AV:=[.str [],.sl .full [],.sl .full [],.sl .full [],.bool false];let ζ9:List AV:=[.sl .sh (x.tols.map encL),.sl .sh (n.taints.map encT)];let ζ10:List AV:=[.sl .sh (s.nodes.map encN),.str x.node];gG 120 [] trivial (.load (lB false 1 ζ7 2 0 (.sl .sh (s.nodes.map encN)) ζ2)<|.load (show loadA false 1 ζ7 (.ptr (ζ2::[lo,hi]::ζ2::[lo,hi]::ex).length 9)=some (.str x.node)from load_box (cs:=ζ1) (by simp+zetaDelta) rfl)<|.callK (ζ10) (.tuple [.agg ζ3,.bool true]) f<|.store (show storeA 5 {boxes:=ζ2::[lo,hi]::ζ2::[lo,hi]::(ex++[ζ1]++[ζ8]),toks:=tk,loops:=[]:Heap} (.ptr (ζ2::[lo,hi]::ζ2::[lo,hi]::(ex++[ζ1])).length 0) (.agg ζ3)=some (ζ5)from store_box2 (cs:=ζ8) (cs':=ζ3) (by simp+zetaDelta) rfl (by simp+zetaDelta [List.set_append]))<|.load (show loadA false 1 ζ5 (.ptr (ζ2::[lo,hi]::ζ2::[lo,hi]::ex).length 6)=some (.sl .sh (x.tols.map encL))from load_box (cs:=ζ1) (by simp+zetaDelta) rfl)<|.load (show loadA false 1 ζ5 (.ptr (ζ2::[lo,hi]::ζ2::[lo,hi]::(ex++[ζ1])).length 3)=some (.sl .sh (n.taints.map encT))from load_box (cs:=ζ3) (by simp+zetaDelta) rfl)<|.callK (ζ9) (.tuple [.agg ζ4,.bool q.isSome]) w<|.store (show storeA 3 {boxes:=ζ2::[lo,hi]::ζ2::[lo,hi]::(ex++[ζ1,ζ3]++[[AV.str [],.str [],.bool false]]),toks:=tk,loops:=[]:Heap} (.ptr (ζ2::[lo,hi]::ζ2::[lo,hi]::(ex++[ζ1,ζ3])).length 0) (.agg ζ4)=some (ζ6)from store_box2 (cs:=[.str [],.str [],.bool false]) (cs':=ζ4) (by simp+zetaDelta) rfl (by simp+zetaDelta [List.set_append]))<|.fin ((.ret (.bool q.isSome),ζ6)) rfl)
  obtain⟨r,h1,rfl⟩:=key
  exact does_cl (ex:=[(encPd x).cells,(encN n).cells,(encT ((worstB x.tols n.taints).getD noT)).cells]) (by rw[show [encPd x]++[AV.ptr 2 0]=[encPd x,.ptr 2 0]from rfl,l136,h1];simp) rfl (hp2 s hl hh he)
theorem cl138(s:St)(h:StB s){lo hi:AV}(hl:Fl lo)(hh:Fl hi)(tk:List Nat)(l:List (List UInt8))(hn:l.length<9223372036854775807)(ex:List (List AV))(he:ex.all (·.all data0)=true)(x:Pod):
 Does cfg (.call (.c (.func 138 [.ptr 4 0])) [.c (encPd x)]) ⟨(encSt s).cells::[lo,hi]::(encSt s).cells::[lo,hi]::[.sl .sh (l.map .str)]::ex,tk,[]⟩ (.bool (nmB l x.name)) ⟨(encSt s).cells::[lo,hi]::(encSt s).cells::[lo,hi]::[.sl .sh (l.map .str)]::ex,tk,[]⟩:=by
 have c:=ctS_any l x.name hn
 have key:Goes cfg a138 [.c c138] (initEnv [encPd x,.ptr 4 0]) ⟨(encSt s).cells::[lo,hi]::(encSt s).cells::[lo,hi]::[.sl .sh (l.map .str)]::ex,tk,[]⟩ (fun r=>r=(.ret (.bool (nmB l x.name)),⟨(encSt s).cells::[lo,hi]::(encSt s).cells::[lo,hi]::[.sl .sh (l.map .str)]::(ex++[(encPd x).cells]),tk,[]⟩)):=by
  exact let ζ2:List AV:=[.sl .sh (s.nodes.map encN),.sl .sh (s.pods.map encPd),.sl .sh (s.buds.map encB)];let ζ1:Heap:={boxes:=ζ2::[lo,hi]::ζ2::[lo,hi]::[.sl .sh (List.map .str l)]::(ex++[[AV.str x.name,.str x.owner,.int .i64 x.prio,.sl .sh (x.need.map encA),.sl .sh (x.labels.map encP),.sl .sh (x.sel.map encM),.sl .sh (x.tols.map encL),.str x.key,.int .i64 x.most,.str x.node,.bool x.hold]]),toks:=tk,loops:=[]:Heap};let ζ3:List AV:=[.sl .sh (List.map .str l),.str x.name];gG 120 [] trivial (.load (lB false 1 ζ1 4 0 (.sl .sh (List.map .str l)) [.sl .sh (List.map .str l)])<|.load (show loadA false 1 ζ1 (.ptr (ζ2::[lo,hi]::ζ2::[lo,hi]::[.sl .sh (List.map .str l)]::ex).length 0)=some (.str x.name)from load_box (cs:=[.str x.name,.str x.owner,.int .i64 x.prio,.sl .sh (x.need.map encA),.sl .sh (x.labels.map encP),.sl .sh (x.sel.map encM),.sl .sh (x.tols.map encL),.str x.key,.int .i64 x.most,.str x.node,.bool x.hold]) (by simp+zetaDelta) rfl)<|.callK (ζ3) (.bool (nmB l x.name)) c<|.fin ((.ret (.bool (nmB l x.name)),ζ1)) rfl)
 obtain⟨r,h1,rfl⟩:=key
 exact does_cl (ex:=[(encPd x).cells]) (by rw[show [encPd x]++[AV.ptr 4 0]=[encPd x,.ptr 4 0]from rfl,l138,h1];simp) rfl (hp2 s hl hh (by rw[List.all_cons,he];rfl))
theorem cl142(s:St)(h:StB s){lo hi:AV}(hl:Fl lo)(hh:Fl hi)(tk:List Nat)(ex:List (List AV))(he:ex.all (·.all data0)=true)(p x:Pod):
 Does cfg (.call (.c (.func 142 [.ptr (ex.length+4) 0])) [.c (encPd x)]) ⟨(encSt s).cells::[lo,hi]::(encSt s).cells::[lo,hi]::(ex++[(encPd p).cells]),tk,[]⟩ (.bool (twP p x)) ⟨(encSt s).cells::[lo,hi]::(encSt s).cells::[lo,hi]::(ex++[(encPd p).cells]),tk,[]⟩:=by
 have key:Goes cfg a142 [.c c142] (initEnv [encPd x,.ptr (ex.length+4) 0]) ⟨(encSt s).cells::[lo,hi]::(encSt s).cells::[lo,hi]::(ex++[(encPd p).cells]),tk,[]⟩ (fun r=>r=(.ret (.bool (twP p x)),⟨(encSt s).cells::[lo,hi]::(encSt s).cells::[lo,hi]::(ex++[(encPd p).cells]++[(encPd x).cells]),tk,[]⟩)):=by
  by_cases h1:x.owner=p.owner
  ·cases h2:x.hold with
   |true=>
    have e:twP p x=false:=by simp[twP,h1,h2]
    rw[e]
    exact let ζ2:List AV:=[.str p.name,.str p.owner,.int .i64 p.prio,.sl .sh (p.need.map encA),.sl .sh (p.labels.map encP),.sl .sh (p.sel.map encM),.sl .sh (p.tols.map encL),.str p.key,.int .i64 p.most,.str p.node,.bool p.hold];let ζ3:List AV:=[.sl .sh (s.nodes.map encN),.sl .sh (s.pods.map encPd),.sl .sh (s.buds.map encB)];let ζ4:List AV:=[.str x.name,.str x.owner,.int .i64 x.prio,.sl .sh (x.need.map encA),.sl .sh (x.labels.map encP),.sl .sh (x.sel.map encM),.sl .sh (x.tols.map encL),.str x.key,.int .i64 x.most,.str x.node,.bool x.hold];let ζ1:Heap:={boxes:=ζ3::[lo,hi]::ζ3::[lo,hi]::(ex++[ζ2]++[ζ4]),toks:=tk,loops:=[]:Heap};gG 120 [] trivial (.load (show loadA false 1 ζ1 (.ptr (ζ3::[lo,hi]::ζ3::[lo,hi]::(ex++[ζ2])).length 1)=some (.str x.owner)from load_box (cs:=ζ4) (by simp+zetaDelta) rfl)<|.load (lB false 1 ζ1 (ex.length+4) 1 (.str p.owner) ζ2)<|.yes (show(x.owner==p.owner)=true from(by simpa using h1))<|.load (show loadA false 1 ζ1 (.ptr (ζ3::[lo,hi]::ζ3::[lo,hi]::(ex++[ζ2])).length 10)=some (.bool x.hold)from load_box (cs:=ζ4) (by simp+zetaDelta) rfl)<|.no (show(!x.hold)=false from by have hh:x.hold=true:=(by simp+zetaDelta [h2]);simp[hh])<|.fin ((.ret (.bool false),ζ1)) rfl)
   |false=>
    have e:twP p x=Op.bytesLess x.name p.name:=by simp[twP,h1,h2]
    rw[e]
    exact let ζ2:List AV:=[.str p.name,.str p.owner,.int .i64 p.prio,.sl .sh (p.need.map encA),.sl .sh (p.labels.map encP),.sl .sh (p.sel.map encM),.sl .sh (p.tols.map encL),.str p.key,.int .i64 p.most,.str p.node,.bool p.hold];let ζ3:List AV:=[.sl .sh (s.nodes.map encN),.sl .sh (s.pods.map encPd),.sl .sh (s.buds.map encB)];let ζ4:List AV:=[.str x.name,.str x.owner,.int .i64 x.prio,.sl .sh (x.need.map encA),.sl .sh (x.labels.map encP),.sl .sh (x.sel.map encM),.sl .sh (x.tols.map encL),.str x.key,.int .i64 x.most,.str x.node,.bool x.hold];let ζ1:Heap:={boxes:=ζ3::[lo,hi]::ζ3::[lo,hi]::(ex++[ζ2]++[ζ4]),toks:=tk,loops:=[]:Heap};gG 120 [] trivial (.load (show loadA false 1 ζ1 (.ptr (ζ3::[lo,hi]::ζ3::[lo,hi]::(ex++[ζ2])).length 1)=some (.str x.owner)from load_box (cs:=ζ4) (by simp+zetaDelta) rfl)<|.load (lB false 1 ζ1 (ex.length+4) 1 (.str p.owner) ζ2)<|.yes (show(x.owner==p.owner)=true from(by simpa using h1))<|.load (show loadA false 1 ζ1 (.ptr (ζ3::[lo,hi]::ζ3::[lo,hi]::(ex++[ζ2])).length 10)=some (.bool x.hold)from load_box (cs:=ζ4) (by simp+zetaDelta) rfl)<|.yes (show(!x.hold)=true from by have hh:¬(x.hold=true):=(by simp+zetaDelta [h2]);simp[hh])<|.load (show loadA false 1 ζ1 (.ptr (ζ3::[lo,hi]::ζ3::[lo,hi]::(ex++[ζ2])).length 0)=some (.str x.name)from load_box (cs:=ζ4) (by simp+zetaDelta) rfl)<|.load (lB false 1 ζ1 (ex.length+4) 0 (.str p.name) ζ2)<|.fin ((.ret (.bool (Op.bytesLess x.name p.name)),ζ1)) rfl)
  ·have e:twP p x=false:=by simp[twP,h1]
   rw[e]
   exact let ζ2:List AV:=[.str p.name,.str p.owner,.int .i64 p.prio,.sl .sh (p.need.map encA),.sl .sh (p.labels.map encP),.sl .sh (p.sel.map encM),.sl .sh (p.tols.map encL),.str p.key,.int .i64 p.most,.str p.node,.bool p.hold];let ζ3:List AV:=[.sl .sh (s.nodes.map encN),.sl .sh (s.pods.map encPd),.sl .sh (s.buds.map encB)];let ζ1:Heap:={boxes:=ζ3::[lo,hi]::ζ3::[lo,hi]::(ex++[ζ2]++[[AV.str x.name,.str x.owner,.int .i64 x.prio,.sl .sh (x.need.map encA),.sl .sh (x.labels.map encP),.sl .sh (x.sel.map encM),.sl .sh (x.tols.map encL),.str x.key,.int .i64 x.most,.str x.node,.bool x.hold]]),toks:=tk,loops:=[]:Heap};gG 120 [] trivial (.load (show loadA false 1 ζ1 (.ptr (ζ3::[lo,hi]::ζ3::[lo,hi]::(ex++[ζ2])).length 1)=some (.str x.owner)from load_box (cs:=[.str x.name,.str x.owner,.int .i64 x.prio,.sl .sh (x.need.map encA),.sl .sh (x.labels.map encP),.sl .sh (x.sel.map encM),.sl .sh (x.tols.map encL),.str x.key,.int .i64 x.most,.str x.node,.bool x.hold]) (by simp+zetaDelta) rfl)<|.load (lB false 1 ζ1 (ex.length+4) 1 (.str p.owner) ζ2)<|.no (show(x.owner==p.owner)=false from Bool.eq_false_iff.2 (by simpa using h1))<|.ff<|.fin ((.ret (.bool false),ζ1)) rfl)
 obtain⟨r,h1,rfl⟩:=key
 exact does_cl (ex:=[(encPd x).cells]) (by rw[show [encPd x]++[AV.ptr (ex.length+4) 0]=[encPd x,.ptr (ex.length+4) 0]from rfl,l142,h1];simp) rfl (hp2 s hl hh (by rw[List.all_append,he];rfl))
theorem cl140(s:St)(h:StB s){lo hi:AV}(hl:Fl lo)(hh:Fl hi)(tk:List Nat)(ex:List (List AV))(he:ex.all (·.all data0)=true)(x:Pod):
 Does cfg (.call (.c (.func 140 [.ptr 2 0])) [.c (encPd x)]) ⟨(encSt s).cells::[lo,hi]::(encSt s).cells::[lo,hi]::ex,tk,[]⟩ (.bool (twB s x)) ⟨(encSt s).cells::[lo,hi]::(encSt s).cells::[lo,hi]::ex,tk,[]⟩:=by
 have o:=on_any s x.node h.ins.pods
 have hlen:=on_len s x.node
 have hp:=h.ins.pods
 have a:=anyPd (fun y=>cl142 s h hl hh tk ex he x y) (onS s x.node) (by omega)
 have key:Goes cfg a140 [.c c140] (initEnv [encPd x,.ptr 2 0]) ⟨(encSt s).cells::[lo,hi]::(encSt s).cells::[lo,hi]::ex,tk,[]⟩ (fun r=>r=(.ret (.bool (twB s x)),⟨(encSt s).cells::[lo,hi]::(encSt s).cells::[lo,hi]::(ex++[(encPd x).cells]),tk,[]⟩)):=by
  by_cases h1:x.owner=[]
  ·have e:twB s x=false:=by simp[twB,h1]
   rw[e]
   exact let ζ2:List AV:=[.sl .sh (s.nodes.map encN),.sl .sh (s.pods.map encPd),.sl .sh (s.buds.map encB)];let ζ1:Heap:={boxes:=ζ2::[lo,hi]::ζ2::[lo,hi]::(ex++[[AV.str x.name,.str x.owner,.int .i64 x.prio,.sl .sh (x.need.map encA),.sl .sh (x.labels.map encP),.sl .sh (x.sel.map encM),.sl .sh (x.tols.map encL),.str x.key,.int .i64 x.most,.str x.node,.bool x.hold]]),toks:=tk,loops:=[]:Heap};gG 120 [] trivial (.load (show loadA false 1 ζ1 (.ptr (ζ2::[lo,hi]::ζ2::[lo,hi]::ex).length 1)=some (.str x.owner)from load_box (cs:=[.str x.name,.str x.owner,.int .i64 x.prio,.sl .sh (x.need.map encA),.sl .sh (x.labels.map encP),.sl .sh (x.sel.map encM),.sl .sh (x.tols.map encL),.str x.key,.int .i64 x.most,.str x.node,.bool x.hold]) (by simp+zetaDelta) rfl)<|.no (show(!x.owner==[])=false from by have hh:(x.owner==[])=true:=(by simpa using h1);simp[hh])<|.fin ((.ret (.bool false),ζ1)) rfl)
  ·have e:twB s x=(onS s x.node).any (twP x):=by simp[twB,h1]
   rw[e]
   generalize(onS s x.node).any (twP x)=b at a⊢
   generalize onS s x.node=l at a o
   exact let ζ2:List AV:=[.sl .sh (s.nodes.map encN),.sl .sh (s.pods.map encPd),.sl .sh (s.buds.map encB)];let ζ3:List AV:=[.str x.name,.str x.owner,.int .i64 x.prio,.sl .sh (x.need.map encA),.sl .sh (x.labels.map encP),.sl .sh (x.sel.map encM),.sl .sh (x.tols.map encL),.str x.key,.int .i64 x.most,.str x.node,.bool x.hold];let ζ1:Heap:={boxes:=ζ2::[lo,hi]::ζ2::[lo,hi]::(ex++[ζ3]),toks:=tk,loops:=[]:Heap};let ζ4:Heap:={boxes:=(encSt s).cells::[lo,hi]::(encSt s).cells::[lo,hi]::(ex++[(encPd x).cells]),toks:=tk,loops:=[]:Heap};gG 120 [] trivial (.load (show loadA false 1 ζ1 (.ptr (ζ2::[lo,hi]::ζ2::[lo,hi]::ex).length 1)=some (.str x.owner)from load_box (cs:=ζ3) (by simp+zetaDelta) rfl)<|.yes (show(!x.owner==[])=true from by have hh:¬((x.owner==[])=true):=(by simpa using h1);simp[hh])<|.load (lB true 3 ζ1 2 0 (.agg ζ2) ζ2)<|.load (show loadA false 1 ζ1 (.ptr (ζ2::[lo,hi]::ζ2::[lo,hi]::ex).length 9)=some (.str x.node)from load_box (cs:=ζ3) (by simp+zetaDelta) rfl)<|.callG ([.agg ζ2,.str x.node]) (.sl .sh (l.map encPd)) o ⟨rfl,rfl⟩ Res.p<|.effY a<|.fin ((.ret (.bool b),ζ1)) rfl)
 obtain⟨r,h1,rfl⟩:=key
 exact does_cl (ex:=[(encPd x).cells]) (by rw[show [encPd x]++[AV.ptr 2 0]=[encPd x,.ptr 2 0]from rfl,l140,h1];simp) rfl (hp2 s hl hh he)
theorem cl143(s:St)(h:StB s){lo hi:AV}(hl:Fl lo)(hh:Fl hi)(tk:List Nat)(ex:List (List AV))(he:ex.all (·.all data0)=true)(x:Pod):
 Does cfg (.call (.c (.func 143 [.ptr 2 0,.ptr 3 0])) [.c (encPd x)]) ⟨(encSt s).cells::[lo,hi]::(encSt s).cells::[lo,hi]::ex,tk,[]⟩ (.bool (lvN s x.node lo hi==2)) ⟨(encSt s).cells::[lo,hi]::(encSt s).cells::[lo,hi]::ex,tk,[]⟩:=by
 haveI:=hl.C
 haveI:=hh.C
 have f:=lv_any s h.ins h.cap x.node hl hh
 have key:Goes cfg a143 [.c c143] (initEnv [encPd x,.ptr 2 0,.ptr 3 0]) ⟨(encSt s).cells::[lo,hi]::(encSt s).cells::[lo,hi]::ex,tk,[]⟩ (fun r=>r=(.ret (.bool (lvN s x.node lo hi==2)),⟨(encSt s).cells::[lo,hi]::(encSt s).cells::[lo,hi]::(ex++[(encPd x).cells]),tk,[]⟩)):=by
  generalize lvN s x.node lo hi=c at f⊢
  exact let ζ2:List AV:=[.sl .sh (s.nodes.map encN),.sl .sh (s.pods.map encPd),.sl .sh (s.buds.map encB)];let ζ1:Heap:={boxes:=ζ2::[lo,hi]::ζ2::[lo,hi]::(ex++[[AV.str x.name,.str x.owner,.int .i64 x.prio,.sl .sh (x.need.map encA),.sl .sh (x.labels.map encP),.sl .sh (x.sel.map encM),.sl .sh (x.tols.map encL),.str x.key,.int .i64 x.most,.str x.node,.bool x.hold]]),toks:=tk,loops:=[]:Heap};gG 120 [] trivial (.load (lB true 3 ζ1 2 0 (.agg ζ2) ζ2)<|.load (show loadA false 1 ζ1 (.ptr (ζ2::[lo,hi]::ζ2::[lo,hi]::ex).length 9)=some (.str x.node)from load_box (cs:=[.str x.name,.str x.owner,.int .i64 x.prio,.sl .sh (x.need.map encA),.sl .sh (x.labels.map encP),.sl .sh (x.sel.map encM),.sl .sh (x.tols.map encL),.str x.key,.int .i64 x.most,.str x.node,.bool x.hold]) (by simp+zetaDelta) rfl)<|.load (lB true 2 ζ1 3 0 (.agg [lo,hi]) [lo,hi])<|.callG ([.agg ζ2,.str x.node,.agg [lo,hi]]) (.int .i64 c) f Shuts.p ⟨rfl,rfl⟩<|.fin ((.ret (.bool (c==(2:Int))),ζ1)) rfl)
 obtain⟨r,h1,rfl⟩:=key
 exact does_cl (ex:=[(encPd x).cells]) (by rw[show [encPd x]++[AV.ptr 2 0,.ptr 3 0]=[encPd x,.ptr 2 0,.ptr 3 0]from rfl,l143,h1];simp) rfl (hp2 s hl hh he)
theorem cl146(s:St)(h:StB s){lo hi:AV}(hl:Fl lo)(hh:Fl hi)(tk:List Nat)(m:Bool)(ex:List (List AV))(he:ex.all (·.all data0)=true)(x:Pod):
 Does cfg (.call (.c (.func 146 [.ptr 4 0,.ptr 2 0,.ptr 3 0])) [.c (encPd x)]) ⟨(encSt s).cells::[lo,hi]::(encSt s).cells::[lo,hi]::[.bool m]::ex,tk,[]⟩ (.bool (m&&(lvN s x.node lo hi==0))) ⟨(encSt s).cells::[lo,hi]::(encSt s).cells::[lo,hi]::[.bool m]::ex,tk,[]⟩:=by
 haveI:=hl.C
 haveI:=hh.C
 have f:=lv_any s h.ins h.cap x.node hl hh
 have key:Goes cfg a146 [.c c146] (initEnv [encPd x,.ptr 4 0,.ptr 2 0,.ptr 3 0]) ⟨(encSt s).cells::[lo,hi]::(encSt s).cells::[lo,hi]::[.bool m]::ex,tk,[]⟩ (fun r=>r=(.ret (.bool (m&&(lvN s x.node lo hi==0))),⟨(encSt s).cells::[lo,hi]::(encSt s).cells::[lo,hi]::[.bool m]::(ex++[(encPd x).cells]),tk,[]⟩)):=by
  generalize lvN s x.node lo hi=c at f⊢
  cases m with
  |true=>
   rw[Bool.true_and]
   exact let ζ2:List AV:=[.sl .sh (s.nodes.map encN),.sl .sh (s.pods.map encPd),.sl .sh (s.buds.map encB)];let ζ1:Heap:={boxes:=ζ2::[lo,hi]::ζ2::[lo,hi]::[.bool true]::(ex++[[AV.str x.name,.str x.owner,.int .i64 x.prio,.sl .sh (x.need.map encA),.sl .sh (x.labels.map encP),.sl .sh (x.sel.map encM),.sl .sh (x.tols.map encL),.str x.key,.int .i64 x.most,.str x.node,.bool x.hold]]),toks:=tk,loops:=[]:Heap};gG 120 [] trivial (.load (lB false 1 ζ1 4 0 (.bool true) [.bool true])<|.tt<|.load (lB true 3 ζ1 2 0 (.agg ζ2) ζ2)<|.load (show loadA false 1 ζ1 (.ptr (ζ2::[lo,hi]::ζ2::[lo,hi]::[.bool true]::ex).length 9)=some (.str x.node)from load_box (cs:=[.str x.name,.str x.owner,.int .i64 x.prio,.sl .sh (x.need.map encA),.sl .sh (x.labels.map encP),.sl .sh (x.sel.map encM),.sl .sh (x.tols.map encL),.str x.key,.int .i64 x.most,.str x.node,.bool x.hold]) (by simp+zetaDelta) rfl)<|.load (lB true 2 ζ1 3 0 (.agg [lo,hi]) [lo,hi])<|.callG ([.agg ζ2,.str x.node,.agg [lo,hi]]) (.int .i64 c) f Shuts.p ⟨rfl,rfl⟩<|.fin ((.ret (.bool (c==(0:Int))),ζ1)) rfl)
  |false=>
   rw[Bool.false_and]
   exact let ζ1:Heap:={boxes:=[.sl .sh (s.nodes.map encN),.sl .sh (s.pods.map encPd),.sl .sh (s.buds.map encB)]::[lo,hi]::[.sl .sh (s.nodes.map encN),.sl .sh (s.pods.map encPd),.sl .sh (s.buds.map encB)]::[lo,hi]::[.bool false]::(ex++[[AV.str x.name,.str x.owner,.int .i64 x.prio,.sl .sh (x.need.map encA),.sl .sh (x.labels.map encP),.sl .sh (x.sel.map encM),.sl .sh (x.tols.map encL),.str x.key,.int .i64 x.most,.str x.node,.bool x.hold]]),toks:=tk,loops:=[]:Heap};gG 120 [] trivial (.load (lB false 1 ζ1 4 0 (.bool false) [.bool false])<|.ff<|.fin ((.ret (.bool false),ζ1)) rfl)
 obtain⟨r,h1,rfl⟩:=key
 exact does_cl (ex:=[(encPd x).cells]) (by rw[show [encPd x]++[AV.ptr 4 0,.ptr 2 0,.ptr 3 0]=[encPd x,.ptr 4 0,.ptr 2 0,.ptr 3 0]from rfl,l146,h1];simp) rfl (hp2 s hl hh (by rw[List.all_cons,he];rfl))
def mrP(s:St)(lo hi:AV)(n:Node):Bool:= !n.cordon&& !(lvN s n.name lo hi==0)
theorem cl145(s:St)(h:StB s){lo hi:AV}(hl:Fl lo)(hh:Fl hi)(tk:List Nat)(x:Node):
 Does cfg (.call (.c (.func 145 [.ptr 0 0,.ptr 1 0])) [.c (encN x)]) ⟨[(encSt s).cells,[lo,hi]],[],[]⟩ (.bool (mrP s lo hi x)) ⟨[(encSt s).cells,[lo,hi]],[],[]⟩:=by
 haveI:=hl.C
 haveI:=hh.C
 have f:=lv_any s h.ins h.cap x.name hl hh
 have key:Goes cfg a145 [.c c145] (initEnv [encN x,.ptr 0 0,.ptr 1 0]) ⟨[(encSt s).cells,[lo,hi]],[],[]⟩ (fun r=>r=(.ret (.bool (mrP s lo hi x)),⟨[(encSt s).cells,[lo,hi],(encN x).cells],[],[]⟩)):=by
  unfold mrP
  generalize lvN s x.name lo hi=c at f⊢
  cases h1:x.cordon with
  |true=>
   rw[Bool.not_true,Bool.false_and]
   exact gG 120 [] trivial (.no (show(!x.cordon)=false from by have hh:x.cordon=true:=(by simp[h1]);simp[hh])<|.fin ((.ret (.bool false),{boxes:=[[.sl .sh (s.nodes.map encN),.sl .sh (s.pods.map encPd),.sl .sh (s.buds.map encB)],[lo,hi],[.str x.name,.sl .sh (x.cap.map encA),.sl .sh (x.labels.map encP),.sl .sh (x.taints.map encT),.bool x.cordon]],toks:=[],loops:=[]:Heap})) rfl)
  |false=>
   rw[Bool.not_false,Bool.true_and]
   exact let ζ1:List AV:=[.sl .sh (s.nodes.map encN),.sl .sh (s.pods.map encPd),.sl .sh (s.buds.map encB)];gG 120 [] trivial (.yes (show(!x.cordon)=true from by have hh:¬(x.cordon=true):=(by simp+zetaDelta [h1]);simp[hh])<|.callG ([.agg ζ1,.str x.name,.agg [lo,hi]]) (.int .i64 c) f Shuts.p ⟨rfl,rfl⟩<|.fin ((.ret (.bool (c !=(0:Int))),{boxes:=[ζ1,[lo,hi],[.str x.name,.sl .sh (x.cap.map encA),.sl .sh (x.labels.map encP),.sl .sh (x.taints.map encT),.bool x.cordon]],toks:=[],loops:=[]:Heap})) rfl)
 obtain⟨r,h1,rfl⟩:=key
 exact does_cl (B:=[(encSt s).cells,[lo,hi]]) (ex:=[(encN x).cells]) (by rw[show [encN x]++[AV.ptr 0 0,.ptr 1 0]=[encN x,.ptr 0 0,.ptr 1 0]from rfl,l145,h1];simp) rfl (hp4 s hl hh rfl)
theorem cl145b(s:St)(h:StB s){lo hi:AV}(hl:Fl lo)(hh:Fl hi)(tk:List Nat)(x:Node):
 Does cfg (.call (.c (.func 145 [.ptr 2 0,.ptr 3 0])) [.c (encN x)]) ⟨[(encSt s).cells,[lo,hi],(encSt s).cells,[lo,hi]],[],[]⟩ (.bool (mrP s lo hi x)) ⟨[(encSt s).cells,[lo,hi],(encSt s).cells,[lo,hi]],[],[]⟩:=by
 haveI:=hl.C
 haveI:=hh.C
 have f:=lv_any s h.ins h.cap x.name hl hh
 have key:Goes cfg a145 [.c c145] (initEnv [encN x,.ptr 2 0,.ptr 3 0]) ⟨[(encSt s).cells,[lo,hi],(encSt s).cells,[lo,hi]],[],[]⟩ (fun r=>r=(.ret (.bool (mrP s lo hi x)),⟨[(encSt s).cells,[lo,hi],(encSt s).cells,[lo,hi],(encN x).cells],[],[]⟩)):=by
  unfold mrP
  generalize lvN s x.name lo hi=c at f⊢
  cases h1:x.cordon with
  |true=>
   rw[Bool.not_true,Bool.false_and]
   exact let ζ1:List AV:=[.sl .sh (s.nodes.map encN),.sl .sh (s.pods.map encPd),.sl .sh (s.buds.map encB)];gG 120 [] trivial (.no (show(!x.cordon)=false from by have hh:x.cordon=true:=(by simp+zetaDelta [h1]);simp[hh])<|.fin ((.ret (.bool false),{boxes:=[ζ1,[lo,hi],ζ1,[lo,hi],[.str x.name,.sl .sh (x.cap.map encA),.sl .sh (x.labels.map encP),.sl .sh (x.taints.map encT),.bool x.cordon]],toks:=[],loops:=[]:Heap})) rfl)
  |false=>
   rw[Bool.not_false,Bool.true_and]
   exact let ζ1:List AV:=[.sl .sh (s.nodes.map encN),.sl .sh (s.pods.map encPd),.sl .sh (s.buds.map encB)];gG 120 [] trivial (.yes (show(!x.cordon)=true from by have hh:¬(x.cordon=true):=(by simp+zetaDelta [h1]);simp[hh])<|.callG ([.agg ζ1,.str x.name,.agg [lo,hi]]) (.int .i64 c) f Shuts.p ⟨rfl,rfl⟩<|.fin ((.ret (.bool (c !=(0:Int))),{boxes:=[ζ1,[lo,hi],ζ1,[lo,hi],[.str x.name,.sl .sh (x.cap.map encA),.sl .sh (x.labels.map encP),.sl .sh (x.taints.map encT),.bool x.cordon]],toks:=[],loops:=[]:Heap})) rfl)
 obtain⟨r,h1,rfl⟩:=key
 exact does_cl (B:=[(encSt s).cells,[lo,hi],(encSt s).cells,[lo,hi]]) (ex:=[(encN x).cells]) (by rw[show [encN x]++[AV.ptr 2 0,.ptr 3 0]=[encN x,.ptr 2 0,.ptr 3 0]from rfl,l145,h1];simp) rfl (hp2 s hl hh rfl)
end Go.Aa.T
