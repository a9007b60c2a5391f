/-
  WHAT THE LAW LEANS ON, part 11 of 11: a machine of values and its soundness; the functions of the law upon it; what they come to.
-/
import Derived.Test.YtjoblbpgpmknmaaGreatDoorXles4j
import Derived.Shelf.Sort.Plain
import Derived.Shelf.Slices.In.SortNone
import Derived.Shelf.Slices.In.SortAlone
import Derived.Shelf.Small.Strs
import Derived.Shelf.Spec.SlicesInsertGrow
import Derived.JoinedOf
set_option linter.unusedVariables false
set_option linter.unusedSimpArgs false
set_option maxRecDepth 100000
namespace Go.Aa.T
open Go.Aa Go.Proofs
theorem must_ok(e:Int):Gives cfg 80 [.bool true,.int .i64 e] (.tuple []):=by
 refine Gives.run (l80 _ _) ?_
 exact goG 60 [] trivial (.ff<|.fin ((.ret (.tuple []),{boxes:=[],toks:=[],loops:=[]:Heap})) rfl) (by kernel_rfl)
theorem must_no{e:Int}(he:¬e=0):Pans cfg 80 [.bool false,.int .i64 e] (stopV e):=by
 have h:=stop_pan he
 refine Pans.run (l80 _ _) ?_
 exact goG 60 [] trivial (.tt<|.callP ([.int .i64 e]) ({boxes:=[],toks:=[],loops:=[]:Heap}) (show Pans cfg (101:FuncId) [.int .i64 e] (stopV e)from h) ⟨rfl,rfl⟩ rfl rfl) (by kernel_rfl)
theorem freeS_len(s:St)(hs:StIn s)(nd:List UInt8):(freeS s nd).1.length≤8:=by
 unfold freeS freeG
 split
 ·refine(subV_rg ?_).2
  unfold capOf
  split
  ·exact fun x hx=>by cases hx
  ·rename_i n hf;exact(hs.cap n (findG_mem hf)).rg
 ·simp
theorem drop_inF{s:St}(h:StIn s)(nm:List UInt8):StIn (dropS s nm):=by
 have l:=off_len nm s.pods
 exact⟨h.nodes,by show(offP nm s.pods).length≤_;have:=h.pods;omega,h.cap,fun p hp=>h.need p (off_mem hp).1⟩
def fitG(s:St)(p:Pod)(nm:List UInt8)(sk:Int)(ok:Bool):Int:=match findG Node.name s.nodes nm with
 |none=>3
 |some n=>if(!n.cordon&&matchB n.labels p.sel)=true then(if(worstB p.tols n.taints).isSome=true then 9 else
   (if(ok&&(p.key==[]||decide (sk≤p.most)))=true then(if(decide ((freeS s nm).2=0)&&fitsV p.need (freeS s nm).1)=true then 0 else 7)else 10))else 8
structure PdIn(p:Pod):Prop where
 need:p.need.length<9223372036854775807
 labels:p.labels.length<9223372036854775807
 sel:p.sel.length<9223372036854775807
 tols:p.tols.length<9223372036854775807
structure NdIn(n:Node):Prop where
 labels:n.labels.length<9223372036854775807
 taints:n.taints.length<9223372036854775807
theorem fit_all(s:St)(hs:StIn s)(hn:∀n∈s.nodes,NdIn n)(p:Pod)(hp:PdIn p)(nm:List UInt8)(sk:Int)(ok:Bool)
 (h83:Gives cfg 83 [encSt s,encPd p,.str nm] (.tuple [.int .i64 sk,.bool ok])):
 Goes cfg a78 [.c c78] (initEnv [.ptr 0 0,.ptr 2 0,.ptr 1 0]) ⟨[(encSt s).cells,(encPd p).cells,[.str nm]],[],[]⟩ (ChkR (fitG s p nm sk ok)):=by
 have f:=findN_any s.nodes nm hs.nodes
 unfold fitG
 cases hf:findG Node.name s.nodes nm with
 |none=>
  rw[hf]at f
  simp only
  have m3:Pans cfg 80 [.bool false,.int .i64 3] (stopV 3):=must_no (by decide)
  exact let ζ1:List AV:=[.str [],.sl .sh [],.sl .sh [],.sl .sh [],.bool false];let ζ2:List AV:=[.sl .sh (s.nodes.map encN),.str nm];goG 120 [] trivial (.callK (ζ2) (.tuple [.agg ζ1,.bool false]) (show Gives cfg (79:FuncId) ζ2 (findNV none)from f)<|.callP ([.bool false,.int .i64 3]) ({boxes:=[[.sl .sh (s.nodes.map encN),.sl .sh (s.pods.map encPd),.sl .sh (s.buds.map encB)],[.str p.name,.str p.owner,.int .i64 p.prio,.sl .sh (p.need.map encA),.sl .sh (p.labels.map encP),.sl .sh (p.sel.map encM),.sl .sh (p.tols.map encL),.str p.key,.int .i64 p.most,.str p.node,.bool p.hold],[.str nm],ζ1],toks:=[],loops:=[]:Heap}) (show Pans cfg (80:FuncId) [.bool false,.int .i64 3] (stopV (3:Int))from m3) ⟨rfl,rfl⟩ rfl (by exact .inr ⟨by decide,rfl⟩)) (by kernel_rfl)
 |some n=>
  rw[hf]at f
  have hni:=hn n (findG_mem hf)
  have mt:=match_any n.labels p.sel hni.labels hp.sel
  have m8:Pans cfg 80 [.bool false,.int .i64 8] (stopV 8):=must_no (by decide)
  simp only
  cases hc:n.cordon with
  |true=>
   rw[if_neg (by simp)]
   exact let ζ1:List AV:=[.str n.name,.sl .sh (n.cap.map encA),.sl .sh (n.labels.map encP),.sl .sh (n.taints.map encT),.bool n.cordon];let ζ2:List AV:=[.sl .sh (s.nodes.map encN),.str nm];goG 160 [] trivial (.callK (ζ2) (.tuple [.agg ζ1,.bool true]) (show Gives cfg (79:FuncId) ζ2 (findNV (some n))from f)<|.callI (show Gives cfg (80:FuncId) [.bool true,.int .i64 3] (.tuple [])from must_ok _)<|.no (show(!n.cordon)=false from by have hh:n.cordon=true:=(by exact hc);simp[hh])<|.callP ([.bool false,.int .i64 8]) ({boxes:=[[.sl .sh (s.nodes.map encN),.sl .sh (s.pods.map encPd),.sl .sh (s.buds.map encB)],[.str p.name,.str p.owner,.int .i64 p.prio,.sl .sh (p.need.map encA),.sl .sh (p.labels.map encP),.sl .sh (p.sel.map encM),.sl .sh (p.tols.map encL),.str p.key,.int .i64 p.most,.str p.node,.bool p.hold],[.str nm],ζ1],toks:=[],loops:=[]:Heap}) (show Pans cfg (80:FuncId) [.bool false,.int .i64 8] (stopV (8:Int))from m8) ⟨rfl,rfl⟩ rfl (by exact .inr ⟨by decide,rfl⟩)) (by kernel_rfl)
  |false=>
   cases hm:matchB n.labels p.sel with
   |false=>
    rw[hm]at mt
    rw[if_neg (by simp)]
    exact let ζ1:List AV:=[.str n.name,.sl .sh (n.cap.map encA),.sl .sh (n.labels.map encP),.sl .sh (n.taints.map encT),.bool n.cordon];let ζ2:List AV:=[.sl .sh (p.sel.map encM),.sl .sh (n.labels.map encP)];let ζ3:List AV:=[.sl .sh (s.nodes.map encN),.str nm];goG 160 [] trivial (.callK (ζ3) (.tuple [.agg ζ1,.bool true]) (show Gives cfg (79:FuncId) ζ3 (findNV (some n))from f)<|.callI (show Gives cfg (80:FuncId) [.bool true,.int .i64 3] (.tuple [])from must_ok _)<|.yes (show(!n.cordon)=true from by have hh:¬(n.cordon=true):=(by simp+zetaDelta [hc]);simp[hh])<|.callK (ζ2) (.bool false) (show Gives cfg (81:FuncId) ζ2 (.bool false)from mt)<|.callP ([.bool false,.int .i64 8]) ({boxes:=[[.sl .sh (s.nodes.map encN),.sl .sh (s.pods.map encPd),.sl .sh (s.buds.map encB)],[.str p.name,.str p.owner,.int .i64 p.prio,.sl .sh (p.need.map encA),.sl .sh (p.labels.map encP),.sl .sh (p.sel.map encM),.sl .sh (p.tols.map encL),.str p.key,.int .i64 p.most,.str p.node,.bool p.hold],[.str nm],ζ1],toks:=[],loops:=[]:Heap}) (show Pans cfg (80:FuncId) [.bool false,.int .i64 8] (stopV (8:Int))from m8) ⟨rfl,rfl⟩ rfl (by exact .inr ⟨by decide,rfl⟩)) (by kernel_rfl)
   |true=>
    rw[hm]at mt
    rw[if_pos (by simp)]
    have w:=worst_any p.tols n.taints hp.tols hni.taints
    cases hw:worstB p.tols n.taints with
    |some x=>
     rw[hw]at w
     have w:Gives cfg 82 [.sl .sh (p.tols.map encL),.sl .sh (n.taints.map encT)] (.tuple [encT x,.bool true]):=w
     rw[if_pos (show(some x).isSome=true from rfl)]
     have m9:Pans cfg 80 [.bool false,.int .i64 9] (stopV 9):=must_no (by decide)
     exact let ζ1:List AV:=[.str n.name,.sl .sh (n.cap.map encA),.sl .sh (n.labels.map encP),.sl .sh (n.taints.map encT),.bool n.cordon];let ζ2:List AV:=[.sl .sh (p.tols.map encL),.sl .sh (n.taints.map encT)];let ζ3:List AV:=[.sl .sh (p.sel.map encM),.sl .sh (n.labels.map encP)];let ζ4:List AV:=[.sl .sh (s.nodes.map encN),.str nm];let ζ5:List AV:=[.str x.key,.str x.val,.bool x.hard];goG 160 [] trivial (.callK (ζ4) (.tuple [.agg ζ1,.bool true]) (show Gives cfg (79:FuncId) ζ4 (findNV (some n))from f)<|.callI (show Gives cfg (80:FuncId) [.bool true,.int .i64 3] (.tuple [])from must_ok _)<|.yes (show(!n.cordon)=true from by have hh:¬(n.cordon=true):=(by simp+zetaDelta [hc]);simp[hh])<|.callK (ζ3) (.bool true) (show Gives cfg (81:FuncId) ζ3 (.bool true)from mt)<|.callI (show Gives cfg (80:FuncId) [.bool true,.int .i64 8] (.tuple [])from must_ok _)<|.callK (ζ2) (.tuple [.agg ζ5,.bool true]) (show Gives cfg (82:FuncId) ζ2 (.tuple [encT x,.bool true])from w)<|.callP ([.bool !true,.int .i64 9]) ({boxes:=[[.sl .sh (s.nodes.map encN),.sl .sh (s.pods.map encPd),.sl .sh (s.buds.map encB)],[.str p.name,.str p.owner,.int .i64 p.prio,.sl .sh (p.need.map encA),.sl .sh (p.labels.map encP),.sl .sh (p.sel.map encM),.sl .sh (p.tols.map encL),.str p.key,.int .i64 p.most,.str p.node,.bool p.hold],[.str nm],ζ1,ζ5],toks:=[],loops:=[]:Heap}) (show Pans cfg (80:FuncId) [.bool false,.int .i64 9] (stopV (9:Int))from m9) ⟨rfl,rfl⟩ rfl (by exact .inr ⟨by decide,rfl⟩)) (by kernel_rfl)
    |none=>
     rw[hw]at w
     have w:Gives cfg 82 [.sl .sh (p.tols.map encL),.sl .sh (n.taints.map encT)] (.tuple [encT noT,.bool false]):=w
     rw[if_neg (by simp)]
     have m10:Pans cfg 80 [.bool false,.int .i64 10] (stopV 10):=must_no (by decide)
     have m7:Pans cfg 80 [.bool false,.int .i64 7] (stopV 7):=must_no (by decide)
     obtain⟨c,fr⟩:=free_any s nm hs
     have fi:=freeS_len s hs nm
     have ft:=fits_any p.need (freeS s nm).1 hp.need (by omega)
     generalize freeS s nm=u at fr ft fi⊢
     obtain⟨u,e⟩:=u
     have fr:Gives cfg 37 [encSt s,.str nm] (resW c u e):=fr
     have ft:Gives cfg 58 [.sl .sh (p.need.map encA),.sl .sh (u.map encA)] (.bool (fitsV p.need u)):=ft
     simp only
     generalize fitsV p.need u=b at ft⊢
     cases ok with
     |false=>
      rw[if_neg (by simp)]
      exact let ζ1:List AV:=[.str p.name,.str p.owner,.int .i64 p.prio,.sl .sh (p.need.map encA),.sl .sh (p.labels.map encP),.sl .sh (p.sel.map encM),.sl .sh (p.tols.map encL),.str p.key,.int .i64 p.most,.str p.node,.bool p.hold];let ζ2:List AV:=[.str n.name,.sl .sh (n.cap.map encA),.sl .sh (n.labels.map encP),.sl .sh (n.taints.map encT),.bool n.cordon];let ζ3:List AV:=[.sl .sh (s.nodes.map encN),.sl .sh (s.pods.map encPd),.sl .sh (s.buds.map encB)];let ζ4:List AV:=[.sl .sh (p.tols.map encL),.sl .sh (n.taints.map encT)];let ζ5:List AV:=[.sl .sh (p.sel.map encM),.sl .sh (n.labels.map encP)];let ζ6:List AV:=[.sl .sh (s.nodes.map encN),.str nm];let ζ7:List AV:=[.str [],.str [],.bool noT.hard];goG 200 [] trivial (.callK (ζ6) (.tuple [.agg ζ2,.bool true]) (show Gives cfg (79:FuncId) ζ6 (findNV (some n))from f)<|.callI (show Gives cfg (80:FuncId) [.bool true,.int .i64 3] (.tuple [])from must_ok _)<|.yes (show(!n.cordon)=true from by have hh:¬(n.cordon=true):=(by simp+zetaDelta [hc]);simp[hh])<|.callK (ζ5) (.bool true) (show Gives cfg (81:FuncId) ζ5 (.bool true)from mt)<|.callI (show Gives cfg (80:FuncId) [.bool true,.int .i64 8] (.tuple [])from must_ok _)<|.callK (ζ4) (.tuple [.agg ζ7,.bool false]) (show Gives cfg (82:FuncId) ζ4 (.tuple [encT noT,.bool false])from w)<|.callK ([.bool !false,.int .i64 9]) (.tuple []) (show Gives cfg (80:FuncId) [.bool true,.int .i64 9] (.tuple [])from must_ok _)<|.callI h83<|.ff<|.callP ([.bool false,.int .i64 10]) ({boxes:=[ζ3,ζ1,[.str nm],ζ2,ζ7],toks:=[],loops:=[]:Heap}) (show Pans cfg (80:FuncId) [.bool false,.int .i64 10] (stopV (10:Int))from m10) ⟨rfl,rfl⟩ rfl (by exact .inr ⟨by decide,rfl⟩)) (by kernel_rfl)
     |true=>
      by_cases hk:p.key=[]
      ·rw[if_pos (by simp[hk])]
       by_cases he:e=0
       ·cases b with
        |true=>
         rw[if_pos (by simp[he])]
         exact let ζ1:List AV:=[.str p.name,.str p.owner,.int .i64 p.prio,.sl .sh (p.need.map encA),.sl .sh (p.labels.map encP),.sl .sh (p.sel.map encM),.sl .sh (p.tols.map encL),.str p.key,.int .i64 p.most,.str p.node,.bool p.hold];let ζ2:List AV:=[.sl .sh (s.nodes.map encN),.sl .sh (s.pods.map encPd),.sl .sh (s.buds.map encB)];let ζ3:List AV:=[.str n.name,.sl .sh (n.cap.map encA),.sl .sh (n.labels.map encP),.sl .sh (n.taints.map encT),.bool n.cordon];let ζ4:List AV:=[.sl .sh (p.tols.map encL),.sl .sh (n.taints.map encT)];let ζ5:List AV:=[.sl .sh (p.sel.map encM),.sl .sh (n.labels.map encP)];let ζ6:List AV:=[.sl .sh (p.need.map encA),.sl .sh (u.map encA)];let ζ7:List AV:=[.sl .sh (s.nodes.map encN),.str nm];let ζ8:List AV:=[.str [],.str [],.bool noT.hard];goG 240 [] trivial (.callK (ζ7) (.tuple [.agg ζ3,.bool true]) (show Gives cfg (79:FuncId) ζ7 (findNV (some n))from f)<|.callI (show Gives cfg (80:FuncId) [.bool true,.int .i64 3] (.tuple [])from must_ok _)<|.yes (show(!n.cordon)=true from by have hh:¬(n.cordon=true):=(by simp+zetaDelta [hc]);simp[hh])<|.callK (ζ5) (.bool true) (show Gives cfg (81:FuncId) ζ5 (.bool true)from mt)<|.callI (show Gives cfg (80:FuncId) [.bool true,.int .i64 8] (.tuple [])from must_ok _)<|.callK (ζ4) (.tuple [.agg ζ8,.bool false]) (show Gives cfg (82:FuncId) ζ4 (.tuple [encT noT,.bool false])from w)<|.callK ([.bool !false,.int .i64 9]) (.tuple []) (show Gives cfg (80:FuncId) [.bool true,.int .i64 9] (.tuple [])from must_ok _)<|.callI h83<|.tt<|.yes (show(p.key==[])=true from(by simp+zetaDelta [hk]))<|.callI (show Gives cfg (80:FuncId) [.bool true,.int .i64 10] (.tuple [])from must_ok _)<|.callG ([.agg ζ2,.str nm]) (.tuple [.sl .sh (u.map encA),.int .i64 e]) (show Gives cfg (37:FuncId) [encSt s,.str nm] (resW c u e)from fr) ⟨rfl,rfl⟩ Res.p<|.yes (show(e==(0:Int))=true from(by simp+zetaDelta [he]))<|.callK (ζ6) (.bool true) (show Gives cfg (58:FuncId) ζ6 (.bool true)from ft)<|.callI (show Gives cfg (80:FuncId) [.bool true,.int .i64 7] (.tuple [])from must_ok _)<|.fin ((.ret (.tuple []),{boxes:=[ζ2,ζ1,[.str nm],ζ3,ζ8],toks:=[],loops:=[]:Heap})) (by exact .inl ⟨rfl,rfl⟩)) (by kernel_rfl)
        |false=>
         rw[if_neg (by simp)]
         exact let ζ1:List AV:=[.str p.name,.str p.owner,.int .i64 p.prio,.sl .sh (p.need.map encA),.sl .sh (p.labels.map encP),.sl .sh (p.sel.map encM),.sl .sh (p.tols.map encL),.str p.key,.int .i64 p.most,.str p.node,.bool p.hold];let ζ2:List AV:=[.sl .sh (s.nodes.map encN),.sl .sh (s.pods.map encPd),.sl .sh (s.buds.map encB)];let ζ3:List AV:=[.str n.name,.sl .sh (n.cap.map encA),.sl .sh (n.labels.map encP),.sl .sh (n.taints.map encT),.bool n.cordon];let ζ4:List AV:=[.sl .sh (p.tols.map encL),.sl .sh (n.taints.map encT)];let ζ5:List AV:=[.sl .sh (p.sel.map encM),.sl .sh (n.labels.map encP)];let ζ6:List AV:=[.sl .sh (p.need.map encA),.sl .sh (u.map encA)];let ζ7:List AV:=[.sl .sh (s.nodes.map encN),.str nm];let ζ8:List AV:=[.str [],.str [],.bool noT.hard];goG 240 [] trivial (.callK (ζ7) (.tuple [.agg ζ3,.bool true]) (show Gives cfg (79:FuncId) ζ7 (findNV (some n))from f)<|.callI (show Gives cfg (80:FuncId) [.bool true,.int .i64 3] (.tuple [])from must_ok _)<|.yes (show(!n.cordon)=true from by have hh:¬(n.cordon=true):=(by simp+zetaDelta [hc]);simp[hh])<|.callK (ζ5) (.bool true) (show Gives cfg (81:FuncId) ζ5 (.bool true)from mt)<|.callI (show Gives cfg (80:FuncId) [.bool true,.int .i64 8] (.tuple [])from must_ok _)<|.callK (ζ4) (.tuple [.agg ζ8,.bool false]) (show Gives cfg (82:FuncId) ζ4 (.tuple [encT noT,.bool false])from w)<|.callK ([.bool !false,.int .i64 9]) (.tuple []) (show Gives cfg (80:FuncId) [.bool true,.int .i64 9] (.tuple [])from must_ok _)<|.callI h83<|.tt<|.yes (show(p.key==[])=true from(by simp+zetaDelta [hk]))<|.callI (show Gives cfg (80:FuncId) [.bool true,.int .i64 10] (.tuple [])from must_ok _)<|.callG ([.agg ζ2,.str nm]) (.tuple [.sl .sh (u.map encA),.int .i64 e]) (show Gives cfg (37:FuncId) [encSt s,.str nm] (resW c u e)from fr) ⟨rfl,rfl⟩ Res.p<|.yes (show(e==(0:Int))=true from(by simp+zetaDelta [he]))<|.callK (ζ6) (.bool false) (show Gives cfg (58:FuncId) ζ6 (.bool false)from ft)<|.callP ([.bool false,.int .i64 7]) ({boxes:=[ζ2,ζ1,[.str nm],ζ3,ζ8],toks:=[],loops:=[]:Heap}) (show Pans cfg (80:FuncId) [.bool false,.int .i64 7] (stopV (7:Int))from m7) ⟨rfl,rfl⟩ rfl (by exact .inr ⟨by decide,rfl⟩)) (by kernel_rfl)
       ·rw[if_neg (by simp[he])]
        exact let ζ1:List AV:=[.str p.name,.str p.owner,.int .i64 p.prio,.sl .sh (p.need.map encA),.sl .sh (p.labels.map encP),.sl .sh (p.sel.map encM),.sl .sh (p.tols.map encL),.str p.key,.int .i64 p.most,.str p.node,.bool p.hold];let ζ2:List AV:=[.sl .sh (s.nodes.map encN),.sl .sh (s.pods.map encPd),.sl .sh (s.buds.map encB)];let ζ3:List AV:=[.str n.name,.sl .sh (n.cap.map encA),.sl .sh (n.labels.map encP),.sl .sh (n.taints.map encT),.bool n.cordon];let ζ4:List AV:=[.sl .sh (p.tols.map encL),.sl .sh (n.taints.map encT)];let ζ5:List AV:=[.sl .sh (p.sel.map encM),.sl .sh (n.labels.map encP)];let ζ6:List AV:=[.sl .sh (s.nodes.map encN),.str nm];let ζ7:List AV:=[.str [],.str [],.bool noT.hard];goG 240 [] trivial (.callK (ζ6) (.tuple [.agg ζ3,.bool true]) (show Gives cfg (79:FuncId) ζ6 (findNV (some n))from f)<|.callI (show Gives cfg (80:FuncId) [.bool true,.int .i64 3] (.tuple [])from must_ok _)<|.yes (show(!n.cordon)=true from by have hh:¬(n.cordon=true):=(by simp+zetaDelta [hc]);simp[hh])<|.callK (ζ5) (.bool true) (show Gives cfg (81:FuncId) ζ5 (.bool true)from mt)<|.callI (show Gives cfg (80:FuncId) [.bool true,.int .i64 8] (.tuple [])from must_ok _)<|.callK (ζ4) (.tuple [.agg ζ7,.bool false]) (show Gives cfg (82:FuncId) ζ4 (.tuple [encT noT,.bool false])from w)<|.callK ([.bool !false,.int .i64 9]) (.tuple []) (show Gives cfg (80:FuncId) [.bool true,.int .i64 9] (.tuple [])from must_ok _)<|.callI h83<|.tt<|.yes (show(p.key==[])=true from(by simp+zetaDelta [hk]))<|.callI (show Gives cfg (80:FuncId) [.bool true,.int .i64 10] (.tuple [])from must_ok _)<|.callG ([.agg ζ2,.str nm]) (.tuple [.sl .sh (u.map encA),.int .i64 e]) (show Gives cfg (37:FuncId) [encSt s,.str nm] (resW c u e)from fr) ⟨rfl,rfl⟩ Res.p<|.no (show(e==(0:Int))=false from Bool.eq_false_iff.2 (by simp+zetaDelta [he]))<|.callP ([.bool false,.int .i64 7]) ({boxes:=[ζ2,ζ1,[.str nm],ζ3,ζ7],toks:=[],loops:=[]:Heap}) (show Pans cfg (80:FuncId) [.bool false,.int .i64 7] (stopV (7:Int))from m7) ⟨rfl,rfl⟩ rfl (by exact .inr ⟨by decide,rfl⟩)) (by kernel_rfl)
      ·by_cases hq:sk≤p.most
       ·have mq:Gives cfg 80 [.bool (decide (sk≤p.most)),.int .i64 10] (.tuple []):=by
         rw[show decide (sk≤p.most)=true by simpa using hq];exact must_ok 10
        rw[if_pos (by simp[hq])]
        by_cases he:e=0
        ·cases b with
         |true=>
          rw[if_pos (by simp[he])]
          exact let ζ1:List AV:=[.str p.name,.str p.owner,.int .i64 p.prio,.sl .sh (p.need.map encA),.sl .sh (p.labels.map encP),.sl .sh (p.sel.map encM),.sl .sh (p.tols.map encL),.str p.key,.int .i64 p.most,.str p.node,.bool p.hold];let ζ2:List AV:=[.sl .sh (s.nodes.map encN),.sl .sh (s.pods.map encPd),.sl .sh (s.buds.map encB)];let ζ3:List AV:=[.str n.name,.sl .sh (n.cap.map encA),.sl .sh (n.labels.map encP),.sl .sh (n.taints.map encT),.bool n.cordon];let ζ4:List AV:=[.sl .sh (p.tols.map encL),.sl .sh (n.taints.map encT)];let ζ5:List AV:=[.sl .sh (p.sel.map encM),.sl .sh (n.labels.map encP)];let ζ6:List AV:=[.sl .sh (p.need.map encA),.sl .sh (u.map encA)];let ζ7:List AV:=[.bool (decide (sk≤p.most)),.int .i64 10];let ζ8:List AV:=[.sl .sh (s.nodes.map encN),.str nm];let ζ9:List AV:=[.str [],.str [],.bool noT.hard];goG 240 [] trivial (.callK (ζ8) (.tuple [.agg ζ3,.bool true]) (show Gives cfg (79:FuncId) ζ8 (findNV (some n))from f)<|.callI (show Gives cfg (80:FuncId) [.bool true,.int .i64 3] (.tuple [])from must_ok _)<|.yes (show(!n.cordon)=true from by have hh:¬(n.cordon=true):=(by simp+zetaDelta [hc]);simp[hh])<|.callK (ζ5) (.bool true) (show Gives cfg (81:FuncId) ζ5 (.bool true)from mt)<|.callI (show Gives cfg (80:FuncId) [.bool true,.int .i64 8] (.tuple [])from must_ok _)<|.callK (ζ4) (.tuple [.agg ζ9,.bool false]) (show Gives cfg (82:FuncId) ζ4 (.tuple [encT noT,.bool false])from w)<|.callK ([.bool !false,.int .i64 9]) (.tuple []) (show Gives cfg (80:FuncId) [.bool true,.int .i64 9] (.tuple [])from must_ok _)<|.callI h83<|.tt<|.no (show(p.key==[])=false from Bool.eq_false_iff.2 (by simp+zetaDelta [hk]))<|.callK (ζ7) (.tuple []) (show Gives cfg (80:FuncId) ζ7 (.tuple [])from mq)<|.callG ([.agg ζ2,.str nm]) (.tuple [.sl .sh (u.map encA),.int .i64 e]) (show Gives cfg (37:FuncId) [encSt s,.str nm] (resW c u e)from fr) ⟨rfl,rfl⟩ Res.p<|.yes (show(e==(0:Int))=true from(by simp+zetaDelta [he]))<|.callK (ζ6) (.bool true) (show Gives cfg (58:FuncId) ζ6 (.bool true)from ft)<|.callI (show Gives cfg (80:FuncId) [.bool true,.int .i64 7] (.tuple [])from must_ok _)<|.fin ((.ret (.tuple []),{boxes:=[ζ2,ζ1,[.str nm],ζ3,ζ9],toks:=[],loops:=[]:Heap})) (by exact .inl ⟨rfl,rfl⟩)) (by kernel_rfl)
         |false=>
          rw[if_neg (by simp)]
          exact let ζ1:List AV:=[.str p.name,.str p.owner,.int .i64 p.prio,.sl .sh (p.need.map encA),.sl .sh (p.labels.map encP),.sl .sh (p.sel.map encM),.sl .sh (p.tols.map encL),.str p.key,.int .i64 p.most,.str p.node,.bool p.hold];let ζ2:List AV:=[.sl .sh (s.nodes.map encN),.sl .sh (s.pods.map encPd),.sl .sh (s.buds.map encB)];let ζ3:List AV:=[.str n.name,.sl .sh (n.cap.map encA),.sl .sh (n.labels.map encP),.sl .sh (n.taints.map encT),.bool n.cordon];let ζ4:List AV:=[.sl .sh (p.tols.map encL),.sl .sh (n.taints.map encT)];let ζ5:List AV:=[.sl .sh (p.sel.map encM),.sl .sh (n.labels.map encP)];let ζ6:List AV:=[.sl .sh (p.need.map encA),.sl .sh (u.map encA)];let ζ7:List AV:=[.bool (decide (sk≤p.most)),.int .i64 10];let ζ8:List AV:=[.sl .sh (s.nodes.map encN),.str nm];let ζ9:List AV:=[.str [],.str [],.bool noT.hard];goG 240 [] trivial (.callK (ζ8) (.tuple [.agg ζ3,.bool true]) (show Gives cfg (79:FuncId) ζ8 (findNV (some n))from f)<|.callI (show Gives cfg (80:FuncId) [.bool true,.int .i64 3] (.tuple [])from must_ok _)<|.yes (show(!n.cordon)=true from by have hh:¬(n.cordon=true):=(by simp+zetaDelta [hc]);simp[hh])<|.callK (ζ5) (.bool true) (show Gives cfg (81:FuncId) ζ5 (.bool true)from mt)<|.callI (show Gives cfg (80:FuncId) [.bool true,.int .i64 8] (.tuple [])from must_ok _)<|.callK (ζ4) (.tuple [.agg ζ9,.bool false]) (show Gives cfg (82:FuncId) ζ4 (.tuple [encT noT,.bool false])from w)<|.callK ([.bool !false,.int .i64 9]) (.tuple []) (show Gives cfg (80:FuncId) [.bool true,.int .i64 9] (.tuple [])from must_ok _)<|.callI h83<|.tt<|.no (show(p.key==[])=false from Bool.eq_false_iff.2 (by simp+zetaDelta [hk]))<|.callK (ζ7) (.tuple []) (show Gives cfg (80:FuncId) ζ7 (.tuple [])from mq)<|.callG ([.agg ζ2,.str nm]) (.tuple [.sl .sh (u.map encA),.int .i64 e]) (show Gives cfg (37:FuncId) [encSt s,.str nm] (resW c u e)from fr) ⟨rfl,rfl⟩ Res.p<|.yes (show(e==(0:Int))=true from(by simp+zetaDelta [he]))<|.callK (ζ6) (.bool false) (show Gives cfg (58:FuncId) ζ6 (.bool false)from ft)<|.callP ([.bool false,.int .i64 7]) ({boxes:=[ζ2,ζ1,[.str nm],ζ3,ζ9],toks:=[],loops:=[]:Heap}) (show Pans cfg (80:FuncId) [.bool false,.int .i64 7] (stopV (7:Int))from m7) ⟨rfl,rfl⟩ rfl (by exact .inr ⟨by decide,rfl⟩)) (by kernel_rfl)
        ·rw[if_neg (by simp[he])]
         exact let ζ1:List AV:=[.str p.name,.str p.owner,.int .i64 p.prio,.sl .sh (p.need.map encA),.sl .sh (p.labels.map encP),.sl .sh (p.sel.map encM),.sl .sh (p.tols.map encL),.str p.key,.int .i64 p.most,.str p.node,.bool p.hold];let ζ2:List AV:=[.sl .sh (s.nodes.map encN),.sl .sh (s.pods.map encPd),.sl .sh (s.buds.map encB)];let ζ3:List AV:=[.str n.name,.sl .sh (n.cap.map encA),.sl .sh (n.labels.map encP),.sl .sh (n.taints.map encT),.bool n.cordon];let ζ4:List AV:=[.sl .sh (p.tols.map encL),.sl .sh (n.taints.map encT)];let ζ5:List AV:=[.sl .sh (p.sel.map encM),.sl .sh (n.labels.map encP)];let ζ6:List AV:=[.bool (decide (sk≤p.most)),.int .i64 10];let ζ7:List AV:=[.sl .sh (s.nodes.map encN),.str nm];let ζ8:List AV:=[.str [],.str [],.bool noT.hard];goG 240 [] trivial (.callK (ζ7) (.tuple [.agg ζ3,.bool true]) (show Gives cfg (79:FuncId) ζ7 (findNV (some n))from f)<|.callI (show Gives cfg (80:FuncId) [.bool true,.int .i64 3] (.tuple [])from must_ok _)<|.yes (show(!n.cordon)=true from by have hh:¬(n.cordon=true):=(by simp+zetaDelta [hc]);simp[hh])<|.callK (ζ5) (.bool true) (show Gives cfg (81:FuncId) ζ5 (.bool true)from mt)<|.callI (show Gives cfg (80:FuncId) [.bool true,.int .i64 8] (.tuple [])from must_ok _)<|.callK (ζ4) (.tuple [.agg ζ8,.bool false]) (show Gives cfg (82:FuncId) ζ4 (.tuple [encT noT,.bool false])from w)<|.callK ([.bool !false,.int .i64 9]) (.tuple []) (show Gives cfg (80:FuncId) [.bool true,.int .i64 9] (.tuple [])from must_ok _)<|.callI h83<|.tt<|.no (show(p.key==[])=false from Bool.eq_false_iff.2 (by simp+zetaDelta [hk]))<|.callK (ζ6) (.tuple []) (show Gives cfg (80:FuncId) ζ6 (.tuple [])from mq)<|.callG ([.agg ζ2,.str nm]) (.tuple [.sl .sh (u.map encA),.int .i64 e]) (show Gives cfg (37:FuncId) [encSt s,.str nm] (resW c u e)from fr) ⟨rfl,rfl⟩ Res.p<|.no (show(e==(0:Int))=false from Bool.eq_false_iff.2 (by simp+zetaDelta [he]))<|.callP ([.bool false,.int .i64 7]) ({boxes:=[ζ2,ζ1,[.str nm],ζ3,ζ8],toks:=[],loops:=[]:Heap}) (show Pans cfg (80:FuncId) [.bool false,.int .i64 7] (stopV (7:Int))from m7) ⟨rfl,rfl⟩ rfl (by exact .inr ⟨by decide,rfl⟩)) (by kernel_rfl)
       ·have mq:Pans cfg 80 [.bool (decide (sk≤p.most)),.int .i64 10] (stopV 10):=by
         rw[show decide (sk≤p.most)=false by simpa using hq];exact m10
        rw[if_neg (by simp[hk,hq])]
        exact let ζ1:List AV:=[.str p.name,.str p.owner,.int .i64 p.prio,.sl .sh (p.need.map encA),.sl .sh (p.labels.map encP),.sl .sh (p.sel.map encM),.sl .sh (p.tols.map encL),.str p.key,.int .i64 p.most,.str p.node,.bool p.hold];let ζ2:List AV:=[.str n.name,.sl .sh (n.cap.map encA),.sl .sh (n.labels.map encP),.sl .sh (n.taints.map encT),.bool n.cordon];let ζ3:List AV:=[.sl .sh (s.nodes.map encN),.sl .sh (s.pods.map encPd),.sl .sh (s.buds.map encB)];let ζ4:List AV:=[.sl .sh (p.tols.map encL),.sl .sh (n.taints.map encT)];let ζ5:List AV:=[.sl .sh (p.sel.map encM),.sl .sh (n.labels.map encP)];let ζ6:List AV:=[.bool (decide (sk≤p.most)),.int .i64 10];let ζ7:List AV:=[.sl .sh (s.nodes.map encN),.str nm];let ζ8:List AV:=[.str [],.str [],.bool noT.hard];goG 240 [] trivial (.callK (ζ7) (.tuple [.agg ζ2,.bool true]) (show Gives cfg (79:FuncId) ζ7 (findNV (some n))from f)<|.callI (show Gives cfg (80:FuncId) [.bool true,.int .i64 3] (.tuple [])from must_ok _)<|.yes (show(!n.cordon)=true from by have hh:¬(n.cordon=true):=(by simp+zetaDelta [hc]);simp[hh])<|.callK (ζ5) (.bool true) (show Gives cfg (81:FuncId) ζ5 (.bool true)from mt)<|.callI (show Gives cfg (80:FuncId) [.bool true,.int .i64 8] (.tuple [])from must_ok _)<|.callK (ζ4) (.tuple [.agg ζ8,.bool false]) (show Gives cfg (82:FuncId) ζ4 (.tuple [encT noT,.bool false])from w)<|.callK ([.bool !false,.int .i64 9]) (.tuple []) (show Gives cfg (80:FuncId) [.bool true,.int .i64 9] (.tuple [])from must_ok _)<|.callI h83<|.tt<|.no (show(p.key==[])=false from Bool.eq_false_iff.2 (by simp+zetaDelta [hk]))<|.callP (ζ6) ({boxes:=[ζ3,ζ1,[.str nm],ζ2,ζ8],toks:=[],loops:=[]:Heap}) (show Pans cfg (80:FuncId) ζ6 (stopV (10:Int))from mq) ⟨rfl,rfl⟩ rfl (by exact .inr ⟨by decide,rfl⟩)) (by kernel_rfl)
theorem fit_gen(s:St)(hs:StIn s)(hn:∀n∈s.nodes,NdIn n)(p:Pod)(hp:PdIn p)(nm:List UInt8)(sk:Int)(ok:Bool)
 (h83:Gives cfg 83 [encSt (dropS s p.name),encPd p,.str nm] (.tuple [.int .i64 sk,.bool ok])):
 Gives cfg 21 [encSt s,encPd p,.str nm] (.int .i64 (fitG (dropS s p.name) p nm sk ok)):=by
 refine Gives.run (l21 _ _) ?_
 have dr:=drop_gives s p.name (by have:=hs.pods;omega)
 obtain⟨⟨a,H1⟩,hr,hR⟩:=fit_all (dropS s p.name) (drop_inF hs p.name) hn p hp nm sk ok h83
 generalize fitG (dropS s p.name) p nm sk ok=e at hR⊢
 generalize dropS s p.name=s2 at*
 have ht:lim cfg (.fn 77) [.func 78 [.ptr 0 0,.ptr 2 0,.ptr 1 0]] ⟨[(encSt s2).cells,(encPd p).cells,[.str nm]],[],[]⟩=some (.ret (.int .i64 e),H1):=by
  rw[lim_try rfl,l78,hr]
  rcases hR with⟨h0,h1⟩|⟨h0,h1⟩
  ·simp only at h1;subst h1;subst h0;rfl
  ·simp only at h1;subst h1;rfl
 have hd:=does_callE (xs:=[.func 78 [.ptr 0 0,.ptr 2 0,.ptr 1 0]]) (caps:=[]) ht rfl rfl
 generalize trunc _ _ _ H1=H2 at hd
 exact let ζ1:Heap:={boxes:=[[.sl .sh (s.nodes.map encN),.sl .sh (s.pods.map encPd),.sl .sh (s.buds.map encB)],[.str p.name,.str p.owner,.int .i64 p.prio,.sl .sh (p.need.map encA),.sl .sh (p.labels.map encP),.sl .sh (p.sel.map encM),.sl .sh (p.tols.map encL),.str p.key,.int .i64 p.most,.str p.node,.bool p.hold],[.str nm]],toks:=[],loops:=[]:Heap};goG 90 [] trivial (.effY (show Does cfg (.call (.c (.func (27:FuncId) [])) [.c (encSt s),.c (.str p.name)]) ζ1 (encSt s2) ζ1 from gf27 dr _)<|.effY (show Does cfg (.call (.c (.func (77:FuncId) [])) (List.map .c [.func (78:FuncId) [.ptr 0 0,.ptr 2 0,.ptr 1 0]])) {boxes:=[(encSt s2).cells,(encPd p).cells,[.str nm]],toks:=[],loops:=[]:Heap} (shutA (.int .i64 e)) H2 from hd)<|.fin ((.ret (.int .i64 e),H2)) rfl) (by kernel_rfl)
end Go.Aa.T
set_option linter.unusedVariables false
set_option linter.unusedSimpArgs false
set_option maxRecDepth 100000
namespace Go.Aa.T
open Go.Aa Go.Proofs
structure POk(v:List Amount):Prop where
 name:∀x∈v,isName x.name=true
 pos:∀x∈v,0<x.n
 rise:Rise (nms v)
theorem VOk.p{v:List Amount}(h:VOk v):POk v:=⟨h.name,h.pos,h.rise⟩
theorem POk.v{v:List Amount}(h:POk v)(hl:v.length≤8):VOk v:=⟨hl,h.name,h.pos,h.rise⟩
theorem vok_nil:VOk []:=⟨by simp,by simp,by simp,by simp[Rise]⟩
theorem rise_len{l m:List (List UInt8)}(hl:Rise l)(hm:Rise m)(h:∀x∈l,x∈m):l.length≤m.length:=by
 have e:l=m.filter fun x=>decide (x∈l):=rise_ext hl (hm.filter _) fun x=>by
  simp only[List.mem_filter,decide_eq_true_eq]
  exact⟨fun hx=>⟨h x hx,hx⟩,fun hx=>hx.2⟩
 rw[e];exact List.length_filter_le _ _
theorem names_congr{l m:List (List UInt8)}(h:∀x,x∈l↔x∈m):namesOf l=namesOf m:=
 namesOf_eq (namesOf_rise m) fun x=>(h x).trans namesOf_mem.symm
theorem names_sub{l m:List (List UInt8)}(h:∀x∈l,x∈m):(namesOf l).length≤(namesOf m).length:=
 rise_len (namesOf_rise l) (namesOf_rise m) fun x hx=>namesOf_mem.2 (h x (namesOf_mem.1 hx))
theorem pok_pos{v:List Amount}(h:POk v){s:List UInt8}:s∈nms v↔0<getQ v s:=by
 constructor
 ·intro hs
  obtain⟨x,hx,-,e⟩:=getQ_some hs
  rw[e];exact h.pos x hx
 ·intro hs
  by_cases hm:s∈nms v
  ·exact hm
  ·rw[getQ_none hm]at hs;omega
theorem pok_nn{v:List Amount}(h:POk v)(s:List UInt8):0≤getQ v s:=by
 by_cases hm:s∈nms v
 ·have:=(pok_pos h).1 hm;omega
 ·rw[getQ_none hm];omega
theorem getQ_mem:∀{v:List Amount},Rise (nms v)→∀x∈v,getQ v x.name=x.n
 |[],_,x,hx=>by cases hx
 |y::v,h,x,hx=>by
  rw[getQ_cons]
  rcases List.mem_cons.1 hx with rfl|hx
  ·rw[if_pos rfl]
  ·rw[if_neg,getQ_mem (List.Pairwise.of_cons h) x hx]
   intro e
   have:=List.rel_of_pairwise_cons h (List.mem_map.2 ⟨x,hx,rfl⟩)
   rw[e,bl_irrefl]at this
   cases this
def mk1(g:OfQ)(l:List (List UInt8)):List Amount:=(l.filter fun s=>decide (0<(g s).1)).map fun s=>⟨s,(g s).1⟩
theorem madeF_ok{g:OfQ}:∀{l:List (List UInt8)}(acc:List Amount),(∀s∈l,(g s).2=0)→madeF g l acc=(acc++mk1 g l,0)
 |[],acc,_=>by simp[madeF,mk1]
 |s::l,acc,h=>by
  unfold madeF
  rw[if_pos (h s (by simp)),madeF_ok _ fun t ht=>h t (by simp[ht])]
  by_cases hp:0<(g s).1<;>simp[mk1,hp]
theorem madeF_zero{g:OfQ}:∀{l:List (List UInt8)}{acc:List Amount},(madeF g l acc).2=0→∀s∈l,(g s).2=0
 |[],acc,_,s,hs=>by cases hs
 |t::l,acc,h,s,hs=>by
  unfold madeF at h
  split at h
  ·rename_i h0
   rcases List.mem_cons.1 hs with rfl|hs
   ·exact h0
   ·exact madeF_zero h s hs
  ·rename_i h0;exact absurd h h0
theorem nms_mk1(g:OfQ)(l:List (List UInt8)):nms (mk1 g l)=l.filter fun s=>decide (0<(g s).1):=by
 simp only[nms,mk1,List.map_map]
 conv=>rhs;rw[←List.map_id (l.filter _)]
 rfl
theorem mk1_ok{g:OfQ}{l:List (List UInt8)}(hr:Rise l)(hn:∀s∈l,isName s=true):POk (mk1 g l):=by
 refine⟨fun x hx=> ?_,fun x hx=> ?_,?_⟩
 ·obtain⟨s,hs,rfl⟩:=List.mem_map.1 hx
  exact hn s (List.mem_filter.1 hs).1
 ·obtain⟨s,hs,rfl⟩:=List.mem_map.1 hx
  simpa using(List.mem_filter.1 hs).2
 ·rw[nms_mk1];exact hr.filter _
theorem mk1_get{g:OfQ}{l:List (List UInt8)}(hr:Rise l)(hn:∀s∈l,isName s=true)(s:List UInt8)(h0:0≤(g s).1)(hx:s∉l→(g s).1=0):getQ (mk1 g l) s=(g s).1:=by
 by_cases hs:s∈nms (mk1 g l)
 ·obtain⟨x,hx,e1,e2⟩:=getQ_some hs
  obtain⟨t,ht,rfl⟩:=List.mem_map.1 hx
  rw[e2];simp only at e1⊢;rw[e1]
 ·rw[getQ_none hs]
  rw[nms_mk1]at hs
  by_cases hl:s∈l
  ·have:¬0<(g s).1:=fun h=>hs (List.mem_filter.2 ⟨hl,by simpa using h⟩)
   omega
  ·exact(hx hl).symm
theorem fin_ok{l:List Amount}(h:l.length≤8):finV (l,0)=(l,0):=by
 unfold finV;rw[if_pos rfl,if_neg (by simp only;omega)]
theorem made_two{g:OfQ}{a b:List Amount}(oa:VOk a)(ob:VOk b):madeV g [a,b]=finV (madeF g (namesOf (nms a++nms b)) []):=by
 have e:allNames [a,b]=nms a++nms b:=by simp[allNames]
 unfold madeV
 rw[if_pos (by simp[firstE,ckV_of oa,ckV_of ob]),e]
theorem two_name{a b:List Amount}(oa:VOk a)(ob:VOk b):∀s∈namesOf (nms a++nms b),isName s=true:=fun s hs=>by
 rcases List.mem_append.1 (namesOf_mem.1 hs)with h|h
 ·obtain⟨x,hx,rfl⟩:=List.mem_map.1 h;exact oa.name x hx
 ·obtain⟨x,hx,rfl⟩:=List.mem_map.1 h;exact ob.name x hx
theorem addQ_nn{a b:Int}(ha:0≤a)(hb:0≤b):addQ a b=toldQ (a+b):=by
 unfold addQ bothE;rw[if_neg (show¬a<0 by omega),if_neg (show¬b<0 by omega),if_neg (by simp)]
theorem told_ok{n:Int}(h:n≤9223372036854775807):toldQ n=(n,0):=by unfold toldQ;rw[if_neg (by omega)]
theorem told_zero{n:Int}(h:(toldQ n).2=0):n≤9223372036854775807:=by
 unfold toldQ at h;split at h
 ·cases h
 ·omega
theorem add_nms{a b:List Amount}(oa:VOk a)(ob:VOk b)(hs:∀s,getQ a s+getQ b s≤9223372036854775807):
 (namesOf (nms a++nms b)).filter (fun s=>decide (0<(addQ (getQ a s) (getQ b s)).1))=namesOf (nms a++nms b):=by
 refine List.filter_eq_self.2 fun s hx=> ?_
 have pa:=pok_nn oa.p s
 have pb:=pok_nn ob.p s
 rw[addQ_nn pa pb,told_ok (hs s)]
 have:0<getQ a s+getQ b s:=by
  rcases List.mem_append.1 (namesOf_mem.1 hx)with h|h
  ·have:=(pok_pos oa.p).1 h;omega
  ·have:=(pok_pos ob.p).1 h;omega
 simpa using this
theorem add_ok{a b:List Amount}(oa:VOk a)(ob:VOk b)(hs:∀s,getQ a s+getQ b s≤9223372036854775807)(hl:(namesOf (nms a++nms b)).length≤8):
 ∃r,addV a b=(r,0)∧VOk r∧(∀s,getQ r s=getQ a s+getQ b s)∧nms r=namesOf (nms a++nms b):=by
 have pa:=pok_nn oa.p
 have pb:=pok_nn ob.p
 have hr:=namesOf_rise (nms a++nms b)
 have hn:=two_name oa ob
 have hg:∀s,addQ (getQ a s) (getQ b s)=(getQ a s+getQ b s,0):=fun s=>by rw[addQ_nn (pa s) (pb s),told_ok (hs s)]
 have e2:=nms_mk1 (fun s=>addQ (getQ a s) (getQ b s)) (namesOf (nms a++nms b))
 rw[add_nms oa ob hs]at e2
 have e3:(mk1 (fun s=>addQ (getQ a s) (getQ b s)) (namesOf (nms a++nms b))).length≤8:=by rw[←e2]at hl;simpa using hl
 refine⟨mk1 (fun s=>addQ (getQ a s) (getQ b s)) (namesOf (nms a++nms b)),?_,(mk1_ok hr hn).v e3,fun s=> ?_,e2⟩
 ·unfold addV
  rw[made_two oa ob,madeF_ok _ fun s _=>by simp only[hg],List.nil_append,fin_ok e3]
 ·rw[mk1_get hr hn s (by simp only[hg];have:=pa s;have:=pb s;omega),hg]
  intro hx
  simp only[hg]
  rw[getQ_none fun h=>hx (namesOf_mem.2 (List.mem_append.2 (.inl h))),getQ_none fun h=>hx (namesOf_mem.2 (List.mem_append.2 (.inr h)))]
  rfl
theorem add_zero{a b:List Amount}(oa:VOk a)(ob:VOk b)(h:(addV a b).2=0):(∀s,getQ a s+getQ b s≤9223372036854775807)∧(namesOf (nms a++nms b)).length≤8:=by
 have pa:=pok_nn oa.p
 have pb:=pok_nn ob.p
 unfold addV at h
 rw[made_two oa ob]at h
 have h0:(madeF (fun s=>addQ (getQ a s) (getQ b s)) (namesOf (nms a++nms b)) []).2=0:=by
  unfold finV at h;split at h
  ·rename_i h0;exact h0
  ·exact h
 have h1:=madeF_zero h0
 have hs:∀s,getQ a s+getQ b s≤9223372036854775807:=fun s=>by
  by_cases hm:s∈nms a++nms b
  ·have:=h1 s (namesOf_mem.2 hm)
   simp only[addQ_nn (pa s) (pb s)]at this
   exact told_zero this
  ·rw[getQ_none fun h=>hm (List.mem_append.2 (.inl h)),getQ_none fun h=>hm (List.mem_append.2 (.inr h))];omega
 refine⟨hs,?_⟩
 rw[madeF_ok _ h1,List.nil_append]at h
 have e2:=nms_mk1 (fun s=>addQ (getQ a s) (getQ b s)) (namesOf (nms a++nms b))
 rw[add_nms oa ob hs]at e2
 rw[←e2,List.length_map]
 unfold finV at h
 rw[if_pos rfl]at h
 split at h
 ·cases h
 ·rename_i h3;exact Nat.le_of_not_lt h3
def totQ:List (List Amount)→List UInt8→Int
 |[],_=>0
 |v::vs,s=>getQ v s+totQ vs s
theorem totQ_nn{vs:List (List Amount)}(h:∀v∈vs,VOk v)(s:List UInt8):0≤totQ vs s:=by
 induction vs with
 |nil=>simp[totQ]
 |cons v vs ih=>
  have:=pok_nn (h v (by simp)).p s
  have:=ih fun w hw=>h w (by simp[hw])
  simp only[totQ];omega
structure SumOk(acc:List Amount)(vs:List (List Amount)):Prop where
 le:∀s,getQ acc s+totQ vs s≤9223372036854775807
 few:(namesOf (nms acc++allNames vs)).length≤8
theorem SumOk.head{acc v:List Amount}{vs:List (List Amount)}(h:SumOk acc (v::vs))(hv:∀v∈vs,VOk v):(∀s,getQ acc s+getQ v s≤9223372036854775807)∧(namesOf (nms acc++nms v)).length≤8:=by
 refine⟨fun s=> ?_,?_⟩
 ·have:=h.le s
  have:=totQ_nn hv s
  simp only[totQ]at*;omega
 ·refine Nat.le_trans (names_sub fun x hx=> ?_) h.few
  rw[allNames_cons]
  simp only[List.mem_append]at hx⊢
  rcases hx with h|h
  ·exact .inl h
  ·exact .inr (.inl h)
theorem sum_mem{acc v r:List Amount}{vs:List (List Amount)}(e:nms r=namesOf (nms acc++nms v)):namesOf (nms r++allNames vs)=namesOf (nms acc++allNames (v::vs)):=
 names_congr fun x=>by rw[e,allNames_cons];simp only[List.mem_append,namesOf_mem,or_assoc]
theorem sum_ok:∀{vs:List (List Amount)}{acc:List Amount},VOk acc→(∀v∈vs,VOk v)→SumOk acc vs→∃r,sumG acc vs=(r,0)∧VOk r∧(∀s,getQ r s=getQ acc s+totQ vs s)∧nms r=namesOf (nms acc++allNames vs)
 |[],acc,oa,_,h=>⟨acc,rfl,oa,fun s=>by simp[totQ],by
    have:allNames []=[]:=rfl
    rw[this,List.append_nil]
    exact(namesOf_eq oa.rise fun x=>Iff.rfl).symm⟩
 |v::vs,acc,oa,ov,h=>by
  have ov':∀w∈vs,VOk w:=fun w hw=>ov w (by simp[hw])
  obtain⟨h1,h2⟩:=h.head ov'
  obtain⟨r,e,or,hr,hm⟩:=add_ok oa (ov v (by simp)) h1 h2
  obtain⟨r',e',or',hr',hm'⟩:=sum_ok or ov' ⟨fun s=>by have:=h.le s;simp only[totQ]at this;rw[hr];omega,by rw[sum_mem hm];exact h.few⟩
  refine⟨r',?_,or',fun s=> ?_,by rw[hm',sum_mem hm]⟩
  ·unfold sumG;rw[e,if_pos rfl];exact e'
  ·rw[hr',hr];simp only[totQ];omega
theorem names_self{v:List Amount}(h:VOk v):namesOf (nms v)=nms v:=namesOf_eq h.rise fun x=>Iff.rfl
theorem sum_zero:∀{vs:List (List Amount)}{acc:List Amount},VOk acc→(∀s,getQ acc s≤9223372036854775807)→(∀v∈vs,VOk v)→(sumG acc vs).2=0→SumOk acc vs
 |[],acc,oa,hb,_,h=>⟨fun s=>by have:=hb s;simp only[totQ];omega,by
    have:allNames []=[]:=rfl
    rw[this,List.append_nil,names_self oa,List.length_map];exact oa.len⟩
 |v::vs,acc,oa,hb,ov,h=>by
  have ov':∀w∈vs,VOk w:=fun w hw=>ov w (by simp[hw])
  unfold sumG at h
  split at h
  ·rename_i h0
   obtain⟨h1,h2⟩:=add_zero oa (ov v (by simp)) h0
   obtain⟨r,e,or,hr,hm⟩:=add_ok oa (ov v (by simp)) h1 h2
   rw[e]at h
   have ih:=sum_zero or (fun s=>by rw[hr];exact h1 s) ov' h
   exact⟨fun s=>by have:=ih.le s;rw[hr]at this;simp only[totQ];omega,by rw[←sum_mem hm];exact ih.few⟩
  ·rename_i h0;exact absurd h h0
theorem sum0{vs:List (List Amount)}(ov:∀v∈vs,VOk v):(sumG [] vs).2=0↔SumOk [] vs:=
 ⟨sum_zero vok_nil (fun s=>by show(0:Int)≤_;omega) ov,fun h=>by obtain⟨r,e,-⟩:=sum_ok vok_nil ov h;rw[e]⟩
theorem fits_get{a b:List Amount}(oa:POk a)(ob:POk b):fitsV a b=true↔∀s,getQ a s≤getQ b s:=by
 unfold fitsV
 simp only[List.all_eq_true,decide_eq_true_eq]
 constructor
 ·intro h s
  by_cases hm:s∈nms a
  ·obtain⟨x,hx,rfl,e⟩:=getQ_some hm
   rw[e];exact h x hx
  ·rw[getQ_none hm];exact pok_nn ob s
 ·intro h x hx
  rw[←getQ_mem oa.rise x hx];exact h _
theorem sub_ok{a b:List Amount}(oa:VOk a)(ob:VOk b)(h:∀s,getQ b s≤getQ a s):
 ∃r,subV a b=(r,0)∧VOk r∧(∀s,getQ r s=getQ a s-getQ b s):=by
 have pa:=pok_nn oa.p
 have pb:=pok_nn ob.p
 have hr:=namesOf_rise (nms a++nms b)
 have hn:=two_name oa ob
 have hg:∀s,subQ (getQ a s) (getQ b s)=(getQ a s-getQ b s,0):=fun s=>by
  have:=pa s;have:=pb s;have:=h s
  unfold subQ bothE;rw[if_neg (show¬getQ a s<0 by omega),if_neg (show¬getQ b s<0 by omega),if_neg (by simp),if_neg (by omega)]
 have hp:=mk1_ok (g:=fun s=>subQ (getQ a s) (getQ b s)) hr hn
 have e2:=nms_mk1 (fun s=>subQ (getQ a s) (getQ b s)) (namesOf (nms a++nms b))
 have e3:(mk1 (fun s=>subQ (getQ a s) (getQ b s)) (namesOf (nms a++nms b))).length≤8:=by
  have hl:(nms (mk1 (fun s=>subQ (getQ a s) (getQ b s)) (namesOf (nms a++nms b)))).length≤(nms a).length:=rise_len hp.rise oa.rise fun x hx=>by
   rw[e2]at hx
   have:=(List.mem_filter.1 hx).2
   simp only[hg,decide_eq_true_eq]at this
   have:=pb x
   exact(pok_pos oa.p).2 (by omega)
  have:=oa.len
  simp only[List.length_map]at hl;omega
 refine⟨_,?_,hp.v e3,fun s=> ?_⟩
 ·unfold subV
  rw[made_two oa ob,madeF_ok _ fun s _=>by simp only[hg],List.nil_append,fin_ok e3]
 ·rw[mk1_get hr hn s (by simp only[hg];have:=h s;omega),hg]
  intro hx
  simp only[hg]
  rw[getQ_none fun h=>hx (namesOf_mem.2 (List.mem_append.2 (.inl h))),getQ_none fun h=>hx (namesOf_mem.2 (List.mem_append.2 (.inr h)))]
  rfl
end Go.Aa.T
set_option linter.unusedVariables false
set_option linter.unusedSimpArgs false
set_option maxRecDepth 100000
namespace Go.Aa.T
open Go.Aa Go.Proofs
end Go.Aa.T
set_option linter.unusedVariables false
set_option linter.unusedSimpArgs false
set_option maxRecDepth 100000
namespace Go.Aa.T
open Go.Aa Go.Proofs
end Go.Aa.T
set_option linter.unusedVariables false
set_option linter.unusedSimpArgs false
set_option maxRecDepth 100000
namespace Go.Aa.T
open Go.Aa Go.Proofs
end Go.Aa.T
set_option linter.unusedVariables false
set_option linter.unusedSimpArgs false
set_option maxRecDepth 100000
namespace Go.Aa.T
open Go.Aa Go.Proofs
theorem find_uniq{X:Type}{most:Nat}{ck:X→Int}{nm:X→List UInt8}{s:List X}(h:ckAll most ck nm s=0){x:X}(hx:x∈s):findG nm s (nm x)=some x:=by
 obtain⟨y,hy⟩:∃y,findG nm s (nm x)=some y:=by
  cases e:findG nm s (nm x)with
  |some y=>exact⟨y,rfl⟩
  |none=>exact absurd (List.find?_eq_none.1 e x hx) (by simp)
 rw[hy]
 have hn:nm y=nm x:=by simpa using List.find?_some hy
 obtain⟨i,hi,ei⟩:=List.getElem_of_mem hx
 obtain⟨j,hj,ej⟩:=List.getElem_of_mem (List.mem_of_find?_eq_some hy)
 have ei':s[i]?=some x:=by rw[List.getElem?_eq_getElem hi,ei]
 have ej':s[j]?=some y:=by rw[List.getElem?_eq_getElem hj,ej]
 rcases Nat.lt_trichotomy i j with h1|h1|h1
 ·have:=names_ltX h (j-i-1) i x y ei' (by rw[show i+(j-i-1)+1=j by omega];exact ej')
  rw[hn,bl_irrefl]at this;cases this
 ·subst h1;rw[ei']at ej';exact ej'.symm
 ·have:=names_ltX h (i-j-1) j y x ej' (by rw[show j+(i-j-1)+1=i by omega];exact ei')
  rw[hn,bl_irrefl]at this;cases this
structure GdS(s:St):Prop where
 cap:∀n∈s.nodes,VOk n.cap
 need:∀p∈s.pods,VOk p.need
 name:∀n∈s.nodes,n.name≠[]
 find:∀n∈s.nodes,findG Node.name s.nodes n.name=some n
 pods:srtP s.pods
 room:∀n∈s.nodes,(usedS s n.name).2=0∧fitsV (usedS s n.name).1 n.cap=true
 total:(totalS s).2=0
theorem roomE_zero{s:St}:∀{l:List Node},roomE s l=0→∀n∈l,(usedS s n.name).2=0∧fitsV (usedS s n.name).1 n.cap=true
 |[],_,n,hn=>by cases hn
 |m::l,h,n,hn=>by
  unfold roomE at h
  split at h
  ·rename_i h0
   split at h
   ·rename_i h1
    rcases List.mem_cons.1 hn with rfl|hn
    ·exact⟨h0,h1⟩
    ·exact roomE_zero h n hn
   ·cases h
  ·rename_i h0;exact absurd h h0
theorem gdS{s:St}(h:ckSt s=0):GdS s:=by
 have h1:ckAll 32 ckN Node.name s.nodes=0:=firstE_zero h _ (by simp)
 have h2:ckAll 128 ckPd Pod.name s.pods=0:=firstE_zero h _ (by simp)
 exact⟨fun n hn=>vOk (firstE_zero ((ckAll_mem h1).2 n hn) _ (by simp)),fun p hp=>vOk (firstE_zero ((ckAll_mem h2).2 p hp) _ (by simp)),fun n hn=>ckN_name ((ckAll_mem h1).2 n hn),
  fun n hn=>find_uniq h1 hn,ck_srt h,roomE_zero (firstE_zero h _ (by simp)),firstE_zero h _ (by simp)⟩
def ndS(s:St)(nd:List UInt8):List (List Amount):=(onS s nd).map (·.need)
theorem GdS.nd{s:St}(g:GdS s)(nd:List UInt8):∀v∈ndS s nd,VOk v:=fun v hv=>by
 obtain⟨p,hp,rfl⟩:=List.mem_map.1 hv
 exact g.need p (List.mem_filter.1 hp).1
theorem used_at{s:St}{nd:List UInt8}{n:Node}(h:findG Node.name s.nodes nd=some n):usedS s nd=sumG [] (ndS s nd):=by unfold usedS;rw[h];rfl
theorem free_at{s:St}{nd:List UInt8}{n:Node}(h:findG Node.name s.nodes nd=some n)(h0:(usedS s nd).2=0):freeS s nd=subV n.cap (usedS s nd).1:=by
 unfold freeS freeG capOf;rw[if_pos h0,h]
theorem GdS.at_{s:St}(g:GdS s){n:Node}(hn:n∈s.nodes):∃u,usedS s n.name=(u,0)∧VOk u∧(∀z,getQ u z=totQ (ndS s n.name) z)∧nms u=namesOf (allNames (ndS s n.name))∧fitsV u n.cap=true:=by
 have hf:=g.find n hn
 obtain⟨h0,h1⟩:=g.room n hn
 rw[used_at hf]at h0 h1⊢
 obtain⟨u,e,ou,hu,hm⟩:=sum_ok vok_nil (g.nd _) ((sum0 (g.nd _)).1 h0)
 refine⟨u,e,ou,fun z=> ?_,hm,?_⟩
 ·rw[hu];show 0+_=_;omega
 ·rw[e]at h1;exact h1
theorem tot_sub{A B:List (List Amount)}(h:A.Sublist B)(hv:∀v∈B,VOk v)(z:List UInt8):totQ A z≤totQ B z:=by
 induction h with
 |slnil=>exact Int.le_refl _
 |cons v h ih=>
  have:=ih fun w hw=>hv w (by simp[hw])
  have:=pok_nn (hv v (by simp)).p z
  simp only[totQ];omega
 |cons_cons v h ih=>
  have:=ih fun w hw=>hv w (by simp[hw])
  simp only[totQ];omega
theorem drop_nd(s:St)(nm nd:List UInt8):(ndS (dropS s nm) nd).Sublist (ndS s nd):=
 (((List.filter_sublist (l:=s.pods)).filter _).map _)
theorem less_used{s:St}(g:GdS s)(nm:List UInt8){n:Node}(hn:n∈s.nodes):∃u,usedS (dropS s nm) n.name=(u,0)∧VOk u∧(∀z,getQ u z=totQ (ndS (dropS s nm) n.name) z)∧fitsV u n.cap=true:=by
 obtain⟨u,e,ou,hu,hm,hf⟩:=g.at_ hn
 have oc:=g.cap n hn
 have hle:=(fits_get ou.p oc.p).1 hf
 have hsub:=drop_nd s nm n.name
 have ov:∀v∈ndS (dropS s nm) n.name,VOk v:=fun v hv=>g.nd n.name v (hsub.subset hv)
 have hk:=(sum0 (g.nd n.name)).1 (by rw[←used_at (g.find n hn),e])
 have hk2:SumOk [] (ndS (dropS s nm) n.name):=⟨fun z=>by have:=hk.le z;have:=tot_sub hsub (g.nd n.name) z;omega,
  Nat.le_trans (names_sub fun x hx=>by
   simp only[List.map_nil,List.nil_append,allNames,List.mem_flatMap]at hx⊢
   obtain⟨v,hv,hx⟩:=hx
   exact⟨v,hsub.subset hv,hx⟩) hk.few⟩
 obtain⟨u2,e2,ou2,hu2,-⟩:=sum_ok vok_nil ov hk2
 have e0:∀z,getQ [] z=0:=fun z=>rfl
 have hu3:∀z,getQ u2 z=totQ (ndS (dropS s nm) n.name) z:=fun z=>by rw[hu2,e0];omega
 have hfd:findG Node.name (dropS s nm).nodes n.name=some n:=g.find n hn
 refine⟨u2,by rw[used_at hfd];exact e2,ou2,hu3,(fits_get ou2.p oc.p).2 fun z=> ?_⟩
 have:=hle z;have:=tot_sub hsub (g.nd n.name) z
 rw[hu3];rw[hu]at*;omega
theorem gd_drop{s:St}(g:GdS s)(nm:List UInt8):GdS (dropS s nm):=by
 refine⟨g.cap,fun p hp=>g.need p (List.mem_filter.1 hp).1,g.name,g.find,g.pods.filter _,fun n hn=> ?_,g.total⟩
 obtain⟨u,e,-,-,hf⟩:=less_used g nm hn
 rw[e];exact⟨rfl,hf⟩
theorem state_less{s:St}(g:GdS s)(nm:List UInt8){n:Node}(hn:n∈s.nodes):∃a b,freeS s n.name=(a,0)∧freeS (dropS s nm) n.name=(b,0)∧fitsV a b=true∧VOk a∧VOk b:=by
 obtain⟨u,e,ou,hu,-,hf⟩:=g.at_ hn
 have oc:=g.cap n hn
 have hle:=(fits_get ou.p oc.p).1 hf
 obtain⟨a,ea,oa,ha⟩:=sub_ok oc ou hle
 obtain⟨u2,e2,ou2,hu2,hf2⟩:=less_used g nm hn
 have hle2:=(fits_get ou2.p oc.p).1 hf2
 obtain⟨b,eb,ob,hb⟩:=sub_ok oc ou2 hle2
 have hfd:findG Node.name (dropS s nm).nodes n.name=some n:=g.find n hn
 refine⟨a,b,?_,?_,(fits_get oa.p ob.p).2 fun z=> ?_,oa,ob⟩
 ·rw[free_at (g.find n hn) (by rw[e]),e];exact ea
 ·rw[free_at hfd (by rw[e2]),e2];exact eb
 ·have:=tot_sub (drop_nd s nm n.name) (g.nd n.name) z;rw[ha,hb,hu,hu2];omega
end Go.Aa.T
set_option linter.unusedVariables false
set_option linter.unusedSimpArgs false
set_option maxRecDepth 100000
namespace Go.Aa.T
open Go.Aa Go.Proofs
theorem skew_none(s:St)(p:Pod)(nm:List UInt8)(hk:p.key=[]):Gives cfg 83 [encSt s,encPd p,.str nm] (.tuple [.int .i64 0,.bool true]):=by
 refine Gives.run (l83 _ _) ?_
 exact goG 60 [] trivial (.yes (show(p.key==[])=true from(by simp[hk]))<|.fin ((.ret (.tuple [.int .i64 0,.bool true]),{boxes:=[[.sl .sh (s.nodes.map encN),.sl .sh (s.pods.map encPd),.sl .sh (s.buds.map encB)],[.str p.name,.str p.owner,.int .i64 p.prio,.sl .sh (p.need.map encA),.sl .sh (p.labels.map encP),.sl .sh (p.sel.map encM),.sl .sh (p.tols.map encL),.str p.key,.int .i64 p.most,.str p.node,.bool p.hold],[.str nm]],toks:=[],loops:=[]:Heap})) rfl) (by kernel_rfl)
theorem fit_none(s:St)(hs:StIn s)(hn:∀n∈s.nodes,NdIn n)(p:Pod)(hp:PdIn p)(nm:List UInt8)(hk:p.key=[]):
 Gives cfg 21 [encSt s,encPd p,.str nm] (.int .i64 (fitG (dropS s p.name) p nm 0 true)):=fit_gen s hs hn p hp nm 0 true (skew_none _ p nm hk)
def fitNs(F:List UInt8→Int)(l:List Node):List (List UInt8):=(l.filter fun n=>F n.name==0).map Node.name
theorem nodes_loop(s:St)(p:Pod)(F:List UInt8→Int)(hF:∀n∈s.nodes,Gives cfg 21 [encSt s,encPd p,.str n.name] (.int .i64 (F n.name)))(hl:s.nodes.length≤1000):
 ∀(post:List Node)(i:Nat)(hd:s.nodes.drop i=post)(acc:List (List UInt8))(ha:acc.length≤i)(ex:List (List AV))(T:Env)
 (hT:Has T [(2,.ptr 0 0),(3,.ptr 1 0),(5,rowF .str acc),(9,.sl .sh (s.nodes.map encN)),(10,.int .i64 s.nodes.length),(11,.int .i64 i)]),
 Goes cfg a24 k24_0 T ⟨(encSt s).cells::(encPd p).cells::ex,tkR .str acc,[]⟩ (IsRet (rowF .str (acc++fitNs F post))):=by
 intro post
 induction post with
 |nil=>
  intro i hd acc ha ex T hT
  have hge:=drop_ge hd
  rw[show acc++fitNs F []=acc by simp[fitNs]]
  exact goG 60 _ hT (.no (decide_eq_false (p:=(↑i:Int)<(↑s.nodes.length:Int)) (by omega))<|.fin ((.ret (.sl (skF acc) (List.map .str acc)),{boxes:=[.sl .sh (s.nodes.map encN),.sl .sh (s.pods.map encPd),.sl .sh (s.buds.map encB)]::[.str p.name,.str p.owner,.int .i64 p.prio,.sl .sh (p.need.map encA),.sl .sh (p.labels.map encP),.sl .sh (p.sel.map encM),.sl .sh (p.tols.map encL),.str p.key,.int .i64 p.most,.str p.node,.bool p.hold]::ex,toks:=tkR .str acc,loops:=[]:Heap})) rfl) (by kernel_rfl)
 |cons x post ih=>
  intro i hd acc ha ex T hT
  have hlt:=drop_lt hd
  have hnx:=drop_next hd
  have hf:=hF x (drop_mem hd)
  by_cases hq:F x.name=0
  ·have e:acc++fitNs F (x::post)=(acc++[x.name])++fitNs F post:=by simp[fitNs,List.filter_cons,hq]
   rw[e]
   rw[hq]at hf
   have ih':=ih (i+1) hnx (acc++[x.name]) (by simp;omega) (ex++[(encN x).cells])
   have ap:∀bs ls,appendA 1 16 ⟨bs,tkR .str acc,ls⟩ (rowF .str acc) (.sl .full [.str x.name])=some (rowF .str (acc++[x.name]),⟨bs,tkR .str (acc++[x.name]),ls⟩):=fun bs ls=>
    row_append_T AV.str (x:=x.name) (by simp;omega) (lenOk_map fun _=>rfl) rfl rfl
   exact let ζ1:List AV:=[.str p.name,.str p.owner,.int .i64 p.prio,.sl .sh (p.need.map encA),.sl .sh (p.labels.map encP),.sl .sh (p.sel.map encM),.sl .sh (p.tols.map encL),.str p.key,.int .i64 p.most,.str p.node,.bool p.hold];let ζ2:List AV:=[.str x.name,.sl .sh (x.cap.map encA),.sl .sh (x.labels.map encP),.sl .sh (x.taints.map encT),.bool x.cordon];let ζ3:List AV:=[.sl .sh (s.nodes.map encN),.sl .sh (s.pods.map encPd),.sl .sh (s.buds.map encB)];let ζ4:Heap:={boxes:=ζ3::ζ1::(ex++[ζ2]),toks:=tkR .str acc,loops:=[]:Heap};let ζ5:Heap:={boxes:=ζ3::ζ1::(ex++[ζ2]),toks:=tkR .str (acc++[x.name]),loops:=[]:Heap};let ζ6:List AV:=[.str [],.sl .full [],.sl .full [],.sl .full [],.bool false];goG 120 _ hT (.yes (decide_eq_true (p:=(↑i:Int)<(↑s.nodes.length:Int)) (by omega))<|.idx (show idxA 5 (.sl .sh (s.nodes.map encN)) (.int .i64 ↑i)=some (.ref (encN x).cells)from idx_row hd (by rfl))<|.load (rfl:loadA true 5 {boxes:=ζ3::ζ1::ex,toks:=tkR .str acc,loops:=[]:Heap} (.ref ζ2)=some (.agg ζ2))<|.store (show storeA 5 {boxes:=ζ3::ζ1::(ex++[ζ6]),toks:=tkR .str acc,loops:=[]:Heap} (.ptr (ζ3::ζ1::ex).length (0:Nat)) (.agg ζ2)=some (ζ4)from store_box2 (cs:=ζ6) (cs':=ζ2) (by simp+zetaDelta) rfl (by simp+zetaDelta [List.set_append]))<|.load (show loadA true 3 ζ4 (.ptr 0 0)=some (.agg ζ3)from load_box (cs:=ζ3) (by simp+zetaDelta) rfl)<|.load (show loadA true 11 ζ4 (.ptr 1 0)=some (.agg ζ1)from load_box (cs:=ζ1) (by simp+zetaDelta) rfl)<|.load (show loadA false 1 ζ4 (.ptr (ζ3::ζ1::ex).length (0:Nat))=some (.str x.name)from load_box (cs:=ζ2) (by simp+zetaDelta) rfl)<|.callI hf<|.tt<|.load (show loadA false 1 ζ4 (.ptr (ζ3::ζ1::ex).length (0:Nat))=some (.str x.name)from load_box (cs:=ζ2) (by simp+zetaDelta) rfl)<|.append (show appendA (1:Nat) (16:Nat) ζ4 (.sl (skF acc) (List.map .str acc)) (.sl .full [.str x.name])=some ((rowF .str (acc++[x.name]),ζ5))from ap _ _)<|.bin (show binA .add (.int .i64 ↑i) (.int .i64 1)=some (.int .i64 (↑(i+1)))from inc_i (by omega))<|.cutQ k24_0 [(2,.ptr 0 0),(3,.ptr 1 0),(5,.sl (skF (acc++[x.name])) (List.map .str (acc++[x.name]))),(9,.sl .sh (s.nodes.map encN)),(10,.int .i64 (↑s.nodes.length)),(11,.int .i64 (↑(i+1)))] (ζ5) (fun T hT=>(ih' T hT))) (by kernel_rfl)
  ·have e:acc++fitNs F (x::post)=acc++fitNs F post:=by simp[fitNs,List.filter_cons,hq]
   rw[e]
   have ih':=ih (i+1) hnx acc (by omega) (ex++[(encN x).cells])
   generalize F x.name=c at hf hq
   exact let ζ1:List AV:=[.str p.name,.str p.owner,.int .i64 p.prio,.sl .sh (p.need.map encA),.sl .sh (p.labels.map encP),.sl .sh (p.sel.map encM),.sl .sh (p.tols.map encL),.str p.key,.int .i64 p.most,.str p.node,.bool p.hold];let ζ3:List AV:=[.sl .sh (s.nodes.map encN),.sl .sh (s.pods.map encPd),.sl .sh (s.buds.map encB)];let ζ4:List AV:=[.str x.name,.sl .sh (x.cap.map encA),.sl .sh (x.labels.map encP),.sl .sh (x.taints.map encT),.bool x.cordon];let ζ2:Heap:={boxes:=ζ3::ζ1::(ex++[ζ4]),toks:=tkR .str acc,loops:=[]:Heap};let ζ5:List AV:=[.str [],.sl .full [],.sl .full [],.sl .full [],.bool false];goG 120 _ hT (.yes (decide_eq_true (p:=(↑i:Int)<(↑s.nodes.length:Int)) (by omega))<|.idx (show idxA 5 (.sl .sh (s.nodes.map encN)) (.int .i64 ↑i)=some (.ref (encN x).cells)from idx_row hd (by rfl))<|.load (rfl:loadA true 5 {boxes:=ζ3::ζ1::ex,toks:=tkR .str acc,loops:=[]:Heap} (.ref ζ4)=some (.agg ζ4))<|.store (show storeA 5 {boxes:=ζ3::ζ1::(ex++[ζ5]),toks:=tkR .str acc,loops:=[]:Heap} (.ptr (ζ3::ζ1::ex).length (0:Nat)) (.agg ζ4)=some (ζ2)from store_box2 (cs:=ζ5) (cs':=ζ4) (by simp+zetaDelta) rfl (by simp+zetaDelta [List.set_append]))<|.load (show loadA true 3 ζ2 (.ptr 0 0)=some (.agg ζ3)from load_box (cs:=ζ3) (by simp+zetaDelta) rfl)<|.load (show loadA true 11 ζ2 (.ptr 1 0)=some (.agg ζ1)from load_box (cs:=ζ1) (by simp+zetaDelta) rfl)<|.load (show loadA false 1 ζ2 (.ptr (ζ3::ζ1::ex).length (0:Nat))=some (.str x.name)from load_box (cs:=ζ4) (by simp+zetaDelta) rfl)<|.callI hf<|.no (show(c==(0:Int))=false from Bool.eq_false_iff.2 (by simpa using hq))<|.bin (show binA .add (.int .i64 ↑i) (.int .i64 1)=some (.int .i64 (↑(i+1)))from inc_i (by omega))<|.cutQ k24_0 [(2,.ptr 0 0),(3,.ptr 1 0),(5,.sl (skF acc) (List.map .str acc)),(9,.sl .sh (s.nodes.map encN)),(10,.int .i64 (↑s.nodes.length)),(11,.int .i64 (↑(i+1)))] (ζ2) (fun T hT=>(ih' T hT))) (by kernel_rfl)
theorem nodes_any(s:St)(p:Pod)(F:List UInt8→Int)(hF:∀n∈s.nodes,Gives cfg 21 [encSt s,encPd p,.str n.name] (.int .i64 (F n.name)))(hl:s.nodes.length≤1000):
 Gives cfg 24 [encSt s,encPd p] (rowF .str (fitNs F s.nodes)):=by
 refine Gives.run (l24 _ _) ?_
 have h:=nodes_loop s p F hF hl s.nodes 0 rfl [] (by simp) []
 have e:rowF AV.str ([]:List (List UInt8))=.sl .full []:=rfl
 rw[e,tk_nil,List.nil_append]at h
 exact goG 60 [] trivial (.len (show lenA false (.sl .sh (s.nodes.map encN))=some (.int .i64 (↑s.nodes.length))from len_map _)<|.cutQ k24_0 [(2,.ptr 0 0),(3,.ptr 1 0),(5,.sl .full []),(9,.sl .sh (s.nodes.map encN)),(10,.int .i64 (↑s.nodes.length)),(11,.int .i64 0)] ({boxes:=[[.sl .sh (s.nodes.map encN),.sl .sh (s.pods.map encPd),.sl .sh (s.buds.map encB)],[.str p.name,.str p.owner,.int .i64 p.prio,.sl .sh (p.need.map encA),.sl .sh (p.labels.map encP),.sl .sh (p.sel.map encM),.sl .sh (p.tols.map encL),.str p.key,.int .i64 p.most,.str p.node,.bool p.hold]],toks:=[],loops:=[]:Heap}) (fun T hT=>(h T hT))) (by kernel_rfl)
theorem fitG_less{s:St}{p:Pod}{nm:List UInt8}{sk:Int}{ok:Bool}(h:fitG s p nm sk ok=0):fitG s {p with need:=[]} nm sk ok=0:=by
 unfold fitG at h⊢
 cases hf:findG Node.name s.nodes nm with
 |none=>rw[hf]at h;cases h
 |some n=>
  rw[hf]at h
  simp only at h⊢
  split at h
  ·rename_i h1
   rw[if_pos h1]
   split at h
   ·cases h
   ·rename_i h2
    rw[if_neg h2]
    split at h
    ·rename_i h3
     rw[if_pos h3]
     split at h
     ·rename_i h4
      simp only[Bool.and_eq_true,decide_eq_true_eq]at h4
      rw[if_pos (by simp[h4.1,fitsV])]
     ·cases h
    ·cases h
  ·cases h
theorem fits_trans{a b c:List Amount}(oa:POk a)(ob:POk b)(oc:POk c)(h1:fitsV a b=true)(h2:fitsV b c=true):fitsV a c=true:=
 (fits_get oa oc).2 fun z=>by have:=(fits_get oa ob).1 h1 z;have:=(fits_get ob oc).1 h2 z;omega
theorem fitG_gone{s:St}(g:GdS s){p:Pod}(op:VOk p.need){nm:List UInt8}{sk:Int}{ok:Bool}(h:fitG s p nm sk ok=0)(o:List UInt8):fitG (dropS s o) p nm sk ok=0:=by
 unfold fitG at h⊢
 rw[show(dropS s o).nodes=s.nodes from rfl]
 cases hf:findG Node.name s.nodes nm with
 |none=>rw[hf]at h;cases h
 |some n=>
  rw[hf]at h
  simp only at h⊢
  split at h
  ·rename_i h1
   rw[if_pos h1]
   split at h
   ·cases h
   ·rename_i h2
    rw[if_neg h2]
    split at h
    ·rename_i h3
     rw[if_pos h3]
     split at h
     ·rename_i h4
      simp only[Bool.and_eq_true,decide_eq_true_eq]at h4
      have hn:=findG_mem hf
      have en:n.name=nm:=by simpa using List.find?_some hf
      obtain⟨a,b,ea,eb,hab,oa,ob⟩:=state_less g o hn
      rw[en]at ea eb
      rw[ea]at h4
      rw[eb]
      rw[if_pos (by simpa using fits_trans op.p oa.p ob.p h4.2 hab)]
     ·cases h
    ·cases h
  ·cases h
theorem drop_drop(s:St)(a b:List UInt8):dropS (dropS s a) b=dropS (dropS s b) a:=by
 unfold dropS offP
 simp only[List.filter_filter,Bool.and_comm]
end Go.Aa.T
set_option linter.unusedVariables false
set_option linter.unusedSimpArgs false
set_option maxRecDepth 100000
namespace Go.Aa.T
open Go.Aa Go.Proofs
end Go.Aa.T
set_option linter.unusedVariables false
set_option linter.unusedSimpArgs false
set_option maxRecDepth 100000
namespace Go.Aa.T
open Go.Aa Go.Proofs
end Go.Aa.T
set_option linter.unusedVariables false
set_option linter.unusedSimpArgs false
set_option maxRecDepth 100000
namespace Go.Aa.T
open Go.Aa Go.Proofs
theorem fitNs_len(F:List UInt8→Int)(l:List Node):(fitNs F l).length≤l.length:=by
 unfold fitNs;rw[List.length_map];exact List.length_filter_le _ _
theorem known15':Gives cfg 15 [] (.bool true):=by
 obtain⟨H,h⟩:=known_ret15
 exact Gives.of h
theorem few_nd{s:St}(fs:FewS s):∀n∈s.nodes,NdIn n:=fun n hn=>by
 have f:=fewNd (fs.node n hn)
 exact⟨by have:=f.labels;omega,by have:=f.taints;omega⟩
theorem few_pd{p:Pod}(h:fewPd p=true):PdIn p:=by
 have f:=fewPod h
 exact⟨by have:=f.need;omega,by have:=f.labels;omega,by have:=f.sel;omega,by have:=f.tols;omega⟩
def lessQ(p:Pod):Pod:={p with need:=[]}
theorem less_loop(s t:St)(p:Pod)(l:List (List UInt8))(hl:l.length≤1000)
 (h1:∀z∈l,Gives cfg 21 [encSt s,encPd (lessQ p),.str z] (.int .i64 0))(h2:∀z∈l,Gives cfg 21 [encSt t,encPd p,.str z] (.int .i64 0)):
 ∀(post:List (List UInt8))(i:Nat)(hd:l.drop i=post)(T:Env)
 (hT:Has T [(3,.ptr 0 0),(4,.ptr 1 0),(7,.sl .sh (l.map .str)),(8,.ptr 2 0),(9,.ptr 3 0),(10,.int .i64 i)]),
 Goes cfg a4 k4_0 T ⟨[(encSt s).cells,(encPd p).cells,[.str p.name,.str p.owner,.int .i64 p.prio,.sl .full [],.sl .sh (p.labels.map encP),.sl .sh (p.sel.map encM),.sl .sh (p.tols.map encL),.str p.key,.int .i64 p.most,.str p.node,.bool p.hold],(encSt t).cells],[],[]⟩ (IsRet (.bool true)):=by
 intro post
 induction post with
 |nil=>
  intro i hd T hT
  have hge:=drop_ge hd
  exact goG 60 _ hT (.len (show lenA false (.sl .sh (List.map .str l))=some (.int .i64 (↑l.length))from len_map _)<|.no (decide_eq_false (p:=(↑i:Int)<(↑l.length:Int)) (by omega))<|.fin ((.ret (.bool true),{boxes:=[[.sl .sh (s.nodes.map encN),.sl .sh (s.pods.map encPd),.sl .sh (s.buds.map encB)],[.str p.name,.str p.owner,.int .i64 p.prio,.sl .sh (p.need.map encA),.sl .sh (p.labels.map encP),.sl .sh (p.sel.map encM),.sl .sh (p.tols.map encL),.str p.key,.int .i64 p.most,.str p.node,.bool p.hold],[.str p.name,.str p.owner,.int .i64 p.prio,.sl .full [],.sl .sh (p.labels.map encP),.sl .sh (p.sel.map encM),.sl .sh (p.tols.map encL),.str p.key,.int .i64 p.most,.str p.node,.bool p.hold],[.sl .sh (t.nodes.map encN),.sl .sh (t.pods.map encPd),.sl .sh (t.buds.map encB)]],toks:=[],loops:=[]:Heap})) rfl) (by kernel_rfl)
 |cons x post ih=>
  intro i hd T hT
  have hlt:=drop_lt hd
  have hnx:=drop_next hd
  have hxi:idxA 1 (.sl .sh (l.map .str)) (.int .i64 (i:Nat))=some (.ref [.str x]):=idx_row (f:=AV.str) hd rfl
  have g1:=h1 x (drop_mem hd)
  have g2:=h2 x (drop_mem hd)
  have ih':=ih (i+1) hnx
  exact let ζ1:List AV:=[.str p.name,.str p.owner,.int .i64 p.prio,.sl .sh (p.need.map encA),.sl .sh (p.labels.map encP),.sl .sh (p.sel.map encM),.sl .sh (p.tols.map encL),.str p.key,.int .i64 p.most,.str p.node,.bool p.hold];let ζ2:List AV:=[.str p.name,.str p.owner,.int .i64 p.prio,.sl .full [],.sl .sh (p.labels.map encP),.sl .sh (p.sel.map encM),.sl .sh (p.tols.map encL),.str p.key,.int .i64 p.most,.str p.node,.bool p.hold];let ζ3:List AV:=[.sl .sh (s.nodes.map encN),.sl .sh (s.pods.map encPd),.sl .sh (s.buds.map encB)];let ζ4:List AV:=[.sl .sh (t.nodes.map encN),.sl .sh (t.pods.map encPd),.sl .sh (t.buds.map encB)];goG 160 _ hT (.len (show lenA false (.sl .sh (List.map .str l))=some (.int .i64 (↑l.length))from len_map _)<|.yes (decide_eq_true (p:=(↑i:Int)<(↑l.length:Int)) (by omega))<|.idx (show idxA 1 (.sl .sh (List.map .str l)) (.int .i64 ↑i)=some (.ref [.str x])from hxi)<|.callK ([.agg ζ3,.agg ζ2,.str x]) (.int .i64 0) (show Gives cfg (21:FuncId) [encSt s,encPd (lessQ p),.str x] (.int .i64 0)from g1)<|.ff<|.idx (show idxA 1 (.sl .sh (List.map .str l)) (.int .i64 ↑i)=some (.ref [.str x])from hxi)<|.callI g2<|.ff<|.bin (show binA .add (.int .i64 ↑i) (.int .i64 1)=some (.int .i64 (↑(i+1)))from inc_i (by omega))<|.cutQ k4_0 [(3,.ptr 0 0),(4,.ptr 1 0),(7,.sl .sh (List.map .str l)),(8,.ptr 2 0),(9,.ptr 3 0),(10,.int .i64 (↑(i+1)))] ({boxes:=[ζ3,ζ1,ζ2,ζ4],toks:=[],loops:=[]:Heap}) (fun T hT=>(ih' T hT))) (by kernel_rfl)
theorem fitLess(s:St)(p:Pod)(a:Nat)(ha:a<256)(r:RgS s):Gives cfg 4 [encSt s,encPd p,.int .u8 (a:Int)] (.bool true):=by
 refine Gives.run (l4 _ _) ?_
 have g:=good_any s r
 have f17:=fewPd_any p
 cases hg:(fewSt s&&ckSt s==0)with
 |false=>
  rw[hg]at g
  exact let ζ1:List AV:=[.sl .sh (s.nodes.map encN),.sl .sh (s.pods.map encPd),.sl .sh (s.buds.map encB)];goG 90 [] trivial (.callI known15'<|.ff<|.callI g<|.tt<|.tt<|.tt<|.tt<|.fin ((.ret (.bool true),{boxes:=[ζ1,[.str p.name,.str p.owner,.int .i64 p.prio,.sl .sh (p.need.map encA),.sl .sh (p.labels.map encP),.sl .sh (p.sel.map encM),.sl .sh (p.tols.map encL),.str p.key,.int .i64 p.most,.str p.node,.bool p.hold]],toks:=[],loops:=[]:Heap})) rfl) (by kernel_rfl)
 |true=>
  rw[hg]at g
  cases hf:fewPd p with
  |false=>
   rw[hf]at f17
   exact let ζ1:List AV:=[.str p.name,.str p.owner,.int .i64 p.prio,.sl .sh (p.need.map encA),.sl .sh (p.labels.map encP),.sl .sh (p.sel.map encM),.sl .sh (p.tols.map encL),.str p.key,.int .i64 p.most,.str p.node,.bool p.hold];let ζ2:List AV:=[.sl .sh (s.nodes.map encN),.sl .sh (s.pods.map encPd),.sl .sh (s.buds.map encB)];goG 90 [] trivial (.callI known15'<|.ff<|.callI g<|.ff<|.callI f17<|.tt<|.tt<|.tt<|.fin ((.ret (.bool true),{boxes:=[ζ2,ζ1],toks:=[],loops:=[]:Heap})) rfl) (by kernel_rfl)
  |true=>
   rw[hf]at f17
   have o19:=ofPd_any p hf
   have c18:=ckPd_ref p
   by_cases hc:ckPd p=0
   ·rw[hc]at c18
    by_cases hk:p.key=[]
    ·simp only[Bool.and_eq_true,beq_iff_eq]at hg
     obtain⟨hg1,hg2⟩:=hg
     have fs:=fewS hg1
     have hs:=stIn fs r
     have gd:=gdS hg2
     have op:VOk p.need:=vOk (firstE_zero hc _ (by simp))
     have nd:=few_nd fs
     have pi:=few_pd hf
     have F:=fun n=>fit_none s hs nd p pi n hk
     have ns:=nodes_any s p (fun n=>fitG (dropS s p.name) p n 0 true) (fun n _=>F n.name) (by have:=fs.nodes;omega)
     have hz:∀z∈fitNs (fun n=>fitG (dropS s p.name) p n 0 true) s.nodes,fitG (dropS s p.name) p z 0 true=0:=fun z hz=>by
      unfold fitNs at hz
      obtain⟨n,hn,rfl⟩:=List.mem_map.1 hz
      simpa using(List.mem_filter.1 hn).2
     have hl:(fitNs (fun n=>fitG (dropS s p.name) p n 0 true) s.nodes).length≤1000:=by
      have:=fitNs_len (fun n=>fitG (dropS s p.name) p n 0 true) s.nodes
      have:=fs.nodes
      omega
     generalize fitNs (fun n=>fitG (dropS s p.name) p n 0 true) s.nodes=l at ns hz hl
     have h1:∀z∈l,Gives cfg 21 [encSt s,encPd (lessQ p),.str z] (.int .i64 0):=fun z h=>by
      have:=fit_none s hs nd (lessQ p) ⟨by simp[lessQ],pi.labels,pi.sel,pi.tols⟩ z hk
      rwa [show fitG (dropS s (lessQ p).name) (lessQ p) z 0 true=0 from fitG_less (hz z h)]at this
     have h2:∀(o:List UInt8),∀z∈l,Gives cfg 21 [encSt (dropS s o),encPd p,.str z] (.int .i64 0):=fun o z h=>by
      have:=fit_none (dropS s o) (drop_inF hs o) nd p pi z hk
      rwa [drop_drop,fitG_gone (gd_drop gd p.name) op (hz z h) o]at this
     by_cases h0:0<s.pods.length
     ·have hkl:a%s.pods.length<s.pods.length:=Nat.mod_lt _ (by omega)
      have cv:convA (.int .i64) (.int .u8 (a:Int))=some (.int .i64 (a:Int)):=conv_i64 (by omega)
      have rm:binA .rem (.int .i64 (a:Int)) (.int .i64 (s.pods.length:Int))=some (.int .i64 ((a%s.pods.length:Nat):Int)):=rem_nat (by omega)
      obtain⟨o,ho⟩:∃o,s.pods[a%s.pods.length]?=some o:=⟨_,List.getElem?_eq_getElem hkl⟩
      have hix:idxA 11 (.sl .sh (s.pods.map encPd)) (.int .i64 ((a%s.pods.length:Nat):Int))=some (.ref (encPd o).cells):=idx_get ho rfl
      have dr:=drop_gives s o.name (by have:=fs.pods;omega)
      have h2':=h2 o.name
      generalize dropS s o.name=t at dr h2'
      have lo:=less_loop s t p l hl h1 h2' l 0 rfl
      generalize a%s.pods.length=k at*
      exact let ζ1:List AV:=[.str p.name,.str p.owner,.int .i64 p.prio,.sl .sh (p.need.map encA),.sl .sh (p.labels.map encP),.sl .sh (p.sel.map encM),.sl .sh (p.tols.map encL),.str p.key,.int .i64 p.most,.str p.node,.bool p.hold];let ζ2:List AV:=[.sl .sh (s.nodes.map encN),.sl .sh (s.pods.map encPd),.sl .sh (s.buds.map encB)];let ζ3:List AV:=[.str p.name,.str p.owner,.int .i64 p.prio,.sl .full [],.sl .sh (p.labels.map encP),.sl .sh (p.sel.map encM),.sl .sh (p.tols.map encL),.str p.key,.int .i64 p.most,.str p.node,.bool p.hold];goG 240 [] trivial (.callI known15'<|.ff<|.callI g<|.ff<|.callI f17<|.ff<|.callI o19<|.callI c18<|.ff<|.no (show(!p.key==[])=false from by have hh:(p.key==[])=true:=(by simp+zetaDelta [hk]);simp[hh])<|.callG ([.agg ζ2,.agg ζ1]) (.sl .sh (List.map .str l)) (show Gives cfg (24:FuncId) [encSt s,encPd p] (rowF .str l)from ns) ⟨rfl,rfl⟩ Res.p<|.len (show lenA false (.sl .sh (s.pods.map encPd))=some (.int .i64 (↑s.pods.length))from len_map _)<|.yes (decide_eq_true (p:=(0:Int)<(↑s.pods.length:Int)) (by omega))<|.conv (show convA (CV.int IntKind.i64) (.int .u8 ↑a)=some (.int .i64 ↑a)from cv)<|.len (show lenA false (.sl .sh (s.pods.map encPd))=some (.int .i64 (↑s.pods.length))from len_map _)<|.bin (show binA .rem (.int .i64 ↑a) (.int .i64 (↑s.pods.length))=some (.int .i64 ↑k)from rm)<|.idx (show idxA 11 (.sl .sh (s.pods.map encPd)) (.int .i64 ↑k)=some (.ref (encPd o).cells)from hix)<|.callGF [(encSt s),(.str o.name)] (dr) rfl rfl ({boxes:=[ζ2,ζ1,ζ3,ζ2],toks:=[],loops:=[]:Heap})<|.cutQ k4_0 [(3,.ptr 0 0),(4,.ptr 1 0),(7,.sl .sh (List.map .str l)),(8,.ptr 2 0),(9,.ptr 3 0),(10,.int .i64 0)] ({boxes:=[ζ2,ζ1,ζ3,[.sl .sh (t.nodes.map encN),.sl .sh (t.pods.map encPd),.sl .sh (t.buds.map encB)]],toks:=[],loops:=[]:Heap}) (fun T hT=>(lo T hT))) (by kernel_rfl)
     ·have e:dropS s []=s:=by
       have:s.pods=[]:=List.length_eq_zero_iff.1 (by omega)
       unfold dropS offP
       rw[this]
       cases s
       simp only at this
       subst this
       rfl
      have h2':=h2 []
      rw[e]at h2'
      have lo:=less_loop s s p l hl h1 h2' l 0 rfl
      exact let ζ1:List AV:=[.str p.name,.str p.owner,.int .i64 p.prio,.sl .sh (p.need.map encA),.sl .sh (p.labels.map encP),.sl .sh (p.sel.map encM),.sl .sh (p.tols.map encL),.str p.key,.int .i64 p.most,.str p.node,.bool p.hold];let ζ2:List AV:=[.sl .sh (s.nodes.map encN),.sl .sh (s.pods.map encPd),.sl .sh (s.buds.map encB)];goG 240 [] trivial (.callI known15'<|.ff<|.callI g<|.ff<|.callI f17<|.ff<|.callI o19<|.callI c18<|.ff<|.no (show(!p.key==[])=false from by have hh:(p.key==[])=true:=(by simp+zetaDelta [hk]);simp[hh])<|.callG ([.agg ζ2,.agg ζ1]) (.sl .sh (List.map .str l)) (show Gives cfg (24:FuncId) [encSt s,encPd p] (rowF .str l)from ns) ⟨rfl,rfl⟩ Res.p<|.len (show lenA false (.sl .sh (s.pods.map encPd))=some (.int .i64 (↑s.pods.length))from len_map _)<|.no (decide_eq_false (p:=(0:Int)<(↑s.pods.length:Int)) (by omega))<|.cutQ k4_0 [(3,.ptr 0 0),(4,.ptr 1 0),(7,.sl .sh (List.map .str l)),(8,.ptr 2 0),(9,.ptr 3 0),(10,.int .i64 0)] ({boxes:=[ζ2,ζ1,[.str p.name,.str p.owner,.int .i64 p.prio,.sl .full [],.sl .sh (p.labels.map encP),.sl .sh (p.sel.map encM),.sl .sh (p.tols.map encL),.str p.key,.int .i64 p.most,.str p.node,.bool p.hold],ζ2],toks:=[],loops:=[]:Heap}) (fun T hT=>(lo T hT))) (by kernel_rfl)
    ·exact let ζ1:List AV:=[.str p.name,.str p.owner,.int .i64 p.prio,.sl .sh (p.need.map encA),.sl .sh (p.labels.map encP),.sl .sh (p.sel.map encM),.sl .sh (p.tols.map encL),.str p.key,.int .i64 p.most,.str p.node,.bool p.hold];let ζ2:List AV:=[.sl .sh (s.nodes.map encN),.sl .sh (s.pods.map encPd),.sl .sh (s.buds.map encB)];goG 120 [] trivial (.callI known15'<|.ff<|.callI g<|.ff<|.callI f17<|.ff<|.callI o19<|.callI c18<|.ff<|.yes (show(!p.key==[])=true from by have hh:¬((p.key==[])=true):=(by simp+zetaDelta [hk]);simp[hh])<|.fin ((.ret (.bool true),{boxes:=[ζ2,ζ1],toks:=[],loops:=[]:Heap})) rfl) (by kernel_rfl)
   ·generalize ckPd p=c at c18 hc
    exact let ζ1:List AV:=[.str p.name,.str p.owner,.int .i64 p.prio,.sl .sh (p.need.map encA),.sl .sh (p.labels.map encP),.sl .sh (p.sel.map encM),.sl .sh (p.tols.map encL),.str p.key,.int .i64 p.most,.str p.node,.bool p.hold];let ζ2:List AV:=[.sl .sh (s.nodes.map encN),.sl .sh (s.pods.map encPd),.sl .sh (s.buds.map encB)];goG 120 [] trivial (.callI known15'<|.ff<|.callI g<|.ff<|.callI f17<|.ff<|.callI o19<|.callI c18<|.yes (show(c !=(0:Int))=true from(by simpa using hc))<|.tt<|.fin ((.ret (.bool true),{boxes:=[ζ2,ζ1],toks:=[],loops:=[]:Heap})) rfl) (by kernel_rfl)
end Go.Aa.T
set_option linter.unusedVariables false
set_option linter.unusedSimpArgs false
set_option maxRecDepth 100000
namespace Go.Aa.T
open Go.Aa Go.Proofs
theorem law4(xs:List AV)(h:TyAll Tryz.prog 6 [26,35,5] xs)(hz:SzAll Tryz.prog [26,35,5] xs):∃H',lim cfg (.fn 4) xs Heap.nil=some (.ret (.bool true),H'):=by
 obtain⟨x1,x2,x3,rfl,h1,h2,h3⟩:=tyall_3 h
 obtain⟨a,rfl,r,-⟩:=ty26 (k:=0) h1
 obtain⟨p,rfl,-⟩:=ty35 (k:=2) h2
 obtain⟨n,hn,rfl⟩:=tyU8 h3
 exact(fitLess a p n hn r).ret
end Go.Aa.T
namespace Go.Proofs
open Go.Shelf
def Tryz.lays160_ren:Go.Shelf.Ren:=⟨fun|160=>215|232=>223|231=>222|227=>224|234=>226|233=>225|236=>228|235=>227|228=>241|271=>244|151=>243|197=>242|120=>253|152=>252|260=>251|137=>255|119=>256|224=>257|225=>258|217=>259|266=>260|n=>n,fun|9=>9|4=>4|3=>3|5=>5|117=>280|116=>279|0=>0|124=>283|21=>21|105=>297|46=>244|119=>310|139=>313|138=>312|n=>n,fun|3=>1|4=>2|n=>n⟩
theorem Tryz.lays160:Go.Proofs.Lays.n160 Tryz.prog Tryz.lays160_ren:={
 mixed:=by kernel_rfl
 f119:=Tryz.func256.trans (congrArg some (by kernel_rfl))
 f120:=Tryz.func253.trans (congrArg some (by kernel_rfl))
 f137:=Tryz.func255.trans (congrArg some (by kernel_rfl))
 f151:=Tryz.func243.trans (congrArg some (by kernel_rfl))
 f152:=Tryz.func252.trans (congrArg some (by kernel_rfl))
 f160:=Tryz.func215.trans (congrArg some (by kernel_rfl))
 f197:=Tryz.func242.trans (congrArg some (by kernel_rfl))
 f217:=Tryz.func259.trans (congrArg some (by kernel_rfl))
 f224:=Tryz.func257.trans (congrArg some (by kernel_rfl))
 f225:=Tryz.func258.trans (congrArg some (by kernel_rfl))
 f227:=Tryz.func224.trans (congrArg some (by kernel_rfl))
 f228:=Tryz.func241.trans (congrArg some (by kernel_rfl))
 f231:=Tryz.func222.trans (congrArg some (by kernel_rfl))
 f232:=Tryz.func223.trans (congrArg some (by kernel_rfl))
 f233:=Tryz.func225.trans (congrArg some (by kernel_rfl))
 f234:=Tryz.func226.trans (congrArg some (by kernel_rfl))
 f235:=Tryz.func227.trans (congrArg some (by kernel_rfl))
 f236:=Tryz.func228.trans (congrArg some (by kernel_rfl))
 f260:=Tryz.func251.trans (congrArg some (by kernel_rfl))
 f266:=Tryz.func260.trans (congrArg some (by kernel_rfl))
 f271:=Tryz.func244.trans (congrArg some (by kernel_rfl))
 t0:=Tryz.underlying0
 a0:=Tryz.isAgg0
 z0:=Tryz.sizeOf0
 v0:=Tryz.zeroValue0
 t3:=Tryz.underlying3
 a3:=Tryz.isAgg3
 z3:=Tryz.sizeOf3
 v3:=Tryz.zeroValue3
 t4:=Tryz.underlying4
 a4:=Tryz.isAgg4
 z4:=Tryz.sizeOf4
 v4:=Tryz.zeroValue4
 t5:=Tryz.underlying5
 a5:=Tryz.isAgg5
 z5:=Tryz.sizeOf5
 v5:=Tryz.zeroValue5
 t9:=Tryz.underlying9
 a9:=Tryz.isAgg9
 z9:=Tryz.sizeOf9
 v9:=Tryz.zeroValue9
 t21:=Tryz.underlying21
 a21:=Tryz.isAgg21
 z21:=Tryz.sizeOf21
 v21:=Tryz.zeroValue21
 t46:=Tryz.underlying244
 a46:=Tryz.isAgg244
 z46:=Tryz.sizeOf244
 v46:=Tryz.zeroValue244
 t105:=Tryz.underlying297
 a105:=Tryz.isAgg297
 z105:=Tryz.sizeOf297
 v105:=Tryz.zeroValue297
 t116:=Tryz.underlying279
 a116:=Tryz.isAgg279
 z116:=Tryz.sizeOf279
 t117:=Tryz.underlying280
 a117:=Tryz.isAgg280
 z117:=Tryz.sizeOf280
 v117:=Tryz.zeroValue280
 t119:=Tryz.underlying310
 a119:=Tryz.isAgg310
 z119:=Tryz.sizeOf310
 t124:=Tryz.underlying283
 a124:=Tryz.isAgg283
 z124:=Tryz.sizeOf283
 v124:=Tryz.zeroValue283
 t138:=Tryz.underlying312
 a138:=Tryz.isAgg312
 z138:=Tryz.sizeOf312
 v138:=Tryz.zeroValue312
 t139:=Tryz.underlying313
 a139:=Tryz.isAgg313
 z139:=Tryz.sizeOf313
 v139:=Tryz.zeroValue313
 g3:=by kernel_rfl
 g4:=by kernel_rfl}
def Tryz.lays106_ren:Go.Shelf.Ren:=⟨fun|106=>118|213=>186|265=>213|n=>n,fun|9=>9|3=>3|n=>n,fun|n=>n⟩
theorem Tryz.lays106:Go.Proofs.Lays.n106 Tryz.prog Tryz.lays106_ren:={
 mixed:=by kernel_rfl
 f106:=Tryz.func118.trans (congrArg some (by kernel_rfl))
 f213:=Tryz.func186.trans (congrArg some (by kernel_rfl))
 f265:=Tryz.func213.trans (congrArg some (by kernel_rfl))
 t3:=Tryz.underlying3
 a3:=Tryz.isAgg3
 z3:=Tryz.sizeOf3
 v3:=Tryz.zeroValue3
 t9:=Tryz.underlying9
 a9:=Tryz.isAgg9
 z9:=Tryz.sizeOf9
 v9:=Tryz.zeroValue9}
def Tryz.lays190_ren:Go.Shelf.Ren:=⟨fun|190=>204|125=>218|258=>217|128=>238|129=>239|302=>229|303=>230|304=>231|305=>232|306=>233|307=>234|308=>235|309=>236|310=>237|333=>245|329=>246|330=>247|334=>248|335=>249|336=>250|344=>254|n=>n,fun|31=>57|9=>9|3=>3|46=>244|0=>0|51=>293|53=>254|4=>4|183=>286|182=>285|131=>135|5=>5|218=>300|222=>304|228=>307|229=>308|n=>n,fun|n=>n⟩
theorem Tryz.lays190:Go.Proofs.Lays.n190 Tryz.prog Tryz.lays190_ren:={
 mixed:=by kernel_rfl
 f125:=Tryz.func218.trans (congrArg some (by kernel_rfl))
 f128:=Tryz.func238.trans (congrArg some (by kernel_rfl))
 f129:=Tryz.func239.trans (congrArg some (by kernel_rfl))
 f190:=Tryz.func204.trans (congrArg some (by kernel_rfl))
 f258:=Tryz.func217.trans (congrArg some (by kernel_rfl))
 f302:=Tryz.func229.trans (congrArg some (by kernel_rfl))
 f303:=Tryz.func230.trans (congrArg some (by kernel_rfl))
 f304:=Tryz.func231.trans (congrArg some (by kernel_rfl))
 f305:=Tryz.func232.trans (congrArg some (by kernel_rfl))
 f306:=Tryz.func233.trans (congrArg some (by kernel_rfl))
 f307:=Tryz.func234.trans (congrArg some (by kernel_rfl))
 f308:=Tryz.func235.trans (congrArg some (by kernel_rfl))
 f309:=Tryz.func236.trans (congrArg some (by kernel_rfl))
 f310:=Tryz.func237.trans (congrArg some (by kernel_rfl))
 f329:=Tryz.func246.trans (congrArg some (by kernel_rfl))
 f330:=Tryz.func247.trans (congrArg some (by kernel_rfl))
 f333:=Tryz.func245.trans (congrArg some (by kernel_rfl))
 f334:=Tryz.func248.trans (congrArg some (by kernel_rfl))
 f335:=Tryz.func249.trans (congrArg some (by kernel_rfl))
 f336:=Tryz.func250.trans (congrArg some (by kernel_rfl))
 f344:=Tryz.func254.trans (congrArg some (by kernel_rfl))
 t0:=Tryz.underlying0
 a0:=Tryz.isAgg0
 z0:=Tryz.sizeOf0
 v0:=Tryz.zeroValue0
 t3:=Tryz.underlying3
 a3:=Tryz.isAgg3
 z3:=Tryz.sizeOf3
 v3:=Tryz.zeroValue3
 t4:=Tryz.underlying4
 a4:=Tryz.isAgg4
 z4:=Tryz.sizeOf4
 v4:=Tryz.zeroValue4
 t5:=Tryz.underlying5
 a5:=Tryz.isAgg5
 z5:=Tryz.sizeOf5
 v5:=Tryz.zeroValue5
 t9:=Tryz.underlying9
 a9:=Tryz.isAgg9
 z9:=Tryz.sizeOf9
 v9:=Tryz.zeroValue9
 t31:=Tryz.underlying57
 a31:=Tryz.isAgg57
 z31:=Tryz.sizeOf57
 v31:=Tryz.zeroValue57
 t46:=Tryz.underlying244
 a46:=Tryz.isAgg244
 z46:=Tryz.sizeOf244
 v46:=Tryz.zeroValue244
 t51:=Tryz.underlying293
 a51:=Tryz.isAgg293
 z51:=Tryz.sizeOf293
 v51:=Tryz.zeroValue293
 t53:=Tryz.underlying254
 a53:=Tryz.isAgg254
 z53:=Tryz.sizeOf254
 v53:=Tryz.zeroValue254
 t131:=Tryz.underlying135
 a131:=Tryz.isAgg135
 z131:=Tryz.sizeOf135
 v131:=Tryz.zeroValue135
 t182:=Tryz.underlying285
 a182:=Tryz.isAgg285
 z182:=Tryz.sizeOf285
 v182:=Tryz.zeroValue285
 t183:=Tryz.underlying286
 a183:=Tryz.isAgg286
 z183:=Tryz.sizeOf286
 v183:=Tryz.zeroValue286
 t218:=Tryz.underlying300
 a218:=Tryz.isAgg300
 z218:=Tryz.sizeOf300
 v218:=Tryz.zeroValue300
 t222:=Tryz.underlying304
 a222:=Tryz.isAgg304
 z222:=Tryz.sizeOf304
 v222:=Tryz.zeroValue304
 t228:=Tryz.underlying307
 a228:=Tryz.isAgg307
 z228:=Tryz.sizeOf307
 v228:=Tryz.zeroValue307
 t229:=Tryz.underlying308
 a229:=Tryz.isAgg308
 z229:=Tryz.sizeOf308
 v229:=Tryz.zeroValue308}
end Go.Proofs
set_option linter.unusedVariables false
set_option linter.unusedSimpArgs false
namespace Go.Proofs
open Go.Shelf Go.RowKit Go.Lib
theorem run_copy_cellsN{P:Program}{es:Nat}(w:World)(dT sT ty elem:TypeId)(b o dLen dCap:Nat)(a:Addr)(sLen sCap:Nat)(cs:List Value)
 (hu:P.underlying dT=some (.slice elem))(hs:(P.info? elem).map (·.size)=some es)(hn:cs.length=Nat.min sLen dLen*es)
 (hsrc:∀j v,cs[j]?=some v→w.cell? (a.add j)=some v)(hc:∀j,j<cs.length→(w.cell? ⟨b,o+j,none⟩).isSome=true)(hf:∀j,j<cs.length→w.frozen? ⟨b,o+j,none⟩=false)(h1:∀v∈cs,v.oneCell'=true):
 (Builtin.copy_ #[dT,sT] ty #[.slice (some ⟨b,o,none⟩) dLen dCap,.slice (some a) sLen sCap]).run P w=.ok (goInt (Nat.min sLen dLen)) (w.setCells b o cs):=by
 have hl:=run_loadCells_list (P:=P) w a cs hsrc
 have hst:=run_storeCells_cells (P:=P) b o cs 0 w (by simpa using hc) (by simpa using hf) h1
 cases hq:P.info? elem with
 |none=>simp[hq]at hs
 |some i=>
  have hi:i.size=es:=by simpa[hq]using hs
  simp[Builtin.copy_,run_underlying hu,Builtin.lenOf,Builtin.firstCells,sizeOf,typeInfo,hq,hi,←hn,hl,hst]
set_option maxHeartbeats 4000000 in
set_option maxRecDepth 100000 in
theorem ins_shift(b off n c i vb voff m vc:Nat)(cs vs:List Value)(w:World)(hi:i<n)(hm:0<m)(hroom:n+m≤c)(hc63:c≤9223372036854775807)(hvb:vb≠b)
 (hcl:cs.length=n*11)(hvl:vs.length=m*11)
 (hcs:∀j v,cs[j]?=some v→w.cell? ⟨b,off+j,none⟩=some v)(hsp:∀j,j<(n+m)*11→(w.cell? ⟨b,off+j,none⟩).isSome=true)(hfz:∀j,j<(n+m)*11→w.frozen? ⟨b,off+j,none⟩=false)
 (hvs:∀j v,vs[j]?=some v→w.cell? ⟨vb,voff+j,none⟩=some v)(h1c:∀v∈cs,v.oneCell'=true)(h1v:∀v∈vs,v.oneCell'=true)
 (tA tB:TypeId)(kA kB:Nat)(hsa:w.shape? vb=some (tA,kA))(hsb:w.shape? b=some (tB,kB))(hkB:kB≠0)(hfa:w.frozen? ⟨vb,voff,none⟩=false)(hfe:w.frozen? ⟨vb,kA,none⟩=false):
 Calls Tryz.prog 119 #[.slice (some ⟨b,off,none⟩) n c,.int .i64 i,.slice (some ⟨vb,voff,none⟩) m vc] w fun e w'=>
  e=.returned (.slice (some ⟨b,off,none⟩) (n+m) c)∧w'=(w.drew.setCells b (off+(i+m)*11) (cs.drop (i*11))).setCells b (off+i*11) vs:=by
 have mixed:Tryz.prog.follows .mixedOrders=true:=by kernel_rfl
 have hz1:¬((m:Int)=0):=by omega
 have hz2:¬((i:Int)=(n:Int)):=by omega
 have hsz:(Tryz.prog.info? 35).map (·.size)=some 11:=by kernel_rfl
 have hov:∀lb cb,(callFunc 187 #[.slice (some ⟨vb,voff,none⟩) m vc,.slice (some ⟨b,off+(i+m)*11,none⟩) lb cb]).run Tryz.prog w=.ok (.value (.bool false)) w:=fun lb cb=>by
  rw[run_callFunc_extern Tryz.func187 (by kernel_rfl) (by kernel_rfl) (by kernel_rfl) (e:=Extern.SlicesOverlaps.overlaps #[23,23] #[4]) (by kernel_rfl),
   Lib.run_overlaps_apart w 23 4 35 Tryz.underlying23 11 Tryz.sizeOf35 ⟨vb,voff,none⟩ ⟨b,off+(i+m)*11,none⟩ m vc lb cb hvb tA tB kA kB hsa hsb hkB hfa hfe]
  rfl
 have hdl:(cs.drop (i*11)).length=(n-i)*11:=by rw[List.length_drop,hcl];omega
 have hw1:IntKind.i64.wrap ((i:Int)+(m:Int))=(i:Int)+(m:Int):=by rw[IntKind.wrap_i64];omega
 have hb1:(0:Int)≤(i:Int)+(m:Int):=by omega
 have hin:i≤n:=by omega
 have htn:((i:Int)+(m:Int)).toNat=i+m:=by omega
 have hb2:¬(c=i+m):=by omega
 have hb3:(i:Int)≤(n:Int)+(m:Int):=by omega
 have hb4:¬(c=i):=by omega
 have hcp1:∀ty dc sc,(Builtin.copy_ #[23,23] ty #[.slice (some ⟨b,off+(i+m)*11,none⟩) (n+m-(i+m)) dc,.slice (some ⟨b,off+i*11,none⟩) (n+m-i) sc]).run Tryz.prog w.drew=.ok (goInt (Nat.min (n+m-i) (n+m-(i+m)))) (w.drew.setCells b (off+(i+m)*11) (cs.drop (i*11))):=fun ty dc sc=>
  run_copy_cellsN w.drew _ _ ty 35 b (off+(i+m)*11) (n+m-(i+m)) dc ⟨b,off+i*11,none⟩ (n+m-i) sc (cs.drop (i*11)) Tryz.underlying23 hsz (by rw[hdl];simp only[Nat.min_def];split<;>omega)
   (fun j v hj=>by rw[Addr.add_lit,Nat.add_assoc];exact hcs (i*11+j) v (by rwa [List.getElem?_drop]at hj))
   (fun j hj=>by rw[Nat.add_assoc];exact hsp _ (by omega)) (fun j hj=>by rw[Nat.add_assoc];exact hfz _ (by omega)) (fun v hv=>h1c v (List.mem_of_mem_drop hv))
 obtain⟨W1,hW1⟩:∃W1,W1=w.drew.setCells b (off+(i+m)*11) (cs.drop (i*11)):=⟨_,rfl⟩
 have hsp1:∀k,k<(n+m)*11→(W1.cell? ⟨b,off+k,none⟩).isSome=true:=fun k hk=>by
  rw[hW1]
  exact isSome_setCells b _ _ _ (fun j hj=>by rw[Nat.add_assoc];exact hsp _ (by omega)) _ (hsp k hk)
 have hcp2:∀(W:World),(∀x,W.cell? x=W1.cell? x)→(∀x,W.frozen? x=W1.frozen? x)→∀ty dc,(Builtin.copy_ #[23,23] ty #[.slice (some ⟨b,off+i*11,none⟩) (n+m-i) dc,.slice (some ⟨vb,voff,none⟩) m vc]).run Tryz.prog W=.ok (goInt (Nat.min m (n+m-i))) (W.setCells b (off+i*11) vs):=fun W hWc hWf ty dc=>
  run_copy_cellsN W _ _ ty 35 b (off+i*11) (n+m-i) dc ⟨vb,voff,none⟩ m vc vs Tryz.underlying23 hsz (by rw[hvl];simp only[Nat.min_def];split<;>omega)
   (fun j v hj=>by
     rw[Addr.add_lit,hWc,hW1,World.cell?_setCells_out b _ _ _ _ (fun h _=>absurd h hvb)]
     exact hvs j v hj)
   (fun j hj=>by rw[hWc,Nat.add_assoc];exact hsp1 _ (by omega)) (fun j hj=>by rw[hWf,hW1,World.frozen?_setCells,Nat.add_assoc];exact hfz _ (by omega)) h1v
 rw[←hW1]at hcp1
 go_enter Tryz.func119,Tryz.ntmps119
 go_wp2_with(simp only[hov])
 go_region_law_o(refine step_copy_runI rfl _ _ 23 23 rfl _ _ (by simp[Act.eval,Act.put]) (by simp[Act.eval,Act.put]) (hcp1 _ _ _) ?_)
 go_wp2_with(at_builtin;refine wpList_copy_runI _ rfl _ _ 23 23 rfl _ _ rfl rfl (hcp2 _ (fun _=>rfl) (fun _=>rfl) _ _) ?_)
 go_ret
 first|exact⟨rfl,rfl⟩|exact⟨rfl,by rw[hW1]⟩
set_option maxHeartbeats 4000000 in
set_option maxRecDepth 100000 in
theorem ins_end_room(b off n c vb voff m vc:Nat)(vs:List Value)(w:World)(i0:TypeInfo)(hi0:Tryz.prog.info? 35=some i0)(hzs:i0.size=11)(hm:0<m)(hroom:n+m≤c)(hc63:c≤9223372036854775807)
 (hvl:vs.length=m*11)(hsp:∀j,j<m*11→(w.cell? ⟨b,off+n*11+j,none⟩).isSome=true)(hfz:∀j,j<m*11→w.frozen? ⟨b,off+n*11+j,none⟩=false)
 (hvs:∀j v,vs[j]?=some v→w.cell? ⟨vb,voff+j,none⟩=some v)(h1v:∀v∈vs,v.oneCell'=true):
 Calls Tryz.prog 119 #[.slice (some ⟨b,off,none⟩) n c,.int .i64 n,.slice (some ⟨vb,voff,none⟩) m vc] w fun e w'=>
  e=.returned (.slice (some ⟨b,off,none⟩) (n+m) c)∧w'=w.setCells b (off+n*11) vs:=by
 have mixed:Tryz.prog.follows .mixedOrders=true:=by kernel_rfl
 have hz1:¬((m:Int)=0):=by omega
 have hsrc:Src Tryz.prog i0.size 23 (.slice (some ⟨vb,voff,none⟩) m vc) m vs w:=by
  rw[hzs]
  exact Src.ofSlice w Tryz.underlying23 ⟨vb,voff,none⟩ m vc vs (by omega) (fun j u hj=>by rw[Addr.add_lit];exact hvs j u hj) h1v
 go_enter Tryz.func119,Tryz.ntmps119
 go_wp2_with(at_builtin;refine wpList_append_room_src _ rfl _ _ 23 23 rfl 35 i0 Tryz.underlying23 hi0 b off n c rfl _ rfl m vs hsrc hroom (by rw[hvl,hzs];exact hsp) (by rw[hvl,hzs];exact hfz) ?_)
 go_ret
 first|exact⟨rfl,rfl⟩|exact⟨rfl,by rw[hzs]⟩
set_option maxHeartbeats 4000000 in
set_option maxRecDepth 100000 in
theorem ins_end_grow(base:Option Addr)(n c vb voff m vc:Nat)(cs vs:List Value)(w:World)(i0:TypeInfo)(z:Value)(hi0:Tryz.prog.info? 35=some i0)(hz0:i0.zero=some z)(hzs:i0.size=11)(hzb:i0.bytes=184)(hm:0<m)(hnc:n≤c)(hroom:c<n+m)(hbig:(n+m)*184≤140737488355328)
 (hcl:cs.length=n*11)(hvl:vs.length=m*11)(hnil:base=none→n=0)
 (hcs:∀a,base=some a→∀j v,cs[j]?=some v→w.cell? (a.add j)=some v)
 (hvs:∀j v,vs[j]?=some v→w.cell? ⟨vb,voff+j,none⟩=some v)(h1v:∀v∈vs,v.oneCell'=true):
 Calls Tryz.prog 119 #[.slice base n c,.int .i64 n,.slice (some ⟨vb,voff,none⟩) m vc] w fun e w'=>
  e=.returned (.slice (some ⟨w.heap.size,0,none⟩) (n+m) (grownCap w (n+m) c 35))∧
  w'=w.drew.alloc (.cells ((cs++vs).toArray++Builtin.zeroCells z.cells (grownCap w (n+m) c 35-(n+m))) 35):=by
 have mixed:Tryz.prog.follows .mixedOrders=true:=by kernel_rfl
 have hz1:¬((m:Int)=0):=by omega
 have hsrc:Src Tryz.prog i0.size 23 (.slice (some ⟨vb,voff,none⟩) m vc) m vs w:=by
  rw[hzs]
  exact Src.ofSlice w Tryz.underlying23 ⟨vb,voff,none⟩ m vc vs (by omega) (fun j u hj=>by rw[Addr.add_lit];exact hvs j u hj) h1v
 have hold:(Builtin.firstCells i0.size n (.slice base n c)).run Tryz.prog w.drew=.ok cs.toArray w.drew:=by
  rw[hzs]
  cases base with
  |none=>
   have h0:=hnil rfl
   subst h0
   rw[List.length_eq_zero_iff.1 (by omega:cs.length=0)]
   exact run_firstCells_none w.drew 11 0 0 c
  |some a=>exact run_firstCells_some w.drew 11 n a n c cs (by omega) (fun j v hj=>hcs a rfl j v hj)
 have hrun:∀ty,(Builtin.append_ #[23,23] ty #[.slice base n c,.slice (some ⟨vb,voff,none⟩) m vc]).run Tryz.prog w=_:=fun ty=>
  run_append_grow_src w 23 23 ty 35 i0 _ Tryz.underlying23 hi0 hz0 base n c cs hold _ m vs hsrc hroom (by omega) (by rw[hzb];exact growslice_fits hroom hbig)
 go_enter Tryz.func119,Tryz.ntmps119
 cases base with
 |none=>
  have h0:=hnil rfl
  subst h0
  go_wp2_with(at_builtin;refine Lib.wpList_append_run _ rfl _ _ _ _ rfl _ _ rfl rfl _ _ (hrun _) ?_)
  all_goals(go_ret;exact⟨rfl,rfl⟩)
 |some a=>
  obtain⟨ab,ao,asp⟩:=a
  go_wp2_with(at_builtin;refine Lib.wpList_append_run _ rfl _ _ _ _ rfl _ _ rfl rfl _ _ (hrun _) ?_)
  all_goals(go_ret;exact⟨rfl,rfl⟩)
set_option maxHeartbeats 4000000 in
set_option maxRecDepth 100000 in
theorem ins_grow(b off n c i vb voff m vc:Nat)(cs vs:List Value)(w:World)(i0:TypeInfo)(z:Value)(hi0:Tryz.prog.info? 35=some i0)(hz0:i0.zero=some z)(hzs:i0.size=11)(hzb:i0.bytes=184)(hzc:z.cells.size=11)(hi:i<n)(hm:0<m)(hnc:n≤c)(hroom:c<n+m)(hbig:(n+m)*184≤140737488355328)
 (hcl:cs.length=n*11)(hvl:vs.length=m*11)
 (hcs:∀j v,cs[j]?=some v→w.cell? ⟨b,off+j,none⟩=some v)
 (hvs:∀j v,vs[j]?=some v→w.cell? ⟨vb,voff+j,none⟩=some v)(h1c:∀v∈cs,v.oneCell'=true)(h1v:∀v∈vs,v.oneCell'=true):
 Calls Tryz.prog 119 #[.slice (some ⟨b,off,none⟩) n c,.int .i64 i,.slice (some ⟨vb,voff,none⟩) m vc] w fun e w'=>
  e=.returned (.slice (some ⟨w.heap.size,0,none⟩) (n+m) (grownCap w (n+m) c 35))∧
  w'=(((w.alloc (.cells ((cs.take (i*11)).toArray++Builtin.zeroCells z.cells (n+m-i)++Builtin.zeroCells z.cells (grownCap w (n+m) c 35-(n+m))) 35)).drew.setCells w.heap.size (i*11) vs).drew).setCells w.heap.size ((i+m)*11) (cs.drop (i*11)):=by
 have mixed:Tryz.prog.follows .mixedOrders=true:=by kernel_rfl
 have hz1:¬((m:Int)=0):=by omega
 have hz2:¬((i:Int)=(n:Int)):=by omega
 have hz3:(c:Int)<(n:Int)+(m:Int):=by omega
 have hsz:(Tryz.prog.info? 35).map (·.size)=some 11:=by rw[hi0];simp[hzs]
 have hbw:b<w.heap.size:=block_lt_of_cell (hcs 0 _ (List.getElem?_eq_getElem (by omega)))
 have hvw:vb<w.heap.size:=block_lt_of_cell (hvs 0 _ (List.getElem?_eq_getElem (by omega)))
 have hkk:(n:Int)+(m:Int)-(i:Int)=((n+m-i:Nat):Int):=by omega
 have hik:i+(n+m-i)=n+m:=by omega
 have hold:(Builtin.firstCells i0.size i (.slice (some ⟨b,off,none⟩) i c)).run Tryz.prog w.drew=.ok (cs.take (i*11)).toArray w.drew:=by
  rw[hzs]
  exact run_firstCells_some w.drew 11 i ⟨b,off,none⟩ i c (cs.take (i*11)) (by rw[List.length_take];omega) (fun j v hj=>by
   rw[Addr.add_lit]
   rw[List.getElem?_take]at hj
   split at hj
   ·exact hcs j v hj
   ·cases hj)
 have hrz:∀ty,(Builtin.append_ #[23,3] ty #[.slice (some ⟨b,off,none⟩) i c,.int .i64 ((n:Int)+(m:Int)-(i:Int))]).run Tryz.prog w=
  .ok (.slice (some ⟨w.heap.size,0,none⟩) (n+m) (grownCap w (n+m) c 35)) (w.drew.alloc (.cells ((cs.take (i*11)).toArray++Builtin.zeroCells z.cells (n+m-i)++Builtin.zeroCells z.cells (grownCap w (n+m) c 35-(n+m))) 35)):=fun ty=>by
  have h:=Lib.run_append_grow_zeros w 23 3 ty 35 i0 _ .i64 .i64 Tryz.underlying23 Tryz.underlying3 hi0 hz0 (some ⟨b,off,none⟩) i c (cs.take (i*11)) hold (n+m-i) (by omega) (by omega) (by omega) (by omega) (by rw[hzb];omega) (by rw[hzb,hik];exact growslice_fits hroom hbig)
  rw[hik]at h
  rw[hkk]
  exact h
 obtain⟨G,hG⟩:∃G,G=grownCap w (n+m) c 35:=⟨_,rfl⟩
 obtain⟨ROW,hROW⟩:∃ROW:Array Value,ROW=(cs.take (i*11)).toArray++Builtin.zeroCells z.cells (n+m-i)++Builtin.zeroCells z.cells (G-(n+m)):=⟨_,rfl⟩
 rw[←hG]at hrz⊢
 rw[←hROW]at hrz⊢
 have hRl:(n+m)*11≤ROW.size:=by
  rw[hROW]
  simp[Builtin.zeroCells,hzc]
  omega
 obtain⟨W1,hW1⟩:∃W1,W1=w.drew.alloc (.cells ROW 35):=⟨_,rfl⟩
 rw[←hW1]at hrz
 have hN:∀j,j<(n+m)*11→(W1.cell? ⟨w.heap.size,j,none⟩).isSome=true:=fun j hj=>by
  rw[hW1,World.cell?_alloc_at (w:=w.drew) ROW _ w.heap.size j rfl,Array.getElem?_eq_getElem (by omega)];rfl
 have hNf:∀j,W1.frozen? ⟨w.heap.size,j,none⟩=false:=fun j=>by rw[hW1];exact World.frozen?_alloc_at (w:=w.drew) ROW _ w.heap.size j rfl
 have hOb:∀j v,w.cell? ⟨b,j,none⟩=some v→W1.cell? ⟨b,j,none⟩=some v:=fun j v h=>by rw[hW1,World.cell?_alloc_past (w:=w.drew) _ b j hbw];exact h
 have hOv:∀j v,w.cell? ⟨vb,j,none⟩=some v→W1.cell? ⟨vb,j,none⟩=some v:=fun j v h=>by rw[hW1,World.cell?_alloc_past (w:=w.drew) _ vb j hvw];exact h
 have hcpA:∀(W:World),(∀x,W.cell? x=W1.cell? x)→(∀x,W.frozen? x=W1.frozen? x)→∀ty dc,(Builtin.copy_ #[23,23] ty #[.slice (some ⟨w.heap.size,i*11,none⟩) (n+m-i) dc,.slice (some ⟨vb,voff,none⟩) m vc]).run Tryz.prog W=.ok (goInt (Nat.min m (n+m-i))) (W.setCells w.heap.size (i*11) vs):=fun W hWc hWf ty dc=>
  run_copy_cellsN W _ _ ty 35 w.heap.size (i*11) (n+m-i) dc ⟨vb,voff,none⟩ m vc vs Tryz.underlying23 hsz (by rw[hvl];simp only[Nat.min_def];split<;>omega)
   (fun j v hj=>by rw[Addr.add_lit,hWc];exact hOv _ v (hvs j v hj))
   (fun j hj=>by rw[hWc];exact hN _ (by omega)) (fun j hj=>by rw[hWf];exact hNf _) h1v
 have hGn:n+m≤G:=by rw[hG];exact grownCap_ge w _ _ _
 have hG63:G≤9223372036854775807:=by
  have:=grownCap_le_maxLen w (n+m) c 35 (by unfold maxLen;omega)
  rw[←hG]at this
  unfold maxLen at this
  omega
 have hGi:¬(G=i):=by omega
 have hGim:¬(G=i+m):=by omega
 have hci:¬(c=i):=by omega
 have hbN:b≠w.heap.size:=by omega
 have hdl:(cs.drop (i*11)).length=(n-i)*11:=by rw[List.length_drop,hcl];omega
 have hcpB:∀(W:World),(∀x,W.cell? x=(W1.setCells w.heap.size (i*11) vs).cell? x)→(∀x,W.frozen? x=(W1.setCells w.heap.size (i*11) vs).frozen? x)→∀ty dc sc,(Builtin.copy_ #[23,23] ty #[.slice (some ⟨w.heap.size,(i+m)*11,none⟩) (n+m-(i+m)) dc,.slice (some ⟨b,off+i*11,none⟩) (n-i) sc]).run Tryz.prog W=.ok (goInt (Nat.min (n-i) (n+m-(i+m)))) (W.setCells w.heap.size ((i+m)*11) (cs.drop (i*11))):=fun W hWc hWf ty dc sc=>
  run_copy_cellsN W _ _ ty 35 w.heap.size ((i+m)*11) (n+m-(i+m)) dc ⟨b,off+i*11,none⟩ (n-i) sc (cs.drop (i*11)) Tryz.underlying23 hsz (by rw[hdl];simp only[Nat.min_def];split<;>omega)
   (fun j v hj=>by
     rw[Addr.add_lit,hWc,World.cell?_setCells_out _ _ _ _ _ (fun h _=>absurd h hbN),Nat.add_assoc]
     exact hOb _ v (hcs (i*11+j) v (by rwa [List.getElem?_drop]at hj)))
   (fun j hj=>by rw[hWc];exact isSome_setCells _ _ _ _ (fun t ht=>hN _ (by omega)) _ (hN _ (by omega)))
   (fun j hj=>by rw[hWf,World.frozen?_setCells];exact hNf _) (fun v hv=>h1c v (List.mem_of_mem_drop hv))
 subst hW1
 have hE1:∀x,((w.alloc (.cells ROW 35)).drew).cell? x=(w.drew.alloc (.cells ROW 35)).cell? x:=fun x=>rfl
 have hE2:∀x,((w.alloc (.cells ROW 35)).drew).frozen? x=(w.drew.alloc (.cells ROW 35)).frozen? x:=fun x=>rfl
 have hF1:∀x,(((w.alloc (.cells ROW 35)).drew.setCells w.heap.size (i*11) vs).drew).cell? x=((w.drew.alloc (.cells ROW 35)).setCells w.heap.size (i*11) vs).cell? x:=fun x=>rfl
 have hF2:∀x,(((w.alloc (.cells ROW 35)).drew.setCells w.heap.size (i*11) vs).drew).frozen? x=((w.drew.alloc (.cells ROW 35)).setCells w.heap.size (i*11) vs).frozen? x:=fun x=>rfl
 have hw1:IntKind.i64.wrap ((i:Int)+(m:Int))=(i:Int)+(m:Int):=by rw[IntKind.wrap_i64];omega
 have hb1:(0:Int)≤(i:Int)+(m:Int):=by omega
 have hin:i≤n:=by omega
 have htn:((i:Int)+(m:Int)).toNat=i+m:=by omega
 have hb3:(i:Int)≤(n:Int):=by omega
 clear hkk hik hold hROW hG hRl
 go_enter Tryz.func119,Tryz.ntmps119
 go_wp2_with(first
  |(at_builtin;refine Lib.wpList_append_run _ rfl _ _ _ _ rfl _ _ rfl rfl _ _ (hrz _) ?_)
  |(at_builtin;refine wpList_copy_runI _ rfl _ _ 23 23 rfl _ _ rfl rfl (hcpA _ hE1 hE2 _ _) ?_)
  |(at_builtin;refine wpList_copy_runI _ rfl _ _ 23 23 rfl _ _ rfl rfl (hcpB _ (fun _=>rfl) (fun _=>rfl) _ _ _) ?_))
 go_region_law_o(refine step_copy_runI rfl _ _ 23 23 rfl (.slice (some ⟨w.heap.size,(i+m)*11,none⟩) (n+m-(i+m)) (G-(i+m))) (.slice (some ⟨b,off+i*11,none⟩) (n-i) (c-i)) (by simp[Act.eval,Act.put]) (by simp[Act.eval,Act.put]) (hcpB _ hF1 hF2 3 (G-(i+m)) (c-i)) ?_)
 go_wp2
 go_ret
 exact⟨rfl,rfl⟩
end Go.Proofs
set_option linter.unusedVariables false
set_option linter.unusedSimpArgs false
namespace Go.Aa
open Go.Proofs Go.RowKit
variable{P:Program}{G:Ghost}{w w':World}{H:Heap}
theorem ARep.app{u1 u2:List Value}{c1 c2:List AV}(h1:ARep G w u1 c1)(h2:ARep G w u2 c2):ARep G w (u1++u2) (c1++c2):=by
 refine⟨by simp[h1.1,h2.1],fun i i1 i2=> ?_⟩
 by_cases h:i<u1.length
 ·rw[List.getElem_append_left h,List.getElem_append_left (by rw[←h1.1];exact h)]
  exact h1.2 i h _
 ·rw[List.getElem_append_right (by omega),List.getElem_append_right (by rw[←h1.1];omega)]
  have:=h2.2 (i-u1.length) (by simp only[List.length_append]at i1;omega) (by have:=h1.1;simp only[List.length_append]at i2;omega)
  simp only[h1.1]at this⊢
  exact this
theorem ARep.tk{us:List Value}{cs:List AV}(o:Nat)(h:ARep G w us cs):ARep G w (us.take o) (cs.take o):=
 ⟨by simp[h.1],fun i i1 i2=>by simp only[List.getElem_take];exact h.2 i _ _⟩
theorem ARep.dr{us:List Value}{cs:List AV}(o:Nat)(h:ARep G w us cs):ARep G w (us.drop o) (cs.drop o):=
 ⟨by simp[h.1],fun i i1 i2=>by simp only[List.getElem_drop];exact h.2 _ _ _⟩
theorem setCells_row(P:Program){g o:Nat}{cur:Array Value}{t:TypeId}{vs:List Value}(hg:w.heap[g]?=some (.cells cur t (0,0)))(hfit:o+vs.length≤cur.size)(h1:∀v∈vs,v.oneCell'=true):
 w.setCells g o vs=w.setRow g (cur.toList.take o++vs++cur.toList.drop (o+vs.length)).toArray:=by
 have e1:=run_storeCells_at P g o t vs 0 cur w hg (by simpa using hfit) h1
 have e2:=run_storeCells_cells (P:=P) g o vs 0 w (fun j hj=>by
  have:o+j<cur.size:=by omega
  simp[World.cell?,hg,this]) (fun j hj=>by simp[World.frozen?,hg]) h1
 rw[e1]at e2
 simp only[Nat.add_zero,Result.ok.injEq,true_and]at e2
 exact e2.symm
theorem box_more{k:Nat}{cs cs':List AV}{us:Array Value}{e:TypeId}{X rest:List Value}(hH:HRep P G w H)(hk:G.on k)(hcs:H.boxes[k]?=some cs)(hne:cs≠[])(hb:w.heap[G.μ k]?=some (.cells us e (0,0)))
 (hX:ARep G w X cs')(hsz:(X++rest).length=us.size)(h1:w'.os=w.os)(h2:w'.tape=w.tape)(h3:w'.output=w.output)(h4:w.heap.size≤w'.heap.size)(h5:w'.heap[G.μ k]?=some (.cells (X++rest).toArray e (0,0)))
 (h6:∀b,b<w.heap.size→b≠G.μ k→w'.heap[b]?=w.heap[b]?):Step G w (G.more k) w'∧HRep P (G.more k) w' {H with boxes:=H.boxes.set k []++[cs']}:=by
 obtain⟨s1,s2⟩:=more_box (blk:=(X++rest).toArray) (cs':=cs') hH hk hcs hne hb (by simpa using hsz) (by simp[hX.1]) fun q q1 q2=>by
  have q3:q<X.length:=by rw[hX.1];exact q2
  have:(X++rest).toArray[q]=X[q]:=by simp only[List.getElem_toArray];exact List.getElem_append_left q3
  rw[this]
  exact hX.2 q q3 q2
 have hB:Below (w.setRow (G.μ k) (X++rest).toArray).heap.size (w.setRow (G.μ k) (X++rest).toArray) w':=by
  refine⟨h1,h2,h3,by simpa using h4,fun b hb'=> ?_⟩
  by_cases eb:b=G.μ k
  ·subst eb
   rw[h5]
   exact(setRow_heap w (G.μ k) us _ e (0,0) hb).symm
  ·rw[setRow_other _ _ _ _ eb]
   exact h6 b (by simpa using hb') eb
 obtain⟨t1,t2⟩:=below_step s2 hB
 exact⟨s1.trans t1,t2⟩
theorem box_made{cs':List AV}{e:TypeId}{X rest:List Value}(hH:HRep P G w H)(hX:ARep G w X cs')(h1:w'.os=w.os)(h2:w'.tape=w.tape)(h3:w'.output=w.output)(h4:w'.heap.size=w.heap.size+1)
 (h5:w'.heap[w.heap.size]?=some (.cells (X++rest).toArray e (0,0)))(h6:∀b,b<w.heap.size→w'.heap[b]?=w.heap[b]?):
 Step G w (G.box w.heap.size (X++rest).length) w'∧HRep P (G.box w.heap.size (X++rest).length) w' {H with boxes:=H.boxes++[cs']}:=by
 obtain⟨s1,s2⟩:=box_new hH e (us:=(X++rest).toArray) (cs:=cs') (by simp[hX.1]) fun q q1 q2=>by
  have q3:q<X.length:=by rw[hX.1];exact q2
  have:(X++rest).toArray[q]=X[q]:=by simp only[List.getElem_toArray];exact List.getElem_append_left q3
  rw[this]
  exact hX.2 q q3 q2
 simp only[List.size_toArray]at s1 s2
 have hB:Below (w.alloc (.cells (X++rest).toArray e)).heap.size (w.alloc (.cells (X++rest).toArray e)) w':=by
  refine⟨h1,h2,h3,by simp[h4],fun b hb'=> ?_⟩
  have hb':b<w.heap.size+1:=by simpa using hb'
  by_cases eb:b=w.heap.size
  ·subst eb
   rw[h5]
   show _=(w.heap.push _)[w.heap.size]?
   simp
  ·rw[Below.heap_alloc _ _ _ (by omega)]
   exact h6 b (by omega)
 obtain⟨t1,t2⟩:=below_step s2 hB
 exact⟨s1.trans t1,t2⟩
end Go.Aa
namespace Go.Aa.T
open Go.Aa Go.Proofs Go.RowKit
set_option maxHeartbeats 4000000 in
set_option maxRecDepth 100000 in
theorem clone_nil(n c:Nat)(w:World):Calls Tryz.prog 90 #[.slice none n c] w fun e w'=>e=.returned (.slice none 0 0)∧w'=w:=by
 have q22:∀(w:World)(a:Option Addr)(n c n' c':Nat),(binOp .eql 23 (.slice a n c) (.slice none n' c')).run Tryz.prog w=.ok (.bool a.isNone) w:=fun w a n c n' c'=>Lib.run_eql_slice_nil w _ _ a n c n' c' Tryz.underlying23
 go_enter Tryz.func90,Tryz.ntmps90
 go_wp2
 go_ret
 exact⟨rfl,rfl⟩
set_option maxHeartbeats 4000000 in
set_option maxRecDepth 100000 in
theorem clone_some(a:Addr)(n c:Nat)(w:World)(r:Value)(w2:World)(hr:(Builtin.append_ #[23,23] 23 #[.slice (some ⟨w.heap.size,0,none⟩) 0 0,.slice (some a) n c]).run Tryz.prog (w.alloc (.cells #[] 35))=.ok r w2):
 Calls Tryz.prog 90 #[.slice (some a) n c] w fun e w'=>e=.returned r∧w'=w2:=by
 have q22:∀(w:World)(a:Option Addr)(n c n' c':Nat),(binOp .eql 23 (.slice a n c) (.slice none n' c')).run Tryz.prog w=.ok (.bool a.isNone) w:=fun w a n c n' c'=>Lib.run_eql_slice_nil w _ _ a n c n' c' Tryz.underlying23
 obtain⟨ab,ao,asp⟩:=a
 go_enter Tryz.func90,Tryz.ntmps90
 go_wp2_with(at_builtin;refine Lib.wpList_append_run _ rfl _ _ _ _ rfl _ _ rfl rfl _ _ hr ?_)
 go_ret
 exact⟨rfl,rfl⟩
theorem info_el:∃i z,Tryz.prog.info? 35=some i∧i.zero=some z∧z.cells.size=11∧i.size=11∧i.bytes=184:=by
 have h:((Tryz.prog.info? 35).any fun i=>i.zero.any (fun z=>z.cells.size==11)&&(i.size==11&&i.bytes==184))=true:=by kernel_rfl
 obtain⟨i,hi,h⟩:=(Option.any_eq_true _ _).1 h
 simp only[Bool.and_eq_true,beq_iff_eq]at h
 obtain⟨h,h2,h3⟩:=h
 obtain⟨z,hz,h⟩:=(Option.any_eq_true _ _).1 h
 exact⟨i,z,hi,hz,by simpa using h,h2,h3⟩
theorem ext_clone:ExtOk Tryz.prog 90 (cloneE 11 184):=by
 intro az H v H' hg G w vs hH hargs
 unfold cloneE at hg
 split at hg
 ·rename_i k l
  obtain⟨i,z,hi,hz,hzs,his,hib⟩:=info_el
  rw[←his,←hib]at hg
  obtain⟨u,rfl,hr⟩:=args_1 hargs
  have hu:∃b n c,u=.slice b n c:=by
   cases hr with
   |sl0 a c=>exact⟨_,_,_,rfl⟩
   |sl a c=>exact⟨_,_,_,rfl⟩
  obtain⟨b,n,c,rfl⟩:=hu
  cases b with
  |none=>
   refine .inl ⟨w,by kernel_rfl,(clone_nil n c w).mono fun e1 w' hh=> ?_,rfl⟩
   obtain⟨rfl,rfl⟩:=hh
   cases hr with
   |sl0 a c=>
    simp only[appendMA,Option.some.injEq,Prod.mk.injEq]at hg
    obtain⟨rfl,rfl⟩:=hg
    exact⟨G,.refl _ _,hH,_,rfl,.sl0 none 0 .nil (fun _=>rfl) (fun t e=>by cases e)⟩
  |some a=>
   have hg1:=Grow.alloc (w:=w) hH.base (.cells #[] 35) 0
   have hst:=hg1.step hH.base
   have hx:Rep (G.set w.heap.size 0) (w.alloc (.cells #[] 35)) (.slice (some ⟨w.heap.size,0,none⟩) 0 0) (.sl .full []):=.sl0 _ _ _ (fun _=>rfl) (fun t e=>by cases e)
   obtain⟨r,w2,G2,j1,j2,j3,j4⟩:=run_appendMA (ty:=23) (hH.grow hg1) hx (hr.step hst) hg Tryz.underlying23 Tryz.underlying23 hi hz (by rw[hzs,his]) (by rw[his];decide) (by rw[hib];decide)
   refine .inl ⟨w,by kernel_rfl,(clone_some a n c w r w2 j1).mono fun e1 w' hh=> ?_,rfl⟩
   obtain⟨rfl,rfl⟩:=hh
   exact⟨G2,hst.trans j2,j3,_,rfl,j4⟩
 ·cases hg
theorem alls{G:Ghost}{w:World}{l:List AV}(h:l.all data0=true){us:List Value}(hr:ARep G w us l):∀v∈us,v.oneCell'=true:=by
 intro v hv
 obtain⟨j,hj,rfl⟩:=List.getElem_of_mem hv
 have hj2:j<l.length:=by rw[←hr.1];exact hj
 exact(hr.2 j hj hj2).one (data0_cell (List.all_eq_true.1 h _ (List.getElem_mem hj2)))
theorem ext_ins : ExtOk Tryz.prog 119 (insE 11 184) := by
  intro az H v H' hg G w vs hH hargs
  obtain ⟨i0, z, hi0, hz0, hzc, hzs, hzb⟩ := info_el
  unfold insE at hg
  split at hg
  · rename_i k off n es1 i kv ov m es2
    split at hg
    · rename_i cs vsA hcs hvs
      split at hg
      · rename_i hc
        obtain ⟨⟨hkk, rfl, rfl, rfl, rfl, rfl, hi1, hin⟩, hlen, hne, hvl, hd, hdv, hbig⟩ := hc
        simp only [Option.some.injEq, Prod.mk.injEq] at hg
        obtain ⟨rfl, rfl⟩ := hg
        obtain ⟨u0, u1, u2, rfl, r0, r1, r2⟩ := args_three hargs
        rw [int_inv r1]
        obtain ⟨N, rfl⟩ : ∃ N : Nat, i = N := ⟨i.toNat, by omega⟩
        have hN : N ≤ n := by omega
        simp only [Int.toNat_natCast]
        cases r0 with
        | msl _ _ _ c _ hk hnc hcm he0 hcap =>
        cases r2 with
        | msl _ _ _ vc _ hkv hvnc hvcm _ hvcap =>
        obtain ⟨hlt, hcs'⟩ := List.getElem?_eq_some_iff.1 hcs
        obtain ⟨hltv, hvs'⟩ := List.getElem?_eq_some_iff.1 hvs
        obtain ⟨us, e, hb, ⟨hsz, hmc⟩, hrep⟩ := hH.box k hlt hk.2
        obtain ⟨vu, ve, hvb, ⟨hvsz, hvmc⟩, hvrep⟩ := hH.box kv hltv hkv.2
        rw [hcs'] at hsz hrep
        rw [hvs'] at hvsz hvrep
        have hne' : cs ≠ [] := fun e => by rw [e] at hne; simp at hne
        have hlive : LiveB H k := fun e => by rw [hcs] at e; simp only [Option.some.injEq] at e; exact hne' e
        have hlivev : LiveB H kv := fun e => by rw [hvs] at e; simp only [Option.some.injEq] at e; rw [e] at hvl; simp at hvl
        have hμ : G.μ kv ≠ G.μ k := fun e => hkk (hH.μinj kv k hkv hk hlivev hlive e).symm
        have hCS : ARep G w (us.toList.take (n * 11)) (cs.take (n * 11)) := ⟨by simp; omega, fun j j1 j2 => by
          simp only [List.getElem_take, Array.getElem_toList]
          exact hrep j (by simp at j1; omega) (by simp at j2; omega)⟩
        have hVS : ARep G w (vu.toList.take 11) vsA := ⟨by simp; omega, fun j j1 j2 => by
          simp only [List.getElem_take, Array.getElem_toList]
          exact hvrep j (by simp at j1; omega) j2⟩
        have hX : ARep G w ((us.toList.take (n * 11)).take (N * 11) ++ vu.toList.take 11 ++ (us.toList.take (n * 11)).drop (N * 11)) (cs.take (N * 11) ++ vsA ++ (cs.take (n * 11)).drop (N * 11)) := by
          have := ((hCS.tk (N * 11)).app hVS).app (hCS.dr (N * 11))
          rw [List.take_take, Nat.min_eq_left (by omega)] at this
          rw [List.take_take, Nat.min_eq_left (by omega)]
          rw [List.take_take, Nat.min_eq_left (by omega)] at this
          exact this
        have h1c := alls (List.all_eq_true.2 fun x hx => List.all_eq_true.1 hd x (List.mem_of_mem_take hx)) hCS
        have h1v := alls hdv hVS
        have hCSl : (us.toList.take (n * 11)).length = n * 11 := by rw [List.length_take, Array.length_toList]; omega
        have hVSl : (vu.toList.take 11).length = 1 * 11 := by rw [List.length_take, Array.length_toList]; omega
        have hcsc : ∀ j x, (us.toList.take (n * 11))[j]? = some x → w.cell? ⟨G.μ k, 0 + j, none⟩ = some x := fun j x hj => by
          rw [List.getElem?_take] at hj
          split at hj
          · rw [Array.getElem?_toList] at hj
            simp [World.cell?, hb, hj]
          · cases hj
        have hvsc : ∀ j x, (vu.toList.take 11)[j]? = some x → w.cell? ⟨G.μ kv, 0 + j, none⟩ = some x := fun j x hj => by
          rw [List.getElem?_take] at hj
          split at hj
          · rw [Array.getElem?_toList] at hj
            simp [World.cell?, hvb, hj]
          · cases hj
        have hfz : ∀ j, w.frozen? ⟨G.μ k, j, none⟩ = false := fun j => by simp [World.frozen?, hb]
        have hvfz : ∀ j, w.frozen? ⟨G.μ kv, j, none⟩ = false := fun j => by simp [World.frozen?, hvb]
        have hcell : ∀ j, j < us.size → (w.cell? ⟨G.μ k, j, none⟩).isSome = true := fun j hj => by simp [World.cell?, hb, hj]
        have hXl := hX.1
        generalize hCSe : us.toList.take (n * 11) = CS at hX hXl hCSl hcsc h1c
        generalize hVSe : vu.toList.take 11 = VS at hX hXl hVSl hvsc h1v
        have hlb : (H.boxes.set k []).length = H.boxes.length := by simp
        by_cases hroom : n + 1 ≤ c
        · -- there is room
          have hcu : (n + 1) * 11 ≤ us.size := by
            have := Nat.mul_le_mul_right 11 hroom
            omega
          have hfin : ∀ w', w'.os = w.os → w'.tape = w.tape → w'.output = w.output → w.heap.size ≤ w'.heap.size → w'.heap[G.μ k]? = some (.cells ((CS.take (N * 11) ++ VS ++ CS.drop (N * 11)) ++ us.toList.drop ((n + 1) * 11)).toArray e (0, 0)) →
              (∀ b, b < w.heap.size → b ≠ G.μ k → w'.heap[b]? = w.heap[b]?) → PostOk Tryz.prog G w (.ret (.msl H.boxes.length 0 (n + 1) 11)) { H with boxes := H.boxes.set k [] ++ [cs.take (N * 11) ++ vsA ++ (cs.take (n * 11)).drop (N * 11)] } (.returned (.slice (some ⟨G.μ k, 0, none⟩) (n + 1) c)) w' := fun w' h1 h2 h3 h4 h5 h6 => by
            obtain ⟨s1, s2⟩ := box_more hH hk hcs hne' hb hX (by
              simp only [List.length_append, List.length_take, List.length_drop, Array.length_toList, hCSl, hVSl]; omega) h1 h2 h3 h4 h5 h6
            refine ⟨_, s1, s2, _, rfl, ?_⟩
            have := Rep.msl (G := G.more k) (w := w') G.nb 0 (n + 1) c 11 ⟨by simp [Ghost.more], by simp [Ghost.more]⟩ hroom hcm (by decide) (by simp only [Ghost.more, if_pos]; rw [← hmc, hmc]; exact hcap)
            simp only [Ghost.more, if_pos] at this
            rw [← hH.nb]
            exact this
          by_cases hend : N = n
          · subst hend
            have hcall := ins_end_room (G.μ k) 0 N c (G.μ kv) 0 1 vc VS w i0 hi0 hzs (by omega) hroom hcm hVSl (fun j hj => by rw [show 0 + N * 11 + j = N * 11 + j by omega]; exact hcell _ (by omega)) (fun j hj => hfz _) hvsc h1v
            refine .inl ⟨w, by kernel_rfl, hcall.mono fun e1 w' hh => ?_, rfl⟩
            obtain ⟨rfl, rfl⟩ := hh
            rw [setCells_row Tryz.prog hb (by rw [hVSl]; omega) h1v]
            refine hfin _ rfl rfl rfl (by simp) ?_ (fun b hb1 hb2 => setRow_other _ _ _ _ hb2)
            rw [setRow_heap _ _ us _ e (0, 0) hb]
            rw [show 0 + N * 11 = N * 11 by omega, hVSl, ← hCSe, List.take_take, Nat.min_self, List.drop_eq_nil_of_le («as» := us.toList.take (N * 11)) (by simp; omega), List.append_nil, show N * 11 + 1 * 11 = (N + 1) * 11 by omega]
          · have hcall := ins_shift (G.μ k) 0 n c N (G.μ kv) 0 1 vc CS VS w (by omega) (by omega) hroom hcm hμ hCSl hVSl hcsc (fun j hj => by rw [Nat.zero_add]; exact hcell _ (by omega)) (fun j hj => hfz _) hvsc h1c h1v ve e vu.size us.size
              (by simp [World.shape?, hvb]) (by simp [World.shape?, hb]) (by omega) (hvfz _) (hvfz _)
            refine .inl ⟨w, by kernel_rfl, hcall.mono fun e1 w' hh => ?_, rfl⟩
            obtain ⟨rfl, rfl⟩ := hh
            have hb0 : w.drew.heap[G.μ k]? = some (.cells us e (0, 0)) := hb
            have hdl : (CS.drop (N * 11)).length = (n - N) * 11 := by rw [List.length_drop, hCSl]; omega
            rw [setCells_row Tryz.prog hb0 (by rw [hdl]; omega) (fun v hv => h1c v (List.mem_of_mem_drop hv))]
            have hb1 := setRow_heap w.drew (G.μ k) us ((us.toList.take (0 + (N + 1) * 11) ++ CS.drop (N * 11) ++ us.toList.drop (0 + (N + 1) * 11 + (CS.drop (N * 11)).length)).toArray) e (0, 0) hb0
            rw [setCells_row Tryz.prog hb1 (by simp only [List.size_toArray, List.length_append, List.length_take, List.length_drop, Array.length_toList, hVSl, hCSl]; omega) h1v]
            refine hfin _ rfl rfl rfl (by simp) ?_ (fun b hb1 hb2 => by rw [setRow_other _ _ _ _ hb2, setRow_other _ _ _ _ hb2]; rfl)
            rw [setRow_heap _ _ _ _ e (0, 0) hb1]
            refine congrArg (fun l : List Value => some (Obj.cells l.toArray e (0, 0))) ?_
            simp only [List.append_assoc, hVSl, hdl]
            rw [show 0 + N * 11 + 1 * 11 = 0 + (N + 1) * 11 by omega]
            rw [List.take_append_of_le_length (by simp only [List.length_take, Array.length_toList]; omega), List.take_take, Nat.min_eq_left (by omega)]
            rw [List.drop_append_of_le_length (by simp only [List.length_take, Array.length_toList]; omega), List.drop_eq_nil_of_le («as» := us.toList.take _) (by simp only [List.length_take, Array.length_toList]; omega), List.nil_append, ← hCSe, List.take_take, Nat.min_eq_left (by omega), show 0 + N * 11 = N * 11 by omega,
              show 0 + (N + 1) * 11 + (n - N) * 11 = (n + 1) * 11 by omega]
        · -- a new block
          have hfin : ∀ (cap : Nat) (rest : List Value) w', n + 1 ≤ cap → cap ≤ 9223372036854775807 → ((CS.take (N * 11) ++ VS ++ CS.drop (N * 11)) ++ rest).length = cap * 11 → w'.os = w.os → w'.tape = w.tape → w'.output = w.output → w'.heap.size = w.heap.size + 1 → w'.heap[w.heap.size]? = some (.cells ((CS.take (N * 11) ++ VS ++ CS.drop (N * 11)) ++ rest).toArray 35 (0, 0)) →
              (∀ b, b < w.heap.size → w'.heap[b]? = w.heap[b]?) → PostOk Tryz.prog G w (.ret (.msl H.boxes.length 0 (n + 1) 11)) { H with boxes := H.boxes.set k [] ++ [cs.take (N * 11) ++ vsA ++ (cs.take (n * 11)).drop (N * 11)] } (.returned (.slice (some ⟨w.heap.size, 0, none⟩) (n + 1) cap)) w' := fun cap rest w' hc1 hc2 hc3 h1 h2 h3 h4 h5 h6 => by
            obtain ⟨s1, s2⟩ := box_made (hH.kill k) hX h1 h2 h3 h4 h5 h6
            rw [hc3] at s1 s2
            refine ⟨_, s1, s2, _, rfl, ?_⟩
            have := Rep.msl (G := G.box w.heap.size (cap * 11)) (w := w') G.nb 0 (n + 1) cap 11 ⟨by simp [Ghost.box], by simp [Ghost.box]⟩ hc1 hc2 (by decide) (by simp [Ghost.box])
            simp only [Ghost.box, if_pos] at this
            rw [← hH.nb]
            exact this
          have hcap1 : n + 1 ≤ grownCap w (n + 1) c 35 := grownCap_ge _ _ _ _
          have hcap2 : grownCap w (n + 1) c 35 ≤ 9223372036854775807 := grownCap_lt _ _ (by omega)
          generalize hgc : grownCap w (n + 1) c 35 = cap at hcap1 hcap2
          by_cases hend : N = n
          · subst hend
            have hcall := ins_end_grow (some ⟨G.μ k, 0, none⟩) N c (G.μ kv) 0 1 vc CS VS w i0 z hi0 hz0 hzs hzb (by omega) hnc (by omega) hbig hCSl hVSl (fun e => by cases e) (fun a ha j x hj => by
              simp only [Option.some.injEq] at ha
              subst ha
              rw [Addr.add_lit]
              exact hcsc j x hj) hvsc h1v
            rw [hgc] at hcall
            refine .inl ⟨w, by kernel_rfl, hcall.mono fun e1 w' hh => ?_, rfl⟩
            obtain ⟨rfl, rfl⟩ := hh
            have e0 : CS.take (N * 11) ++ VS ++ CS.drop (N * 11) = CS ++ VS := by rw [List.take_of_length_le (by omega), List.drop_eq_nil_of_le (by omega), List.append_nil]
            refine hfin cap (Builtin.zeroCells z.cells (cap - (N + 1))).toList _ hcap1 hcap2 (by
              rw [e0]
              simp only [List.length_append, Array.length_toList, size_zeroCells, hzc, hCSl, hVSl]; omega) rfl rfl rfl (by simp) ?_ (fun b hb1 => Below.heap_alloc _ _ _ hb1)
            show (w.drew.heap.push _)[w.drew.heap.size]? = _
            rw [Array.getElem?_push_size, e0, Array.toArray_append]
          · have hcall := ins_grow (G.μ k) 0 n c N (G.μ kv) 0 1 vc CS VS w i0 z hi0 hz0 hzs hzb hzc (by omega) (by omega) hnc (by omega) hbig hCSl hVSl hcsc hvsc h1c h1v
            rw [hgc] at hcall
            refine .inl ⟨w, by kernel_rfl, hcall.mono fun e1 w' hh => ?_, rfl⟩
            obtain ⟨rfl, rfl⟩ := hh
            have hdl : (CS.drop (N * 11)).length = (n - N) * 11 := by rw [List.length_drop, hCSl]; omega
            have htl : (CS.take (N * 11)).length = N * 11 := by rw [List.length_take, hCSl]; omega
            generalize hR0 : (CS.take (N * 11)).toArray ++ Builtin.zeroCells z.cells (n + 1 - N) ++ Builtin.zeroCells z.cells (cap - (n + 1)) = R0
            have hR0l : R0.toList = CS.take (N * 11) ++ ((Builtin.zeroCells z.cells (n + 1 - N)).toList ++ (Builtin.zeroCells z.cells (cap - (n + 1))).toList) := by rw [← hR0]; simp
            have hZ1 : (Builtin.zeroCells z.cells (n + 1 - N)).toList.length = (n + 1 - N) * 11 := by rw [Array.length_toList, size_zeroCells, hzc]
            have hZ2 : (Builtin.zeroCells z.cells (cap - (n + 1))).toList.length = (cap - (n + 1)) * 11 := by rw [Array.length_toList, size_zeroCells, hzc]
            generalize (Builtin.zeroCells z.cells (n + 1 - N)).toList = Z1 at hR0l hZ1
            have hR0s : R0.size = cap * 11 := by
              rw [← Array.length_toList, hR0l]
              simp only [List.length_append, htl, hZ1, hZ2]; omega
            have hb0 : (w.alloc (.cells R0 35)).drew.heap[w.heap.size]? = some (.cells R0 35 (0, 0)) := by
              show (w.heap.push _)[w.heap.size]? = _
              simp
            rw [setCells_row Tryz.prog hb0 (by rw [hVSl, hR0s]; omega) h1v]
            have hb1 := setRow_heap (w.alloc (.cells R0 35)).drew w.heap.size R0 ((R0.toList.take (N * 11) ++ VS ++ R0.toList.drop (N * 11 + VS.length)).toArray) 35 (0, 0) hb0
            rw [setCells_row Tryz.prog (w := ((w.alloc (.cells R0 35)).drew.setRow w.heap.size (R0.toList.take (N * 11) ++ VS ++ R0.toList.drop (N * 11 + VS.length)).toArray).drew) hb1 (by
              simp only [List.size_toArray, List.length_append, List.length_take, List.length_drop, Array.length_toList, hVSl, hR0s, hCSl]; omega) (fun v hv => h1c v (List.mem_of_mem_drop hv))]
            refine hfin cap (Builtin.zeroCells z.cells (cap - (n + 1))).toList _ hcap1 hcap2 (by
              simp only [List.length_append, hZ2, hdl, htl, hVSl]; omega) rfl rfl rfl (by simp) ?_ (fun b hb1 => by
                rw [setRow_other _ _ _ _ (by omega)]
                show ((w.alloc (.cells R0 35)).drew.setRow w.heap.size _).heap[b]? = _
                rw [setRow_other _ _ _ _ (by omega)]
                exact Below.heap_alloc _ _ _ hb1)
            rw [setRow_heap (((w.alloc (.cells R0 35)).drew.setRow w.heap.size (R0.toList.take (N * 11) ++ VS ++ R0.toList.drop (N * 11 + VS.length)).toArray).drew) _ _ _ 35 (0, 0) hb1]
            refine congrArg (fun l : List Value => some (Obj.cells l.toArray 35 (0, 0))) ?_
            simp only [hVSl, hdl, hR0l]
            have a1 : (CS.take (N * 11) ++ (Z1 ++ (Builtin.zeroCells z.cells (cap - (n + 1))).toList)).take (N * 11) = CS.take (N * 11) := by
              rw [List.take_append_of_le_length (by omega), List.take_of_length_le (by omega)]
            rw [a1]
            have a2 : (CS.take (N * 11) ++ VS ++ (CS.take (N * 11) ++ (Z1 ++ (Builtin.zeroCells z.cells (cap - (n + 1))).toList)).drop (N * 11 + 1 * 11)).take ((N + 1) * 11) = CS.take (N * 11) ++ VS := by
              rw [List.take_append_of_le_length (by simp only [List.length_append, htl, hVSl]; omega), List.take_of_length_le (by simp only [List.length_append, htl, hVSl]; omega)]
            rw [a2]
            refine congrArg (fun l : List Value => CS.take (N * 11) ++ VS ++ CS.drop (N * 11) ++ l) ?_
            have hx1 : (CS.take (N * 11) ++ VS).length = N * 11 + 1 * 11 := by simp only [List.length_append, htl, hVSl]
            have hx2 : (CS.take (N * 11) ++ Z1).length = N * 11 + 1 * 11 + (n - N) * 11 := by simp only [List.length_append, htl, hZ1]; omega
            rw [List.drop_append, hx1, List.drop_eq_nil_of_le (by rw [hx1]; omega), List.nil_append, List.drop_drop, ← List.append_assoc (CS.take (N * 11)) Z1, show N * 11 + 1 * 11 + ((N + 1) * 11 + (n - N) * 11 - (N * 11 + 1 * 11)) = (CS.take (N * 11) ++ Z1).length by omega, List.drop_append_length]
      · cases hg
    · cases hg
  · rename_i i kv ov m es2
    split at hg
    · rename_i vsA hvs
      split at hg
      · rename_i hc
        obtain ⟨rfl, rfl, rfl, rfl, hvl, hdv, hbig⟩ := hc
        simp only [Option.some.injEq, Prod.mk.injEq] at hg
        obtain ⟨rfl, rfl⟩ := hg
        obtain ⟨u0, u1, u2, rfl, r0, r1, r2⟩ := args_three hargs
        rw [int_inv r1]
        cases r2 with
        | msl _ _ _ vc _ hkv hvnc hvcm _ hvcap =>
        obtain ⟨hltv, hvs'⟩ := List.getElem?_eq_some_iff.1 hvs
        obtain ⟨vu, ve, hvb, ⟨hvsz, hvmc⟩, hvrep⟩ := hH.box kv hltv hkv.2
        rw [hvs'] at hvsz hvrep
        have hVS : ARep G w (vu.toList.take 11) vsA := ⟨by simp; omega, fun j j1 j2 => by
          simp only [List.getElem_take, Array.getElem_toList]
          exact hvrep j (by simp at j1; omega) j2⟩
        have h1v := alls hdv hVS
        have hVSl : (vu.toList.take 11).length = 1 * 11 := by rw [List.length_take, Array.length_toList]; omega
        have hvsc : ∀ j x, (vu.toList.take 11)[j]? = some x → w.cell? ⟨G.μ kv, 0 + j, none⟩ = some x := fun j x hj => by
          rw [List.getElem?_take] at hj
          split at hj
          · rw [Array.getElem?_toList] at hj
            simp [World.cell?, hvb, hj]
          · cases hj
        generalize hVSe : vu.toList.take 11 = VS at hVS hVSl hvsc h1v
        cases r0 with
        | sl _ _ _ _ _ _ hl => exact absurd rfl hl
        | sl0 a c _ hc0 _ =>
        have : c = 0 := hc0 rfl
        subst this
        have hcall := ins_end_grow a 0 0 (G.μ kv) 0 1 vc [] VS w i0 z hi0 hz0 hzs hzb (by omega) (by omega) (by omega) (by omega) rfl hVSl (fun _ => rfl) (fun _ _ _ _ hj => by simp at hj) hvsc h1v
        have hcap1 : 0 + 1 ≤ grownCap w (0 + 1) 0 35 := grownCap_ge _ _ _ _
        have hcap2 : grownCap w (0 + 1) 0 35 ≤ 9223372036854775807 := grownCap_lt _ _ (by omega)
        generalize hgc : grownCap w (0 + 1) 0 35 = cap at hcap1 hcap2 hcall
        refine .inl ⟨w, by kernel_rfl, hcall.mono fun e1 w' hh => ?_, rfl⟩
        obtain ⟨rfl, rfl⟩ := hh
        have hl0 : (VS ++ (Builtin.zeroCells z.cells (cap - (0 + 1))).toList).length = cap * 11 := by
          simp only [List.length_append, Array.length_toList, size_zeroCells, hzc, hVSl]; omega
        obtain ⟨s1, s2⟩ := box_made (e := 35) (rest := (Builtin.zeroCells z.cells (cap - (0 + 1))).toList) (w' := w.drew.alloc (.cells (([] ++ VS).toArray ++ Builtin.zeroCells z.cells (cap - (0 + 1))) 35)) hH hVS rfl rfl rfl (by simp) (by
          show (w.drew.heap.push _)[w.drew.heap.size]? = _
          rw [Array.getElem?_push_size, List.nil_append, Array.toArray_append]) (fun b hb1 => Below.heap_alloc _ _ _ hb1)
        rw [hl0] at s1 s2
        refine ⟨_, s1, s2, _, rfl, ?_⟩
        have := Rep.msl (G := G.box w.heap.size (cap * 11)) (w := w.drew.alloc (.cells (([] ++ VS).toArray ++ Builtin.zeroCells z.cells (cap - (0 + 1))) 35)) G.nb 0 (0 + 1) cap 11 ⟨by simp [Ghost.box], by simp [Ghost.box]⟩ hcap1 hcap2 (by decide) (by simp [Ghost.box])
        simp only [Ghost.box, if_pos] at this
        rw [← hH.nb]
        exact this
      · cases hg
    · cases hg
  · cases hg
end Go.Aa.T
set_option linter.unusedVariables false
set_option linter.unusedSimpArgs false
set_option maxRecDepth 100000
namespace Go.Aa.T
open Go.Aa Go.Proofs Go.RowKit Go.Shelf
theorem cfgOk:CfgOk Tryz.prog cfg:=by
 refine⟨by kernel_rfl,fun f A h=>tab_fn h,fun f g h=> ?_,fun f h=> ?_⟩
 ·have h:extF f=some g:=h
  unfold extF at h
  split at h<;>simp only[Option.some.injEq,reduceCtorEq]at h<;>subst h
  ·exact ext_trim (fun _ _=>by kernel_rfl) fun s c w h1 h2 h3=>Any.strings_Trim_laid Tryz.lays160 (by kernel_rfl) s c w h1 h2 h3
  ·exact ext_cmp (fun _ _=>by kernel_rfl) fun a b w=>Any.strings_Compare Tryz.lays106 a b w
  ·exact ext_sort (fun _ _=>by kernel_rfl) (fun a c w=>Any.slices_Sort_string_none Tryz.lays190 a c w) fun blk off cap ss w h1 h2 h3=>Any.slices_Sort_string Tryz.lays190 blk off cap ss w h1 h2 h3
  ·exact ext_ins
  ·exact ext_clone
 ·have h:(f==77)=true:=h
  have:f=77:=by simpa using h
  subst this
  exact Go.Proofs.YtjoblbpgpmknmaaGreatDoor.T.tryOk
#print axioms cfgOk
end Go.Aa.T
set_option linter.unusedVariables false
set_option linter.unusedSimpArgs false
namespace Go.Aa
variable{P:Program}{R:List (Nat×Nat)}
def rkOf(R:List (Nat×Nat))(u:Nat):Option Nat:=(R.find? fun p=>p.1==u).map (·.2)
def rkB(P:Program)(R:List (Nat×Nat)):Bool:=R.all fun p=>(P.partsOf p.1).all fun v=>match rkOf R v with
 |some r=>Nat.blt r p.2
 |none=>false
theorem rk_part(h:rkB P R=true){u ru v:Nat}(hu:rkOf R u=some ru)(hv:v∈P.partsOf u):∃r,rkOf R v=some r∧r<ru:=by
 unfold rkOf at hu
 obtain⟨p,hp,rfl⟩:=Option.map_eq_some_iff.1 hu
 have hm:=List.mem_of_find?_eq_some hp
 have he:=List.find?_some hp
 simp only[beq_iff_eq]at he
 have h1:=List.all_eq_true.1 h p hm
 rw[he]at h1
 have h2:=List.all_eq_true.1 h1 v hv
 split at h2
 ·rename_i r hr
  exact⟨r,hr,by simpa using h2⟩
 ·cases h2
theorem rk_grow(h:rkB P R=true){s:List TypeId}{r:Nat}(hs:∀x∈s,∃q,rkOf R x=some q∧q≤r):∀x∈P.grow s,∃q,rkOf R x=some q∧q≤r:=by
 intro x hx
 unfold Program.grow at hx
 rw[List.mem_eraseDups,List.mem_append]at hx
 rcases hx with hx|hx
 ·exact hs x hx
 ·obtain⟨u,hu,hx⟩:=List.mem_flatMap.1 hx
  obtain⟨q,hq,hl⟩:=hs u hu
  obtain⟨q',hq',hl'⟩:=rk_part h hq hx
  exact⟨q',hq',by omega⟩
theorem rk_grown(h:rkB P R=true){r:Nat}:∀(n:Nat){s:List TypeId},(∀x∈s,∃q,rkOf R x=some q∧q≤r)→∀x∈P.grown n s,∃q,rkOf R x=some q∧q≤r
 |0,_,hs=>hs
 |n+1,_,hs=>rk_grown h n (rk_grow h hs)
theorem rk_book(h:rkB P R=true){t r:Nat}(ht:rkOf R t=some r):∀x∈P.book t,∃q,rkOf R x=some q∧q≤r:=
 rk_grown h _ fun x hx=>by
  rw[List.mem_singleton]at hx
  subst hx
  exact⟨r,ht,Nat.le_refl _⟩
theorem rk_loops(h:rkB P R=true){t r:Nat}(ht:rkOf R t=some r):P.loopsFrom t=false:=by
 unfold Program.loopsFrom
 rw[List.any_eq_false]
 intro u hu
 obtain⟨ru,hu1,-⟩:=rk_book h ht u hu
 simp only[Bool.not_eq_true]
 rw[List.any_eq_false]
 intro v hv
 obtain⟨rv,hv1,hlt⟩:=rk_part h hu1 hv
 intro hc
 have hm:u∈P.book v:=by simpa using hc
 obtain⟨q,hq,hl⟩:=rk_book h hv1 u hm
 rw[hu1]at hq
 simp only[Option.some.injEq]at hq
 omega
theorem rk_all(h:rkB P R=true){ts:List TypeId}(ht:(ts.all fun t=>(rkOf R t).isSome)=true):ts.any (P.loopsFrom ·)=false:=by
 rw[List.any_eq_false]
 intro t hm
 have:=List.all_eq_true.1 ht t hm
 obtain⟨r,hr⟩:=Option.isSome_iff_exists.1 this
 rw[rk_loops h hr]
 exact Bool.false_ne_true
end Go.Aa
