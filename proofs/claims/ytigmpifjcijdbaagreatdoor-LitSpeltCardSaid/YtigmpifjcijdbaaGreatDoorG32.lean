/- Layer 5: the document's Value, of any text. -/
import Derived.Test.YtigmpifjcijdbaaGreatDoorG29
import Derived.Test.YtigmpifjcijdbaaGreatDoorG30
import Derived.Test.YtigmpifjcijdbaaGreatDoorG31
namespace Go.Proofs.YtigmpifjcijdbaaGreatDoor
set_option linter.unusedVariables false
set_option linter.unusedSimpArgs false
open Go.RowKit Verge
theorem drop_mid (P e:List UInt8) (p:UInt8):(P++p::e).drop (P.length+1)=e:=by
 rw [show P++p::e=(P++[p])++e by simp,show P.length+1=(P++[p]).length by simp,List.drop_left]
theorem head_pt {a:List UInt8} {b:Option (List UInt8)} (ha:∀c∈a,isD c=true) (hab:a++ob b≠[]) (e:List UInt8):∃c0,(a++pt b++e)[0]?=some c0∧¬(c0.toNat=43∨c0.toNat=45):=by
 cases a with
 | cons c r =>
  refine ⟨c,by simp,?_⟩
  have:=isD_iff.1 (ha c List.mem_cons_self)
  omega
 | nil =>
  cases b with
  | none=>exact absurd rfl hab
  | some b=>exact ⟨46,by simp [pt],by decide⟩
theorem sg_len (l:List UInt8) {pre:List UInt8} (h:l=pre++(sg l).2):l.length=pre.length+(sg l).2.length:=by
 have:=congrArg List.length h
 rw [List.length_append] at this
 exact this
theorem val5_any (l:List UInt8) (hl:l.length≤140737488355328) (w:World):Calls Tryz.prog 5 #[.string (bs l)] w (Ans w (IsVal (scn l))):=by
  unfold scn
  by_cases hL:4096<l.length
  · rw [if_pos hL];exact value5_long l hL hl w
  · rw [if_neg hL]
    have hag:=cut_agree l
    cases hc:cut l with
    | error k =>
      rw [hc] at hag
      cases hf:frm (run 0 l) with
      | ok s=>rw [hf] at hag;exact hag.elim
      | error j =>
        rw [hf] at hag
        have hjk:j=k:=hag
        subst hjk
        exact value5_bad l (by omega) j hf w
    | ok np =>
      obtain ⟨n,p⟩:=np
      rw [hc] at hag
      cases hf:frm (run 0 l) with
      | error j=>rw [hf] at hag;exact hag.elim
      | ok s =>
        rw [hf] at hag
        have hst:p.st s:=hag
        obtain ⟨hn,hok⟩:=cut_ok hc
        obtain ⟨pre,hpre,hl2,hsg⟩:=sg_pre l
        have hng:n=decide (pre=[45]):=hn.trans hsg
        have hln:=sg_len l hl2
        generalize (sg l).2=T at *
        subst hl2
        clear hag hc hn hsg hl
        have hl4:pre.length+T.length≤4096:=by omega
        dsimp only
        rw [hln]
        clear hL hln
        cases p with
        | hx a b e =>
          obtain ⟨z0,x0,p0,hz0,hx0,hp0,hT,ha,hb,hab,he0,hed⟩:=hok
          have hTe:T=(z0::x0::(a++pt b))++p0::e:=by rw [hT];simp
          have hP:∀c∈z0::x0::(a++pt b),c∉[(112:UInt8),80]:=by
            intro c hc
            rcases List.mem_cons.1 hc with rfl | hc
            · intro h;simp at h;rcases h with rfl | rfl <;> simp at hz0
            · rcases List.mem_cons.1 hc with rfl | hc
              · intro h;simp at h;rcases h with rfl | rfl <;> simp at hx0
              · rcases List.mem_append.1 hc with hc | hc
                · exact d_not (by decide) (ha c hc)
                · exact pt_not (fun d hd=>d_not (by decide) (hb d hd)) (by decide) c hc
          have hq:fnd [112,80] T=((z0::x0::(a++pt b)).length:Int):=by
            rw [hTe];exact fnd_app hP (u8_mem (by rcases hp0 with h | h;exact .inl h;exact .inr h))
          have hdr:T.drop ((z0::x0::(a++pt b)).length+1)=e:=by rw [hTe];exact drop_mid _ _ _
          have htk:T.take (z0::x0::(a++pt b)).length=z0::x0::(a++pt b):=by rw [hTe];exact List.take_left
          have hTl:T.length=(z0::x0::(a++pt b)).length+1+e.length:=by
            have:=congrArg List.length hTe
            rw [List.length_append,List.length_cons (a:=p0)] at this
            omega
          have hfrm:∃s,(fun s=>s=17) s∧frm (run 0 (pre++T))=.ok s:=⟨s,hst,hf⟩
          have hc0:T[0]?=some z0:=by rw [hT];rfl
          by_cases hlate:9999<numB 10 (sg e).2
          · have hlt:(Pc.hx a b e).late=some ((sg e).2.length,51):=if_pos hlate
            rw [hlt]
            exact value5_hxlate pre T hpre hl4 z0 hc0 (by omega) hfrm _ e [] 0 hq (by simp) hTl hdr he0 hed hlate w
          · have hlt:(Pc.hx a b e).late=none:=if_neg hlate
            rw [hlt]
            refine value5_hx pre T hpre hl4 z0 hc0 (by omega) hfrm _ e (a++ob b) (ob b).length hq (by simp) hTl hdr he0 hed n hng hlate ?_ ?_ w
            · rw [htk]
              exact filt_pt (q:=16) ha hb
            · rw [htk]
              have:=behind_pt (a:=z0::x0::a) (b:=b) (by
                intro c hc
                rcases List.mem_cons.1 hc with rfl | hc
                · intro h;simp at h;subst h;simp at hz0
                · rcases List.mem_cons.1 hc with rfl | hc
                  · intro h;simp at h;subst h;simp at hx0
                  · exact d_not (by decide) (ha c hc))
              exact this
        | fr a d =>
          obtain ⟨s0,hs0,hT,ha,ha0,hd0,hd⟩:=hok
          have hq:fnd [47] T=(a.length:Int):=by
            rw [hT];exact fnd_app (fun c hc=>d_notD (by decide) (ha c hc)) (by rw [UInt8.toNat_inj.1 (show s0.toNat=(47:UInt8).toNat from hs0)];simp)
          have hdr:T.drop (a.length+1)=d:=by rw [hT];exact drop_mid _ _ _
          have htk:T.take a.length=a:=by rw [hT];exact List.take_left
          have hTl:T.length=a.length+1+d.length:=by rw [hT];simp;omega
          have hfrm:∃s,(fun s=>s=10) s∧frm (run 0 (pre++T))=.ok s:=⟨s,hst,hf⟩
          obtain ⟨c0,hc0,hc0n⟩:∃c0,T[0]?=some c0∧¬(c0.toNat=43∨c0.toNat=45):=by
            rw [hT]
            have:=head_pt (b:=none) ha (by simpa [ob] using ha0) (s0::d)
            simpa [pt] using this
          have f1:a.filter (dgs 10)=a:=filt_all ha
          have f2:d.filter (dgs 10)=d:=filt_all hd
          by_cases hz:numB 10 d=0
          · have hlt:(Pc.fr a d).late=some (d.length,50):=if_pos hz
            rw [hlt]
            exact value5_frzero pre T hpre hl4 c0 hc0 hc0n hfrm _ a d hq hTl hdr htk f1 f2 hz w
          · have hlt:(Pc.fr a d).late=none:=if_neg hz
            rw [hlt]
            exact value5_fr pre T hpre hl4 c0 hc0 hc0n hfrm _ a d hq hTl hdr htk f1 f2 n hng (by omega) w
        | dc a b e =>
          cases e with
          | some e =>
            obtain ⟨p0,hp0,hT,ha,hb,hab,he0,hed⟩:=hok
            have hP:∀c∈a++pt b,c∉[(101:UInt8),69]:=by
              intro c hc
              rcases List.mem_append.1 hc with hc | hc
              · exact d_notD (by decide) (ha c hc)
              · exact pt_not (fun d hd=>d_notD (by decide) (hb d hd)) (by decide) c hc
            have hq:fnd [101,69] T=((a++pt b).length:Int):=by
              rw [hT];exact fnd_app hP (u8_mem (by rcases hp0 with h | h;exact .inl h;exact .inr h))
            have hdr:T.drop ((a++pt b).length+1)=e:=by rw [hT];exact drop_mid _ _ _
            have htk:T.take (a++pt b).length=a++pt b:=by rw [hT];exact List.take_left
            have hTl:T.length=(a++pt b).length+1+e.length:=by
              have:=congrArg List.length hT
              rw [List.length_append,List.length_cons (a:=p0)] at this
              omega
            have hfrm:∃s,(fun s=>s=8) s∧frm (run 0 (pre++T))=.ok s:=⟨s,hst,hf⟩
            obtain ⟨c0,hc0,hc0n⟩:∃c0,T[0]?=some c0∧¬(c0.toNat=43∨c0.toNat=45):=by
              rw [hT];exact head_pt ha hab _
            have f1:(T.take (a++pt b).length).filter (dgs 10)=a++ob b:=by rw [htk];exact filt_pt (q:=10) ha hb
            have f2:=behind_pt (a:=a) (b:=b) (fun c hc=>d_notD (by decide) (ha c hc))
            rw [←htk] at f2
            by_cases hlate:9999<numB 10 (sg e).2
            · have hlt:(Pc.dc a b (some e)).late=some ((sg e).2.length,51):=if_pos hlate
              rw [hlt]
              exact value5_dclate pre T hpre hl4 c0 hc0 hc0n hfrm _ e [] 0 hq hTl hdr he0 hed hlate w
            · have hlt:(Pc.dc a b (some e)).late=none:=if_neg hlate
              rw [hlt]
              by_cases hsx:xvl e - ((ob b).length:Int)<0
              · exact value5_dcneg pre T hpre hl4 c0 hc0 hc0n hfrm _ e (a++ob b) (ob b).length hq hTl hdr he0 hed n hng hlate f1 f2 _ rfl hsx w
              · exact value5_dcpos pre T hpre hl4 c0 hc0 hc0n hfrm _ e (a++ob b) (ob b).length hq hTl hdr he0 hed n hng hlate f1 f2 _ rfl hsx w
          | none =>
            obtain ⟨hT,ha,hb,hab⟩:=hok
            have hfrm:∃s,(fun s=>s=2∨s=3∨s=5) s∧frm (run 0 (pre++T))=.ok s:=by
              refine ⟨s,?_,hf⟩
              cases b with
              | none => rcases hst with h | h
                        · exact .inl h
                        · exact .inr (.inl h)
              | some b=>exact .inr (.inr hst)
            obtain ⟨c0,hc0,hc0n⟩:∃c0,T[0]?=some c0∧¬(c0.toNat=43∨c0.toNat=45):=by
              have:=head_pt ha hab []
              rw [hT];simpa using this
            have f1:T.filter (dgs 10)=a++ob b:=by rw [hT];exact filt_pt (q:=10) ha hb
            have f2:=behind_pt (a:=a) (b:=b) (fun c hc=>d_notD (by decide) (ha c hc))
            rw [←hT] at f2
            have hlt:(Pc.dc a b none).late=none:=rfl
            have hten:Pc.ten b none = -((ob b).length:Int):=by unfold Pc.ten;simp
            rw [hlt]
            dsimp only
            unfold Pc.num Pc.den Pc.two
            dsimp only
            rw [hten]
            by_cases hsx : -((ob b).length:Int)<0
            · exact value5_dnneg pre T hpre hl4 c0 hc0 hc0n hfrm (a++ob b) (ob b).length n hng f1 f2 _ rfl hsx w
            · exact value5_dnpos pre T hpre hl4 c0 hc0 hc0n hfrm (a++ob b) (ob b).length n hng f1 f2 _ rfl hsx w
end Go.Proofs.YtigmpifjcijdbaaGreatDoor
