/- The closed facts of a row, in groups. Made by a program of mine. Conditions: none. -/
import Derived.Test.YtiagecndhhinfaaGreatRows
import Derived.Test.YtiagecndhhinfaaGreatBu
set_option linter.unusedVariables false
namespace Go.Proofs.YtiagecndhhinfaaGreat
open Go.ChangeShapes Go.WideShapes Go.ChangeAt Go.RowKit Go.Av
theorem ai{a b:Bool}(h:a=true)(k:b=true):(a&&b)=true:=by rw[h,k];rfl
theorem ao{a b:Bool}(h:(a&&b)=true):a=true/\b=true:=by simpa using h
theorem g0:((Rows.movesNothingUptoRow.wf (OpenSpec.ofChange ((Rows.OpenSpec.upto Rows.movesNothingSpec).bare)))&&((laidOutB Tryz.checked.prog)&&((mapsRowed Tryz.checked.prog)&&((Tryz.f4.params.all (Tryz.checked.prog.readableRec ·))&&((namedTie Tryz.checked.prog Rows.movesNothingUptoRow.named (Rows.OpenSpec.upto Rows.movesNothingSpec).bare.vars)&&((Rows.movesNothingUptoRow.stops==[])&&((Tryz.checked.prog.stops==[])&&((Rows.movesNothingUptoRow.knobs==[])&&((Tryz.checked.prog.stopKnobs==[]))))))))))=true:=by kernel_rfl
theorem g1:((Rows.movesNothingUptoRow.inPlace==Tryz.checked.prog.inPlace 4)&&((Rows.movesNothingUptoRow.unfollowed==Tryz.checked.prog.unfollowed 4)&&((Rows.movesNothingUptoRow.recurses==Tryz.checked.prog.recurses 4)&&((Rows.movesNothingUptoRow.named==Tryz.checked.prog.varsNamed 4)))))=true:=by kernel_rfl
theorem g2:((Rows.movesNothingUptoRow.maps==(Tryz.f4.params.toList++(Rows.OpenSpec.upto Rows.movesNothingSpec).bare.plain.varTypes Tryz.checked.prog).any (Tryz.checked.prog.mapsRec ·))&&((Rows.movesNothingUptoRow.ifaces==(Tryz.f4.params.toList++(Rows.OpenSpec.upto Rows.movesNothingSpec).bare.plain.varTypes Tryz.checked.prog).any (Tryz.checked.prog.ifacesRec ·))&&((Rows.movesNothingUptoRow.mapsOut==Tryz.checked.prog.mapsAmong Tryz.f4.resultTypes.toList)&&((Rows.movesNothingUptoRow.loops==(Tryz.f4.params.toList++(Rows.OpenSpec.upto Rows.movesNothingSpec).bare.plain.varTypes Tryz.checked.prog).any (Tryz.checked.prog.loopsFrom ·))&&((Rows.movesNothingUptoRow.wideKeys==(Tryz.f4.params.toList++(Rows.OpenSpec.upto Rows.movesNothingSpec).bare.plain.varTypes Tryz.checked.prog++Tryz.f4.resultTypes.toList).any (Tryz.checked.prog.wideKeysFrom ·))&&((Rows.OpenSpec.upto Rows.movesNothingSpec).bare.vars.all (Tryz.checked.prog.varReadable ·)))))))=true:=by kernel_rfl
theorem g3:((Tryz.f4.resultTypes.all (λt=>Tryz.checked.prog.readableRec t&&decide (t<Tryz.checked.prog.types.size)))&&((Rows.movesNothingUptoRow.ifacesOut==Tryz.f4.resultTypes.toList.any (Tryz.checked.prog.ifacesRec ·))&&((Rows.movesNothingUptoRow.loopsOut==Tryz.f4.resultTypes.toList.any (Tryz.checked.prog.loopsFrom ·))&&((Rows.movesNothingUptoRow.plainKeys==Tryz.checked.prog.plainKeys)&&((Rows.movesNothingUptoRow.shortTexts.isNone)&&((Tryz.checked.prog.stopsHeard)&&((Tryz.checked.prog.mayEnter)&&((Rows.movesNothingUptoRow.lifted==Tryz.checked.prog.liftsFinal)&&((Tryz.checked.prog.make==some Rows.movesNothingUptoRow.make))))))))))=true:=by kernel_rfl
theorem g4:((Rows.movesNothingUptoRow.kinds==(if Rows.movesNothingUptoRow.domain.isEmpty then []else Tryz.f4.params.toList.map λt=>match Tryz.checked.prog.underlying t with|some (.int k)=>some k|_=>none))&&((Rows.movesNothingUptoRow.pinned==Rows.movesNothingUptoRow.pinnedBy)&&((Rows.movesNothingUptoRow.veiled==(Tryz.f4.params.toList++(Rows.OpenSpec.upto Rows.movesNothingSpec).bare.plain.varTypes Tryz.checked.prog++Tryz.f4.resultTypes.toList).any (Tryz.checked.prog.veiledRec ·))&&(Rows.movesNothingUptoRow.veiledFits Tryz.checked.prog Tryz.f4.params.toList (Tryz.f4.params.toList++(Rows.OpenSpec.upto Rows.movesNothingSpec).bare.plain.varTypes Tryz.checked.prog++Tryz.f4.resultTypes.toList)))))=true:=by kernel_rfl
set_option maxRecDepth 100000 in
theorem joined:joinedFacts Tryz.checked.prog 4 Tryz.f4 ((Rows.OpenSpec.upto Rows.movesNothingSpec).bare) Rows.movesNothingUptoRow=true:=by
  obtain⟨p0,h0⟩:=ao g0
  obtain⟨p1,h1⟩:=ao h0
  obtain⟨p2,h2⟩:=ao h1
  obtain⟨p3,h3⟩:=ao h2
  obtain⟨p4,h4⟩:=ao h3
  obtain⟨p5,h5⟩:=ao h4
  obtain⟨p6,h6⟩:=ao h5
  obtain⟨p7,h7⟩:=ao h6
  have p8:=h7
  obtain⟨p9,h9⟩:=ao g1
  obtain⟨p10,h10⟩:=ao h9
  obtain⟨p11,h11⟩:=ao h10
  have p12:=h11
  obtain⟨p13,h13⟩:=ao g2
  obtain⟨p14,h14⟩:=ao h13
  obtain⟨p15,h15⟩:=ao h14
  obtain⟨p16,h16⟩:=ao h15
  obtain⟨p17,h17⟩:=ao h16
  have p18:=h17
  obtain⟨p19,h19⟩:=ao g3
  obtain⟨p20,h20⟩:=ao h19
  obtain⟨p21,h21⟩:=ao h20
  obtain⟨p22,h22⟩:=ao h21
  obtain⟨p23,h23⟩:=ao h22
  obtain⟨p24,h24⟩:=ao h23
  obtain⟨p25,h25⟩:=ao h24
  obtain⟨p26,h26⟩:=ao h25
  have p27:=h26
  obtain⟨p28,h28⟩:=ao g4
  obtain⟨p29,h29⟩:=ao h28
  obtain⟨p30,h30⟩:=ao h29
  have p31:=h30
  exact ai (ai (ai (ai (ai (ai (ai (ai (ai (ai (ai (ai (ai (ai (ai (ai (ai (ai (ai (ai (ai (ai (ai (ai (ai (ai (ai (ai (ai (ai (ai (p0) p1) p2) p3) p4) p5) p6) p7) p8) p9) p10) p11) p12) p13) p14) p15) p16) p17) p18) p19) p20) p21) p22) p23) p24) p25) p26) p27) p28) p29) p30) p31
end Go.Proofs.YtiagecndhhinfaaGreat
