/- Appends of whole lists, one behind another, in a region whose order is open. Conditions: those that each names. -/
import Derived.Test.YteafmomjfnlkgaaGreatLt
set_option linter.unusedVariables false
set_option linter.defProp false
namespace Go.Av
section
variable {lvl m p by_:Nat} {G:Id->Option ax} {all:List Oper} {e:Env}
theorem MH{d:Tmp}{id id2:Id}{k mm:Nat}{c1 c2:List AV}{rw2:Bool}(hl:c2.length=mm)(ho:c2.all AV.one=true)(hG:(G id).isNone=true)(hy:Cc id (k+mm) (e.get d)=true)(h3:k+mm≤140737488355328)(h4:(k+mm)*by_≤140737488355328)
    (hc:(id.1 != lvl || (List.range m).all λj=>((all[j]?).bind (·.dst)) != some id.2.1 || lJ all p j)=true) (hc2:(id2.1 != lvl || (List.range m).all λj=>((all[j]?).bind (·.dst)) != some id2.2.1 || lJ all p j)=true):
    xH lvl G m p all e d 1 by_ id k k id2 0 mm mm (.sl true true 1 k c1) (.sl true rw2 1 mm c2)=some (id,.sl true true 1 (k+mm) (c1++c2)):=by
  simp only[Ht]at hc hc2
  have w1:rU lvl m p all id=true:=hc
  have w2:rU lvl m p all id2=true:=hc2
  unfold xH D6
  simp only[hG,w1,w2,hy,Bool.and_self]
  have hcut:cut c2 0 mm 1 mm=c2:=by simp[cut]
  rw[hcut,if_pos ⟨trivial,trivial,trivial,trivial,trivial,trivial,by omega,h3,h4,ho⟩]
theorem aMb{d:Tmp}{id id2:Id}{mm:Nat}{kk:IntKind}{l2:List Int}{rw2:Bool}(hl:mm=l2.length)(hG:(G id).isNone=true)(hy:e.get d=some (.own id 0 mm mm))(h3:mm≤140737488355328)(h4:mm*by_≤140737488355328)
    (hc:(id.1 != lvl || (List.range m).all λj=>((all[j]?).bind (·.dst)) != some id.2.1 || lJ all p j)=true) (hc2:(id2.1 != lvl || (List.range m).all λj=>((all[j]?).bind (·.dst)) != some id2.2.1 || lJ all p j)=true):
    xH lvl G m p all e d 1 by_ id 0 0 id2 0 mm mm (.sl true true 1 0 []) (.sl true rw2 1 mm (lm (ik kk) l2))=some (id,.sl true true 1 mm (lm (ik kk) l2)):=by
  rw[MH (by simp[lm,hl]) Lj hG (by rw[hy,Nat.zero_add,G8]) (by omega) (by rw[Nat.zero_add];exact h4) hc hc2]
  simp
theorem aKh{d:Tmp}{id id2:Id}{mm:Nat}{l2:List Bool}{rw2:Bool}(hl:mm=l2.length)(hG:(G id).isNone=true)(hy:e.get d=some (.own id 0 mm mm))(h3:mm≤140737488355328)(h4:mm*by_≤140737488355328)
    (hc:(id.1 != lvl || (List.range m).all λj=>((all[j]?).bind (·.dst)) != some id.2.1 || lJ all p j)=true) (hc2:(id2.1 != lvl || (List.range m).all λj=>((all[j]?).bind (·.dst)) != some id2.2.1 || lJ all p j)=true):
    xH lvl G m p all e d 1 by_ id 0 0 id2 0 mm mm (.sl true true 1 0 []) (.sl true rw2 1 mm (lm bk l2))=some (id,.sl true true 1 mm (lm bk l2)):=by
  rw[MH (by simp[lm,hl]) Qz hG (by rw[hy,Nat.zero_add,G8]) (by omega) (by rw[Nat.zero_add];exact h4) hc hc2]
  simp
theorem aE8{d:Tmp}{id id2:Id}{k mm:Nat}{kk:IntKind}{l l2:List Int}{rw2:Bool}(hl:mm=l2.length)(hG:(G id).isNone=true)(hy:e.get d=some (.own id 0 (k+mm) (k+mm)))(h3:k+mm≤140737488355328)(h4:(k+mm)*by_≤140737488355328)
    (hc:(id.1 != lvl || (List.range m).all λj=>((all[j]?).bind (·.dst)) != some id.2.1 || lJ all p j)=true) (hc2:(id2.1 != lvl || (List.range m).all λj=>((all[j]?).bind (·.dst)) != some id2.2.1 || lJ all p j)=true):
    xH lvl G m p all e d 1 by_ id k k id2 0 mm mm (.sl true true 1 k (lm (ik kk) l)) (.sl true rw2 1 mm (lm (ik kk) l2))=some (id,.sl true true 1 (k+mm) (lm (ik kk) (l++l2))):=by
  rw[MH (by simp[lm,hl]) Lj hG (by rw[hy,G8]) h3 h4 hc hc2]
  simp[lm]
theorem aFc{d:Tmp}{id id2:Id}{k mm:Nat}{l l2:List Bool}{rw2:Bool}(hl:mm=l2.length)(hG:(G id).isNone=true)(hy:e.get d=some (.own id 0 (k+mm) (k+mm)))(h3:k+mm≤140737488355328)(h4:(k+mm)*by_≤140737488355328)
    (hc:(id.1 != lvl || (List.range m).all λj=>((all[j]?).bind (·.dst)) != some id.2.1 || lJ all p j)=true) (hc2:(id2.1 != lvl || (List.range m).all λj=>((all[j]?).bind (·.dst)) != some id2.2.1 || lJ all p j)=true):
    xH lvl G m p all e d 1 by_ id k k id2 0 mm mm (.sl true true 1 k (lm bk l)) (.sl true rw2 1 mm (lm bk l2))=some (id,.sl true true 1 (k+mm) (lm bk (l++l2))):=by
  rw[MH (by simp[lm,hl]) Qz hG (by rw[hy,G8]) h3 h4 hc hc2]
  simp[lm]
end
def RUb:=And.intro @aMb<|And.intro @aKh<|And.intro @aE8 @aFc
end Go.Av
