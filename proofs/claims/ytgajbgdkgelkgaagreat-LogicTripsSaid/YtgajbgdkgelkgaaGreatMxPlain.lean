/- Layer 8, plain: which matrices are right, by the program. -/
import Derived.Test.YtgajbgdkgelkgaaGreatG01
namespace Go.Proofs.YtgajbgdkgelkgaaGreat

def letB (c : UInt8) : Bool := (decide (97 ≤ c.toNat) && decide (c.toNat ≤ 122)) || (decide (48 ≤ c.toNat) && decide (c.toNat ≤ 57))
def wordB (s : ByteArray) : Bool := decide (1 ≤ s.size) && decide (s.size ≤ 16) && s.data.toList.all letB
def hexB (c : UInt8) : Bool := (decide (48 ≤ c.toNat) && decide (c.toNat ≤ 57)) || (decide (97 ≤ c.toNat) && decide (c.toNat ≤ 102))
def keyedB (s : ByteArray) : Bool := decide (s.size = 16) && s.data.toList.all hexB
def wiB (v a b : Int) : Bool := decide (a ≤ v) && decide (v ≤ b)
/-- Two of a list are one: the first i of it, each with those ahead of it. -/
def oneAt {α : Type} (one : α → α → Bool) (l : List α) (k j : Nat) : Bool := match l[j]?, l[k]? with | some x, some y => one x y | _, _ => false
def twinsTo {α : Type} (one : α → α → Bool) (l : List α) (i : Nat) : Bool := (List.range i).any fun k => (List.range k).any (oneAt one l k)
def twinsB {α : Type} (one : α → α → Bool) (l : List α) : Bool := twinsTo one l l.length
def strEq (a b : ByteArray) : Bool := a.toList == b.toList
def picksB (l : List Int) (most many : Int) : Bool := wiB l.length 1 most && l.all (fun i => wiB i 0 (many - 1)) && !twinsB (fun a b => a == b) l
def timesB (m : Mx) : Bool := wiB m.rt 0 7 && wiB m.wt 1 1000 && wiB m.bk 0 1000 && wiB m.cy 1 1000
def namesOf (m : Mx) : List ByteArray := m.dvs.map Dv.nm ++ m.pts.map Pt.nm ++ m.cas.map Ca.nm ++ m.efs.map Ef.nm
def namedB (m : Mx) : Bool := (namesOf m).all wordB && !twinsB strEq (namesOf m)
def devB (d : Dv) : Bool := wiB d.ln 0 3 && wiB d.un 1 247
def devicesB (m : Mx) : Bool := m.dvs.all devB && !twinsB (fun a b => a.ln == b.ln && a.un == b.un) m.dvs
def ptB (nd : Int) (p : Pt) : Bool := wiB p.dv 0 (nd - 1) && wiB p.pl 0 255 && wiB p.tr 0 1 && wiB p.on_ 0 1000 && wiB p.off 0 1000
def pointsB (m : Mx) : Bool := m.pts.all (ptB m.dvs.length) && !twinsB (fun a b => a.dv == b.dv && a.pl == b.pl) m.pts
def caB (np : Int) (x : Ca) : Bool := picksB x.ps 4 np && wiB x.vt 1 x.ps.length && wiB x.lp 1 6 && wiB x.lm 0 100000
def causesB (m : Mx) : Bool := m.cas.all (caB m.pts.length)
def efB (nd nc : Int) (x : Ef) : Bool := wiB x.dv 0 (nd - 1) && wiB x.pl 0 255 && wiB x.sf 0 1 && picksB x.ps 8 nc
def effectsB (m : Mx) : Bool := m.efs.all (efB m.dvs.length m.cas.length) && !twinsB (fun a b => a.dv == b.dv && a.pl == b.pl) m.efs
def sizesB (m : Mx) : Bool := decide (m.dvs.length ≤ 4) && decide (m.pts.length ≤ 16) && decide (m.cas.length ≤ 8) && decide (m.efs.length ≤ 8)
def rightM (m : Mx) : Bool := sizesB m && timesB m && keyedB m.key && namedB m && devicesB m && pointsB m && causesB m && effectsB m
end Go.Proofs.YtgajbgdkgelkgaaGreat
