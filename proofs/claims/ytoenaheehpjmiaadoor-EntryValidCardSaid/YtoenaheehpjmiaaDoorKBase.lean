/- A part of the proof (printed smaller by a program of ours). Conditions: none. -/
import Derived.Test.YtoenaheehpjmiaaDoorProg
import Derived.Test.YtoenaheehpjmiaaDoorKCore
namespace Go.Sh
open Go
set_option linter.unusedSimpArgs false
noncomputable abbrev PP : Program := Go.Proofs.Tryd.prog
abbrev aCA : Nat := 3
abbrev aB8 : Nat := 6
abbrev uB : Nat := 7
abbrev lF : Nat := 11
abbrev dL : Nat := 12
abbrev iD : Nat := 13
abbrev bQ : Nat := 14
abbrev dZ : Nat := 15
abbrev dH : Nat := 16
abbrev gP : Nat := 17
abbrev aJ5 : Nat := 18
abbrev aH2 : Nat := 19
abbrev fC : Nat := 20
abbrev eQ : Nat := 21
abbrev aDA : Nat := 22
abbrev aWE : Nat := 23
abbrev aAC : Nat := 27
abbrev qR : Nat := 28
abbrev oG : Nat := 29
abbrev aBI : Nat := 30
abbrev jY : Nat := 31
abbrev aJU : Nat := 32
abbrev oI : Nat := 33
abbrev o9 : Nat := 34
abbrev aMC : Nat := 35
abbrev aWK : Nat := 36
abbrev aM : Nat := 40
abbrev aV : Nat := 41
abbrev aS : Nat := 42
abbrev wB : Nat := 43
abbrev mH : Nat := 44
abbrev gG : Nat := 45
abbrev o8 : Nat := 46
abbrev kR : Nat := 47
abbrev aB1 : Nat := 48
abbrev iE : Nat := 49
abbrev oH : Nat := 50
abbrev oD : Nat := 51
abbrev bM : Nat := 52
abbrev bO : Nat := 53
abbrev bB : Nat := 54
abbrev jJ : Nat := 55
abbrev bH : Nat := 56
abbrev xY : Nat := 57
abbrev vZ : Nat := 58
abbrev aWJ : Nat := 59
abbrev aQ3 : Nat := 60
abbrev gB : Nat := 62
abbrev eF : Nat := 63
abbrev oO : Nat := 64
abbrev uA : Nat := 65
abbrev jG : Nat := 66
abbrev qW : Nat := 67
abbrev aX : Nat := 68
abbrev eH : Nat := 69
abbrev aN : Nat := 70
abbrev xO : Nat := 71
abbrev zT : Nat := 72
abbrev aAG : Nat := 73
abbrev aDF : Nat := 74
abbrev vT : Nat := 75
abbrev aAY : Nat := 76
abbrev uG : Nat := 77
abbrev uO : Nat := 78
abbrev aBC : Nat := 79
abbrev aBJ : Nat := 80
abbrev aBE : Nat := 81
abbrev zY : Nat := 82
abbrev yM : Nat := 83
abbrev aBF : Nat := 84
abbrev yO : Nat := 85
abbrev fJ : Nat := 86
abbrev dI : Nat := 87
abbrev fV : Nat := 88
abbrev uH : Nat := 89
abbrev aDS : Nat := 90
abbrev aBX : Nat := 91
abbrev dF : Nat := 92
abbrev aBV : Nat := 93
abbrev yR : Nat := 94
abbrev gH : Nat := 95
abbrev eP : Nat := 3
abbrev a0E : Nat := 4
abbrev t_u8 : Nat := 5
abbrev aFS : Nat := 9
abbrev lG : Nat := 22
abbrev aD : Nat := 24
abbrev aII : Nat := 27
abbrev aIH : Nat := 28
abbrev aGD : Nat := 29
abbrev aDW : Nat := 30
abbrev aH : Nat := 32
abbrev aDX : Nat := 44
abbrev a0R : Nat := 47
abbrev fP : Nat := 56
abbrev iQ : Nat := 57
abbrev aF : Nat := 59
abbrev aWG : Nat := 64
abbrev aIG : Nat := 67
abbrev a0L : Nat := 68
abbrev a1P : Nat := 69
abbrev aXU : Nat := 70
abbrev aH8 : Nat := 79
abbrev aIC : Nat := 81
abbrev aY : Nat := 84
abbrev vD : Nat := 86
abbrev aJ1 : Nat := 89
abbrev aR : Nat := 91
abbrev aIR : Nat := 98
abbrev aHP : Nat := 101
abbrev bY : Nat := 111
theorem aXE {x y : ByteArray} : strEq x y = true ↔ x = y := by
  unfold strEq
  constructor
  · intro h
    have h1 := eq_of_beq h
    rw [ByteArray.toList_eq, ByteArray.toList_eq] at h1
    obtain ⟨⟨x⟩⟩ := x
    obtain ⟨⟨y⟩⟩ := y
    simpa using h1
  · rintro rfl; simp
structure aC where
  Kind : Int
  Tick : Int
  Tenant : Int
  Cell : Int
  Other : Int
  Epoch : Int
  From : Int
  Until : Int
  N : Int
def aC.cells (x : aC) : List Value := [.int .i64 x.Kind, .int .i64 x.Tick, .int .i64 x.Tenant, .int .i64 x.Cell, .int .i64 x.Other, .int .i64 x.Epoch, .int .i64 x.From, .int .i64 x.Until, .int .i64 x.N]
def aC.decL (l : List Value) (k : aC → Prop) : Prop := match l with
  | [.int .i64 vKind, .int .i64 vTick, .int .i64 vTenant, .int .i64 vCell, .int .i64 vOther, .int .i64 vEpoch, .int .i64 vFrom, .int .i64 vUntil, .int .i64 vN] => k ⟨vKind, vTick, vTenant, vCell, vOther, vEpoch, vFrom, vUntil, vN⟩
  | _ => False
theorem aC.aQ {l : List Value} {k : aC → Prop} (h : aC.decL l k) : ∃ x : aC, l = x.cells ∧ k x := by
  unfold aC.decL at h
  split at h
  · exact ⟨_, rfl, h⟩
  · exact h.elim
def aC.decA (a : Array Value) (k : aC → Prop) : Prop := aC.decL a.toList k
theorem aC.pE {a : Array Value} {k : aC → Prop} (h : aC.decA a k) : ∃ x : aC, a = List.toArray x.cells ∧ k x := by
  obtain ⟨x, e, h⟩ := aC.aQ h
  exact ⟨x, by rw [← e], h⟩
def aC.eqb (x y : aC) : Bool := (decide (x.Kind = y.Kind) && (decide (x.Tick = y.Tick) && (decide (x.Tenant = y.Tenant) && (decide (x.Cell = y.Cell) && (decide (x.Other = y.Other) && (decide (x.Epoch = y.Epoch) && (decide (x.From = y.From) && (decide (x.Until = y.Until) && (decide (x.N = y.N) && true)))))))))
structure aB where
  Regions : Int
  Zones : Sl
  Cells : Sl
  Tenants : Sl
  Versions : Sl
  Replicas : Sl
  Observers : Sl
  Blast : Int
  Lease : Int
  Bake : Int
def aB.cells (x : aB) : List Value := [.int .i64 x.Regions, .slice x.Zones.a x.Zones.n x.Zones.c, .slice x.Cells.a x.Cells.n x.Cells.c, .slice x.Tenants.a x.Tenants.n x.Tenants.c, .slice x.Versions.a x.Versions.n x.Versions.c, .slice x.Replicas.a x.Replicas.n x.Replicas.c, .slice x.Observers.a x.Observers.n x.Observers.c, .int .i64 x.Blast, .int .i64 x.Lease, .int .i64 x.Bake]
def aB.decL (l : List Value) (k : aB → Prop) : Prop := match l with
  | [.int .i64 vRegions, .slice vZones vZonesn vZonesc, .slice vCells vCellsn vCellsc, .slice vTenants vTenantsn vTenantsc, .slice vVersions vVersionsn vVersionsc, .slice vReplicas vReplicasn vReplicasc, .slice vObservers vObserversn vObserversc, .int .i64 vBlast, .int .i64 vLease, .int .i64 vBake] => k ⟨vRegions, ⟨vZones, vZonesn, vZonesc⟩, ⟨vCells, vCellsn, vCellsc⟩, ⟨vTenants, vTenantsn, vTenantsc⟩, ⟨vVersions, vVersionsn, vVersionsc⟩, ⟨vReplicas, vReplicasn, vReplicasc⟩, ⟨vObservers, vObserversn, vObserversc⟩, vBlast, vLease, vBake⟩
  | _ => False
theorem aB.aQ {l : List Value} {k : aB → Prop} (h : aB.decL l k) : ∃ x : aB, l = x.cells ∧ k x := by
  unfold aB.decL at h
  split at h
  · exact ⟨_, rfl, h⟩
  · exact h.elim
def aB.decA (a : Array Value) (k : aB → Prop) : Prop := aB.decL a.toList k
theorem aB.pE {a : Array Value} {k : aB → Prop} (h : aB.decA a k) : ∃ x : aB, a = List.toArray x.cells ∧ k x := by
  obtain ⟨x, e, h⟩ := aB.aQ h
  exact ⟨x, by rw [← e], h⟩
structure aA where
  Tick : Int
  Count : Int
  Tenants : Sl
  Cells : Sl
  Proven : Int
  Evacuating : Int
  Low : Int
  High : Int
def aA.cells (x : aA) : List Value := [.int .i64 x.Tick, .int .i64 x.Count, .slice x.Tenants.a x.Tenants.n x.Tenants.c, .slice x.Cells.a x.Cells.n x.Cells.c, .int .i64 x.Proven, .int .i64 x.Evacuating, .int .i64 x.Low, .int .i64 x.High]
def aA.decL (l : List Value) (k : aA → Prop) : Prop := match l with
  | [.int .i64 vTick, .int .i64 vCount, .slice vTenants vTenantsn vTenantsc, .slice vCells vCellsn vCellsc, .int .i64 vProven, .int .i64 vEvacuating, .int .i64 vLow, .int .i64 vHigh] => k ⟨vTick, vCount, ⟨vTenants, vTenantsn, vTenantsc⟩, ⟨vCells, vCellsn, vCellsc⟩, vProven, vEvacuating, vLow, vHigh⟩
  | _ => False
theorem aA.aQ {l : List Value} {k : aA → Prop} (h : aA.decL l k) : ∃ x : aA, l = x.cells ∧ k x := by
  unfold aA.decL at h
  split at h
  · exact ⟨_, rfl, h⟩
  · exact h.elim
def aA.decA (a : Array Value) (k : aA → Prop) : Prop := aA.decL a.toList k
theorem aA.pE {a : Array Value} {k : aA → Prop} (h : aA.decA a k) : ∃ x : aA, a = List.toArray x.cells ∧ k x := by
  obtain ⟨x, e, h⟩ := aA.aQ h
  exact ⟨x, by rw [← e], h⟩
structure aW where
  tenants : Int
  cells_ : Int
  regions : Int
  versions : Int
def aW.cells (x : aW) : List Value := [.int .i64 x.tenants, .int .i64 x.cells_, .int .i64 x.regions, .int .i64 x.versions]
def aW.decL (l : List Value) (k : aW → Prop) : Prop := match l with
  | [.int .i64 vtenants, .int .i64 vcells_, .int .i64 vregions, .int .i64 vversions] => k ⟨vtenants, vcells_, vregions, vversions⟩
  | _ => False
theorem aW.aQ {l : List Value} {k : aW → Prop} (h : aW.decL l k) : ∃ x : aW, l = x.cells ∧ k x := by
  unfold aW.decL at h
  split at h
  · exact ⟨_, rfl, h⟩
  · exact h.elim
def aW.decA (a : Array Value) (k : aW → Prop) : Prop := aW.decL a.toList k
theorem aW.pE {a : Array Value} {k : aW → Prop} (h : aW.decA a k) : ∃ x : aW, a = List.toArray x.cells ∧ k x := by
  obtain ⟨x, e, h⟩ := aW.aQ h
  exact ⟨x, by rw [← e], h⟩
def aW.eqb (x y : aW) : Bool := (decide (x.tenants = y.tenants) && (decide (x.cells_ = y.cells_) && (decide (x.regions = y.regions) && (decide (x.versions = y.versions) && true))))
structure aZ where
  a0 : Option Addr
  a1 : Option Addr
  a2 : Option Addr
  a3 : Option Addr
  a4 : Option Addr
  a5 : Option Addr
  a6 : Option Addr
  a7 : Option Addr
  a8 : Option Addr
def aZ.cells (x : aZ) : List Value := [.pointer x.a0, .pointer x.a1, .pointer x.a2, .pointer x.a3, .pointer x.a4, .pointer x.a5, .pointer x.a6, .pointer x.a7, .pointer x.a8]
def aZ.decL (l : List Value) (k : aZ → Prop) : Prop := match l with
  | [.pointer va0, .pointer va1, .pointer va2, .pointer va3, .pointer va4, .pointer va5, .pointer va6, .pointer va7, .pointer va8] => k ⟨va0, va1, va2, va3, va4, va5, va6, va7, va8⟩
  | _ => False
theorem aZ.aQ {l : List Value} {k : aZ → Prop} (h : aZ.decL l k) : ∃ x : aZ, l = x.cells ∧ k x := by
  unfold aZ.decL at h
  split at h
  · exact ⟨_, rfl, h⟩
  · exact h.elim
def aZ.decA (a : Array Value) (k : aZ → Prop) : Prop := aZ.decL a.toList k
theorem aZ.pE {a : Array Value} {k : aZ → Prop} (h : aZ.decA a k) : ∃ x : aZ, a = List.toArray x.cells ∧ k x := by
  obtain ⟨x, e, h⟩ := aZ.aQ h
  exact ⟨x, by rw [← e], h⟩
structure bK where
  Region : Int
def bK.cells (x : bK) : List Value := [.int .i64 x.Region]
def bK.decL (l : List Value) (k : bK → Prop) : Prop := match l with
  | [.int .i64 vRegion] => k ⟨vRegion⟩
  | _ => False
theorem bK.aQ {l : List Value} {k : bK → Prop} (h : bK.decL l k) : ∃ x : bK, l = x.cells ∧ k x := by
  unfold bK.decL at h
  split at h
  · exact ⟨_, rfl, h⟩
  · exact h.elim
def bK.decA (a : Array Value) (k : bK → Prop) : Prop := bK.decL a.toList k
theorem bK.pE {a : Array Value} {k : bK → Prop} (h : bK.decA a k) : ∃ x : bK, a = List.toArray x.cells ∧ k x := by
  obtain ⟨x, e, h⟩ := bK.aQ h
  exact ⟨x, by rw [← e], h⟩
def bK.eqb (x y : bK) : Bool := (decide (x.Region = y.Region) && true)
structure bJ where
  Zone : Int
  Capacity : Int
def bJ.cells (x : bJ) : List Value := [.int .i64 x.Zone, .int .i64 x.Capacity]
def bJ.decL (l : List Value) (k : bJ → Prop) : Prop := match l with
  | [.int .i64 vZone, .int .i64 vCapacity] => k ⟨vZone, vCapacity⟩
  | _ => False
theorem bJ.aQ {l : List Value} {k : bJ → Prop} (h : bJ.decL l k) : ∃ x : bJ, l = x.cells ∧ k x := by
  unfold bJ.decL at h
  split at h
  · exact ⟨_, rfl, h⟩
  · exact h.elim
def bJ.decA (a : Array Value) (k : bJ → Prop) : Prop := bJ.decL a.toList k
theorem bJ.pE {a : Array Value} {k : bJ → Prop} (h : bJ.decA a k) : ∃ x : bJ, a = List.toArray x.cells ∧ k x := by
  obtain ⟨x, e, h⟩ := bJ.aQ h
  exact ⟨x, by rw [← e], h⟩
def bJ.eqb (x y : bJ) : Bool := (decide (x.Zone = y.Zone) && (decide (x.Capacity = y.Capacity) && true))
structure aO where
  Load : Int
  Shadow : Int
  Priority : Int
  Lag : Int
  Allowed : Int
  Group : Int
  Noisy : Bool
def aO.cells (x : aO) : List Value := [.int .i64 x.Load, .int .i64 x.Shadow, .int .i64 x.Priority, .int .i64 x.Lag, .int .i64 x.Allowed, .int .i64 x.Group, .bool x.Noisy]
def aO.decL (l : List Value) (k : aO → Prop) : Prop := match l with
  | [.int .i64 vLoad, .int .i64 vShadow, .int .i64 vPriority, .int .i64 vLag, .int .i64 vAllowed, .int .i64 vGroup, .bool vNoisy] => k ⟨vLoad, vShadow, vPriority, vLag, vAllowed, vGroup, vNoisy⟩
  | _ => False
theorem aO.aQ {l : List Value} {k : aO → Prop} (h : aO.decL l k) : ∃ x : aO, l = x.cells ∧ k x := by
  unfold aO.decL at h
  split at h
  · exact ⟨_, rfl, h⟩
  · exact h.elim
def aO.decA (a : Array Value) (k : aO → Prop) : Prop := aO.decL a.toList k
theorem aO.pE {a : Array Value} {k : aO → Prop} (h : aO.decA a k) : ∃ x : aO, a = List.toArray x.cells ∧ k x := by
  obtain ⟨x, e, h⟩ := aO.aQ h
  exact ⟨x, by rw [← e], h⟩
def aO.eqb (x y : aO) : Bool := (decide (x.Load = y.Load) && (decide (x.Shadow = y.Shadow) && (decide (x.Priority = y.Priority) && (decide (x.Lag = y.Lag) && (decide (x.Allowed = y.Allowed) && (decide (x.Group = y.Group) && ((x.Noisy == y.Noisy) && true)))))))
structure aP where
  Low : Int
  High : Int
def aP.cells (x : aP) : List Value := [.int .i64 x.Low, .int .i64 x.High]
def aP.decL (l : List Value) (k : aP → Prop) : Prop := match l with
  | [.int .i64 vLow, .int .i64 vHigh] => k ⟨vLow, vHigh⟩
  | _ => False
theorem aP.aQ {l : List Value} {k : aP → Prop} (h : aP.decL l k) : ∃ x : aP, l = x.cells ∧ k x := by
  unfold aP.decL at h
  split at h
  · exact ⟨_, rfl, h⟩
  · exact h.elim
def aP.decA (a : Array Value) (k : aP → Prop) : Prop := aP.decL a.toList k
theorem aP.pE {a : Array Value} {k : aP → Prop} (h : aP.decA a k) : ∃ x : aP, a = List.toArray x.cells ∧ k x := by
  obtain ⟨x, e, h⟩ := aP.aQ h
  exact ⟨x, by rw [← e], h⟩
def aP.eqb (x y : aP) : Bool := (decide (x.Low = y.Low) && (decide (x.High = y.High) && true))
structure aT where
  Cell : Int
  Epoch : Int
  Version : Int
  From : Int
  Until : Int
def aT.cells (x : aT) : List Value := [.int .i64 x.Cell, .int .i64 x.Epoch, .int .i64 x.Version, .int .i64 x.From, .int .i64 x.Until]
def aT.decL (l : List Value) (k : aT → Prop) : Prop := match l with
  | [.int .i64 vCell, .int .i64 vEpoch, .int .i64 vVersion, .int .i64 vFrom, .int .i64 vUntil] => k ⟨vCell, vEpoch, vVersion, vFrom, vUntil⟩
  | _ => False
theorem aT.aQ {l : List Value} {k : aT → Prop} (h : aT.decL l k) : ∃ x : aT, l = x.cells ∧ k x := by
  unfold aT.decL at h
  split at h
  · exact ⟨_, rfl, h⟩
  · exact h.elim
def aT.decA (a : Array Value) (k : aT → Prop) : Prop := aT.decL a.toList k
theorem aT.pE {a : Array Value} {k : aT → Prop} (h : aT.decA a k) : ∃ x : aT, a = List.toArray x.cells ∧ k x := by
  obtain ⟨x, e, h⟩ := aT.aQ h
  exact ⟨x, by rw [← e], h⟩
def aT.eqb (x y : aT) : Bool := (decide (x.Cell = y.Cell) && (decide (x.Epoch = y.Epoch) && (decide (x.Version = y.Version) && (decide (x.From = y.From) && (decide (x.Until = y.Until) && true)))))
structure aJ where
  Placed : Bool
  Shed : Bool
  Home : Int
  Standby : Int
  Next : Int
  Target : Int
  Epoch : Int
  Window : aT
def aJ.cells (x : aJ) : List Value := [.bool x.Placed, .bool x.Shed, .int .i64 x.Home, .int .i64 x.Standby, .int .i64 x.Next, .int .i64 x.Target, .int .i64 x.Epoch, .int .i64 x.Window.Cell, .int .i64 x.Window.Epoch, .int .i64 x.Window.Version, .int .i64 x.Window.From, .int .i64 x.Window.Until]
def aJ.decL (l : List Value) (k : aJ → Prop) : Prop := match l with
  | [.bool vPlaced, .bool vShed, .int .i64 vHome, .int .i64 vStandby, .int .i64 vNext, .int .i64 vTarget, .int .i64 vEpoch, .int .i64 vWindow_Cell, .int .i64 vWindow_Epoch, .int .i64 vWindow_Version, .int .i64 vWindow_From, .int .i64 vWindow_Until] => k ⟨vPlaced, vShed, vHome, vStandby, vNext, vTarget, vEpoch, ⟨vWindow_Cell, vWindow_Epoch, vWindow_Version, vWindow_From, vWindow_Until⟩⟩
  | _ => False
theorem aJ.aQ {l : List Value} {k : aJ → Prop} (h : aJ.decL l k) : ∃ x : aJ, l = x.cells ∧ k x := by
  unfold aJ.decL at h
  split at h
  · exact ⟨_, rfl, h⟩
  · exact h.elim
def aJ.decA (a : Array Value) (k : aJ → Prop) : Prop := aJ.decL a.toList k
theorem aJ.pE {a : Array Value} {k : aJ → Prop} (h : aJ.decA a k) : ∃ x : aJ, a = List.toArray x.cells ∧ k x := by
  obtain ⟨x, e, h⟩ := aJ.aQ h
  exact ⟨x, by rw [← e], h⟩
def aJ.eqb (x y : aJ) : Bool := ((x.Placed == y.Placed) && ((x.Shed == y.Shed) && (decide (x.Home = y.Home) && (decide (x.Standby = y.Standby) && (decide (x.Next = y.Next) && (decide (x.Target = y.Target) && (decide (x.Epoch = y.Epoch) && (aT.eqb x.Window y.Window && true))))))))
structure aU where
  L : Sl
  At_ : Int
def aU.cells (x : aU) : List Value := [.slice x.L.a x.L.n x.L.c, .int .i64 x.At_]
def aU.decL (l : List Value) (k : aU → Prop) : Prop := match l with
  | [.slice vL vLn vLc, .int .i64 vAt_] => k ⟨⟨vL, vLn, vLc⟩, vAt_⟩
  | _ => False
theorem aU.aQ {l : List Value} {k : aU → Prop} (h : aU.decL l k) : ∃ x : aU, l = x.cells ∧ k x := by
  unfold aU.decL at h
  split at h
  · exact ⟨_, rfl, h⟩
  · exact h.elim
def aU.decA (a : Array Value) (k : aU → Prop) : Prop := aU.decL a.toList k
theorem aU.pE {a : Array Value} {k : aU → Prop} (h : aU.decA a k) : ∃ x : aU, a = List.toArray x.cells ∧ k x := by
  obtain ⟨x, e, h⟩ := aU.aQ h
  exact ⟨x, by rw [← e], h⟩
structure aL where
  Mode : Int
  Running : Int
  Wanted : Int
  Since : Int
def aL.cells (x : aL) : List Value := [.int .i64 x.Mode, .int .i64 x.Running, .int .i64 x.Wanted, .int .i64 x.Since]
def aL.decL (l : List Value) (k : aL → Prop) : Prop := match l with
  | [.int .i64 vMode, .int .i64 vRunning, .int .i64 vWanted, .int .i64 vSince] => k ⟨vMode, vRunning, vWanted, vSince⟩
  | _ => False
theorem aL.aQ {l : List Value} {k : aL → Prop} (h : aL.decL l k) : ∃ x : aL, l = x.cells ∧ k x := by
  unfold aL.decL at h
  split at h
  · exact ⟨_, rfl, h⟩
  · exact h.elim
def aL.decA (a : Array Value) (k : aL → Prop) : Prop := aL.decL a.toList k
theorem aL.pE {a : Array Value} {k : aL → Prop} (h : aL.decA a k) : ∃ x : aL, a = List.toArray x.cells ∧ k x := by
  obtain ⟨x, e, h⟩ := aL.aQ h
  exact ⟨x, by rw [← e], h⟩
def aL.eqb (x y : aL) : Bool := (decide (x.Mode = y.Mode) && (decide (x.Running = y.Running) && (decide (x.Wanted = y.Wanted) && (decide (x.Since = y.Since) && true))))
def a2J : List (Nat × Rep) → Nat → Option Rep
  | [], _ => none
  | x :: r, t => match Nat.beq x.1 t with | true => some x.2 | false => a2J r t
def repS : Nat → Option Rep := a2J [(24, ⟨aC, aC.cells⟩), (32, ⟨aB, aB.cells⟩), (59, ⟨aA, aA.cells⟩), (64, ⟨aW, aW.cells⟩), (70, ⟨aZ, aZ.cells⟩), (79, ⟨bK, bK.cells⟩), (81, ⟨bJ, bJ.cells⟩), (84, ⟨aO, aO.cells⟩), (86, ⟨aP, aP.cells⟩), (89, ⟨aT, aT.cells⟩), (91, ⟨aJ, aJ.cells⟩), (98, ⟨aU, aU.cells⟩), (111, ⟨aL, aL.cells⟩)]
theorem ok3 : okFn PP 3 := ⟨Go.Proofs.Tryd.f3, by kernel_rfl, by kernel_rfl, by kernel_rfl⟩
theorem ok6 : okFn PP 6 := ⟨Go.Proofs.Tryd.f6, by kernel_rfl, by kernel_rfl, by kernel_rfl⟩
theorem ok7 : okFn PP 7 := ⟨Go.Proofs.Tryd.f7, by kernel_rfl, by kernel_rfl, by kernel_rfl⟩
theorem ok11 : okFn PP 11 := ⟨Go.Proofs.Tryd.f11, by kernel_rfl, by kernel_rfl, by kernel_rfl⟩
theorem ok12 : okFn PP 12 := ⟨Go.Proofs.Tryd.f12, by kernel_rfl, by kernel_rfl, by kernel_rfl⟩
theorem ok13 : okFn PP 13 := ⟨Go.Proofs.Tryd.f13, by kernel_rfl, by kernel_rfl, by kernel_rfl⟩
theorem ok14 : okFn PP 14 := ⟨Go.Proofs.Tryd.f14, by kernel_rfl, by kernel_rfl, by kernel_rfl⟩
theorem ok15 : okFn PP 15 := ⟨Go.Proofs.Tryd.f15, by kernel_rfl, by kernel_rfl, by kernel_rfl⟩
theorem ok16 : okFn PP 16 := ⟨Go.Proofs.Tryd.f16, by kernel_rfl, by kernel_rfl, by kernel_rfl⟩
theorem ok17 : okFn PP 17 := ⟨Go.Proofs.Tryd.f17, by kernel_rfl, by kernel_rfl, by kernel_rfl⟩
theorem ok18 : okFn PP 18 := ⟨Go.Proofs.Tryd.f18, by kernel_rfl, by kernel_rfl, by kernel_rfl⟩
theorem ok19 : okFn PP 19 := ⟨Go.Proofs.Tryd.f19, by kernel_rfl, by kernel_rfl, by kernel_rfl⟩
theorem ok20 : okFn PP 20 := ⟨Go.Proofs.Tryd.f20, by kernel_rfl, by kernel_rfl, by kernel_rfl⟩
theorem ok21 : okFn PP 21 := ⟨Go.Proofs.Tryd.f21, by kernel_rfl, by kernel_rfl, by kernel_rfl⟩
theorem ok22 : okFn PP 22 := ⟨Go.Proofs.Tryd.f22, by kernel_rfl, by kernel_rfl, by kernel_rfl⟩
theorem ok23 : okFn PP 23 := ⟨Go.Proofs.Tryd.f23, by kernel_rfl, by kernel_rfl, by kernel_rfl⟩
theorem ok27 : okFn PP 27 := ⟨Go.Proofs.Tryd.f27, by kernel_rfl, by kernel_rfl, by kernel_rfl⟩
theorem ok28 : okFn PP 28 := ⟨Go.Proofs.Tryd.f28, by kernel_rfl, by kernel_rfl, by kernel_rfl⟩
theorem ok29 : okFn PP 29 := ⟨Go.Proofs.Tryd.f29, by kernel_rfl, by kernel_rfl, by kernel_rfl⟩
theorem ok30 : okFn PP 30 := ⟨Go.Proofs.Tryd.f30, by kernel_rfl, by kernel_rfl, by kernel_rfl⟩
theorem ok31 : okFn PP 31 := ⟨Go.Proofs.Tryd.f31, by kernel_rfl, by kernel_rfl, by kernel_rfl⟩
theorem ok32 : okFn PP 32 := ⟨Go.Proofs.Tryd.f32, by kernel_rfl, by kernel_rfl, by kernel_rfl⟩
theorem ok33 : okFn PP 33 := ⟨Go.Proofs.Tryd.f33, by kernel_rfl, by kernel_rfl, by kernel_rfl⟩
theorem ok34 : okFn PP 34 := ⟨Go.Proofs.Tryd.f34, by kernel_rfl, by kernel_rfl, by kernel_rfl⟩
theorem ok35 : okFn PP 35 := ⟨Go.Proofs.Tryd.f35, by kernel_rfl, by kernel_rfl, by kernel_rfl⟩
theorem ok36 : okFn PP 36 := ⟨Go.Proofs.Tryd.f36, by kernel_rfl, by kernel_rfl, by kernel_rfl⟩
theorem ok40 : okFn PP 40 := ⟨Go.Proofs.Tryd.f40, by kernel_rfl, by kernel_rfl, by kernel_rfl⟩
theorem ok41 : okFn PP 41 := ⟨Go.Proofs.Tryd.f41, by kernel_rfl, by kernel_rfl, by kernel_rfl⟩
theorem ok42 : okFn PP 42 := ⟨Go.Proofs.Tryd.f42, by kernel_rfl, by kernel_rfl, by kernel_rfl⟩
theorem ok43 : okFn PP 43 := ⟨Go.Proofs.Tryd.f43, by kernel_rfl, by kernel_rfl, by kernel_rfl⟩
theorem ok44 : okFn PP 44 := ⟨Go.Proofs.Tryd.f44, by kernel_rfl, by kernel_rfl, by kernel_rfl⟩
theorem ok45 : okFn PP 45 := ⟨Go.Proofs.Tryd.f45, by kernel_rfl, by kernel_rfl, by kernel_rfl⟩
theorem ok46 : okFn PP 46 := ⟨Go.Proofs.Tryd.f46, by kernel_rfl, by kernel_rfl, by kernel_rfl⟩
theorem ok47 : okFn PP 47 := ⟨Go.Proofs.Tryd.f47, by kernel_rfl, by kernel_rfl, by kernel_rfl⟩
theorem ok48 : okFn PP 48 := ⟨Go.Proofs.Tryd.f48, by kernel_rfl, by kernel_rfl, by kernel_rfl⟩
theorem ok49 : okFn PP 49 := ⟨Go.Proofs.Tryd.f49, by kernel_rfl, by kernel_rfl, by kernel_rfl⟩
theorem ok50 : okFn PP 50 := ⟨Go.Proofs.Tryd.f50, by kernel_rfl, by kernel_rfl, by kernel_rfl⟩
theorem ok51 : okFn PP 51 := ⟨Go.Proofs.Tryd.f51, by kernel_rfl, by kernel_rfl, by kernel_rfl⟩
theorem ok52 : okFn PP 52 := ⟨Go.Proofs.Tryd.f52, by kernel_rfl, by kernel_rfl, by kernel_rfl⟩
theorem ok53 : okFn PP 53 := ⟨Go.Proofs.Tryd.f53, by kernel_rfl, by kernel_rfl, by kernel_rfl⟩
theorem ok54 : okFn PP 54 := ⟨Go.Proofs.Tryd.f54, by kernel_rfl, by kernel_rfl, by kernel_rfl⟩
theorem ok55 : okFn PP 55 := ⟨Go.Proofs.Tryd.f55, by kernel_rfl, by kernel_rfl, by kernel_rfl⟩
theorem ok56 : okFn PP 56 := ⟨Go.Proofs.Tryd.f56, by kernel_rfl, by kernel_rfl, by kernel_rfl⟩
theorem ok57 : okFn PP 57 := ⟨Go.Proofs.Tryd.f57, by kernel_rfl, by kernel_rfl, by kernel_rfl⟩
theorem ok58 : okFn PP 58 := ⟨Go.Proofs.Tryd.f58, by kernel_rfl, by kernel_rfl, by kernel_rfl⟩
theorem ok59 : okFn PP 59 := ⟨Go.Proofs.Tryd.f59, by kernel_rfl, by kernel_rfl, by kernel_rfl⟩
theorem ok60 : okFn PP 60 := ⟨Go.Proofs.Tryd.f60, by kernel_rfl, by kernel_rfl, by kernel_rfl⟩
theorem ok62 : okFn PP 62 := ⟨Go.Proofs.Tryd.f62, by kernel_rfl, by kernel_rfl, by kernel_rfl⟩
theorem ok63 : okFn PP 63 := ⟨Go.Proofs.Tryd.f63, by kernel_rfl, by kernel_rfl, by kernel_rfl⟩
theorem ok64 : okFn PP 64 := ⟨Go.Proofs.Tryd.f64, by kernel_rfl, by kernel_rfl, by kernel_rfl⟩
theorem ok65 : okFn PP 65 := ⟨Go.Proofs.Tryd.f65, by kernel_rfl, by kernel_rfl, by kernel_rfl⟩
theorem ok66 : okFn PP 66 := ⟨Go.Proofs.Tryd.f66, by kernel_rfl, by kernel_rfl, by kernel_rfl⟩
theorem ok67 : okFn PP 67 := ⟨Go.Proofs.Tryd.f67, by kernel_rfl, by kernel_rfl, by kernel_rfl⟩
theorem ok68 : okFn PP 68 := ⟨Go.Proofs.Tryd.f68, by kernel_rfl, by kernel_rfl, by kernel_rfl⟩
theorem ok69 : okFn PP 69 := ⟨Go.Proofs.Tryd.f69, by kernel_rfl, by kernel_rfl, by kernel_rfl⟩
theorem ok70 : okFn PP 70 := ⟨Go.Proofs.Tryd.f70, by kernel_rfl, by kernel_rfl, by kernel_rfl⟩
theorem ok71 : okFn PP 71 := ⟨Go.Proofs.Tryd.f71, by kernel_rfl, by kernel_rfl, by kernel_rfl⟩
theorem ok72 : okFn PP 72 := ⟨Go.Proofs.Tryd.f72, by kernel_rfl, by kernel_rfl, by kernel_rfl⟩
theorem ok73 : okFn PP 73 := ⟨Go.Proofs.Tryd.f73, by kernel_rfl, by kernel_rfl, by kernel_rfl⟩
theorem ok74 : okFn PP 74 := ⟨Go.Proofs.Tryd.f74, by kernel_rfl, by kernel_rfl, by kernel_rfl⟩
theorem ok75 : okFn PP 75 := ⟨Go.Proofs.Tryd.f75, by kernel_rfl, by kernel_rfl, by kernel_rfl⟩
theorem ok76 : okFn PP 76 := ⟨Go.Proofs.Tryd.f76, by kernel_rfl, by kernel_rfl, by kernel_rfl⟩
theorem ok77 : okFn PP 77 := ⟨Go.Proofs.Tryd.f77, by kernel_rfl, by kernel_rfl, by kernel_rfl⟩
theorem ok78 : okFn PP 78 := ⟨Go.Proofs.Tryd.f78, by kernel_rfl, by kernel_rfl, by kernel_rfl⟩
theorem ok79 : okFn PP 79 := ⟨Go.Proofs.Tryd.f79, by kernel_rfl, by kernel_rfl, by kernel_rfl⟩
theorem ok80 : okFn PP 80 := ⟨Go.Proofs.Tryd.f80, by kernel_rfl, by kernel_rfl, by kernel_rfl⟩
theorem ok81 : okFn PP 81 := ⟨Go.Proofs.Tryd.f81, by kernel_rfl, by kernel_rfl, by kernel_rfl⟩
theorem ok82 : okFn PP 82 := ⟨Go.Proofs.Tryd.f82, by kernel_rfl, by kernel_rfl, by kernel_rfl⟩
theorem ok83 : okFn PP 83 := ⟨Go.Proofs.Tryd.f83, by kernel_rfl, by kernel_rfl, by kernel_rfl⟩
theorem ok84 : okFn PP 84 := ⟨Go.Proofs.Tryd.f84, by kernel_rfl, by kernel_rfl, by kernel_rfl⟩
theorem ok85 : okFn PP 85 := ⟨Go.Proofs.Tryd.f85, by kernel_rfl, by kernel_rfl, by kernel_rfl⟩
theorem ok86 : okFn PP 86 := ⟨Go.Proofs.Tryd.f86, by kernel_rfl, by kernel_rfl, by kernel_rfl⟩
theorem ok87 : okFn PP 87 := ⟨Go.Proofs.Tryd.f87, by kernel_rfl, by kernel_rfl, by kernel_rfl⟩
theorem ok88 : okFn PP 88 := ⟨Go.Proofs.Tryd.f88, by kernel_rfl, by kernel_rfl, by kernel_rfl⟩
theorem ok89 : okFn PP 89 := ⟨Go.Proofs.Tryd.f89, by kernel_rfl, by kernel_rfl, by kernel_rfl⟩
theorem ok90 : okFn PP 90 := ⟨Go.Proofs.Tryd.f90, by kernel_rfl, by kernel_rfl, by kernel_rfl⟩
theorem ok91 : okFn PP 91 := ⟨Go.Proofs.Tryd.f91, by kernel_rfl, by kernel_rfl, by kernel_rfl⟩
theorem ok92 : okFn PP 92 := ⟨Go.Proofs.Tryd.f92, by kernel_rfl, by kernel_rfl, by kernel_rfl⟩
theorem ok93 : okFn PP 93 := ⟨Go.Proofs.Tryd.f93, by kernel_rfl, by kernel_rfl, by kernel_rfl⟩
theorem ok94 : okFn PP 94 := ⟨Go.Proofs.Tryd.f94, by kernel_rfl, by kernel_rfl, by kernel_rfl⟩
theorem ok95 : okFn PP 95 := ⟨Go.Proofs.Tryd.f95, by kernel_rfl, by kernel_rfl, by kernel_rfl⟩
theorem a2X : ∀ g ∈ [3, 6, 7, 11, 12, 13, 14, 15, 16, 17, 18, 19, 20, 21, 22, 23, 27, 28, 29, 30, 31, 32, 33, 34, 35, 36, 40, 41, 42, 43, 44, 45, 46, 47, 48, 49, 50, 51, 52, 53, 54, 55, 56, 57, 58, 59, 60, 62, 63, 64, 65, 66, 67, 68, 69, 70, 71, 72, 73, 74, 75, 76, 77, 78, 79, 80, 81, 82, 83, 84, 85, 86, 87, 88, 89, 90, 91, 92, 93, 94, 95], okFn PP g :=
  List.forall_mem_cons.2 ⟨ok3, List.forall_mem_cons.2 ⟨ok6, List.forall_mem_cons.2 ⟨ok7, List.forall_mem_cons.2 ⟨ok11, List.forall_mem_cons.2 ⟨ok12, List.forall_mem_cons.2 ⟨ok13, List.forall_mem_cons.2 ⟨ok14, List.forall_mem_cons.2 ⟨ok15, List.forall_mem_cons.2 ⟨ok16, List.forall_mem_cons.2 ⟨ok17, List.forall_mem_cons.2 ⟨ok18, List.forall_mem_cons.2 ⟨ok19, List.forall_mem_cons.2 ⟨ok20, List.forall_mem_cons.2 ⟨ok21, List.forall_mem_cons.2 ⟨ok22, List.forall_mem_cons.2 ⟨ok23, List.forall_mem_cons.2 ⟨ok27, List.forall_mem_cons.2 ⟨ok28, List.forall_mem_cons.2 ⟨ok29, List.forall_mem_cons.2 ⟨ok30, List.forall_mem_cons.2 ⟨ok31, List.forall_mem_cons.2 ⟨ok32, List.forall_mem_cons.2 ⟨ok33, List.forall_mem_cons.2 ⟨ok34, List.forall_mem_cons.2 ⟨ok35, List.forall_mem_cons.2 ⟨ok36, List.forall_mem_cons.2 ⟨ok40, List.forall_mem_cons.2 ⟨ok41, List.forall_mem_cons.2 ⟨ok42, List.forall_mem_cons.2 ⟨ok43, List.forall_mem_cons.2 ⟨ok44, List.forall_mem_cons.2 ⟨ok45, List.forall_mem_cons.2 ⟨ok46, List.forall_mem_cons.2 ⟨ok47, List.forall_mem_cons.2 ⟨ok48, List.forall_mem_cons.2 ⟨ok49, List.forall_mem_cons.2 ⟨ok50, List.forall_mem_cons.2 ⟨ok51, List.forall_mem_cons.2 ⟨ok52, List.forall_mem_cons.2 ⟨ok53, List.forall_mem_cons.2 ⟨ok54, List.forall_mem_cons.2 ⟨ok55, List.forall_mem_cons.2 ⟨ok56, List.forall_mem_cons.2 ⟨ok57, List.forall_mem_cons.2 ⟨ok58, List.forall_mem_cons.2 ⟨ok59, List.forall_mem_cons.2 ⟨ok60, List.forall_mem_cons.2 ⟨ok62, List.forall_mem_cons.2 ⟨ok63, List.forall_mem_cons.2 ⟨ok64, List.forall_mem_cons.2 ⟨ok65, List.forall_mem_cons.2 ⟨ok66, List.forall_mem_cons.2 ⟨ok67, List.forall_mem_cons.2 ⟨ok68, List.forall_mem_cons.2 ⟨ok69, List.forall_mem_cons.2 ⟨ok70, List.forall_mem_cons.2 ⟨ok71, List.forall_mem_cons.2 ⟨ok72, List.forall_mem_cons.2 ⟨ok73, List.forall_mem_cons.2 ⟨ok74, List.forall_mem_cons.2 ⟨ok75, List.forall_mem_cons.2 ⟨ok76, List.forall_mem_cons.2 ⟨ok77, List.forall_mem_cons.2 ⟨ok78, List.forall_mem_cons.2 ⟨ok79, List.forall_mem_cons.2 ⟨ok80, List.forall_mem_cons.2 ⟨ok81, List.forall_mem_cons.2 ⟨ok82, List.forall_mem_cons.2 ⟨ok83, List.forall_mem_cons.2 ⟨ok84, List.forall_mem_cons.2 ⟨ok85, List.forall_mem_cons.2 ⟨ok86, List.forall_mem_cons.2 ⟨ok87, List.forall_mem_cons.2 ⟨ok88, List.forall_mem_cons.2 ⟨ok89, List.forall_mem_cons.2 ⟨ok90, List.forall_mem_cons.2 ⟨ok91, List.forall_mem_cons.2 ⟨ok92, List.forall_mem_cons.2 ⟨ok93, List.forall_mem_cons.2 ⟨ok94, List.forall_mem_cons.2 ⟨ok95, by simp⟩⟩⟩⟩⟩⟩⟩⟩⟩⟩⟩⟩⟩⟩⟩⟩⟩⟩⟩⟩⟩⟩⟩⟩⟩⟩⟩⟩⟩⟩⟩⟩⟩⟩⟩⟩⟩⟩⟩⟩⟩⟩⟩⟩⟩⟩⟩⟩⟩⟩⟩⟩⟩⟩⟩⟩⟩⟩⟩⟩⟩⟩⟩⟩⟩⟩⟩⟩⟩⟩⟩⟩⟩⟩⟩⟩⟩⟩⟩⟩⟩
def a3C (g : Nat) : Bool := memN g [3, 6, 7, 11, 12, 13, 14, 15, 16, 17, 18, 19, 20, 21, 22, 23, 27, 28, 29, 30, 31, 32, 33, 34, 35, 36, 40, 41, 42, 43, 44, 45, 46, 47, 48, 49, 50, 51, 52, 53, 54, 55, 56, 57, 58, 59, 60, 62, 63, 64, 65, 66, 67, 68, 69, 70, 71, 72, 73, 74, 75, 76, 77, 78, 79, 80, 81, 82, 83, 84, 85, 86, 87, 88, 89, 90, 91, 92, 93, 94, 95]
noncomputable def cx (N : Nat) (prom : Nat → Bool) : Ctx := { P := PP, N := N, prom := prom, call := a3C, rep := repS }
noncomputable abbrev cy (N : Nat) (l : List Nat) : Ctx := cx N fun d => memN d l
abbrev aK : RepD := ⟨aC, aC.cells, aC.decL, fun h => aC.aQ h⟩
abbrev aI : RepD := ⟨aB, aB.cells, aB.decL, fun h => aB.aQ h⟩
abbrev aG : RepD := ⟨aA, aA.cells, aA.decL, fun h => aA.aQ h⟩
abbrev a0O : RepD := ⟨aZ, aZ.cells, aZ.decL, fun h => aZ.aQ h⟩
abbrev aHU : RepD := ⟨aO, aO.cells, aO.decL, fun h => aO.aQ h⟩
abbrev aFZ : RepD := ⟨aP, aP.cells, aP.decL, fun h => aP.aQ h⟩
abbrev a0D : RepD := ⟨aT, aT.cells, aT.decL, fun h => aT.aQ h⟩
abbrev bF : RepD := ⟨aJ, aJ.cells, aJ.decL, fun h => aJ.aQ h⟩
abbrev dR : RepD := ⟨aL, aL.cells, aL.decL, fun h => aL.aQ h⟩
theorem okc {N : Nat} {prom : Nat → Bool} : ∀ g, (cx N prom).call g = true → okFn (cx N prom).P g := fun g hg => a2X g (memN_iff.1 hg)
theorem mixed {N : Nat} {prom : Nat → Bool} : (cx N prom).P.follows .mixedOrders = true := by kernel_rfl
theorem dsm {N : Nat} {l : List Nat} {c : Code} {Q : Cont} {s : St} {w : World} {p : Prop} (h : p) (e : den (cy N l) c Q s w = p := by kernel_rfl) : Snd (cy N l) c Q s w := den_sound okc mixed _ _ _ _ (mpr' e h)
end Go.Sh
