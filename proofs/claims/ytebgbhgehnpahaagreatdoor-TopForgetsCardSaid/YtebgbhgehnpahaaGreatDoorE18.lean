/- A part of the proof of the claim that the last text of this folder states. -/
import Derived.Test.YtebgbhgehnpahaaGreatDoorE13
namespace Go.E
set_option linter.all false
noncomputable def wsum (l : List (Nat × Nat)) : Nat := List.rec 0 (fun x _ ih => Prod.rec (fun i n => Nat.add (Nat.shiftLeft n (Nat.mul 64 i)) ih) x) l
noncomputable def W (l : List (Nat × Nat)) (o : List (Nat × Int)) : Wt := .mk (wsum l) o
noncomputable def wup (t : Wt) (l : List (Nat × Int)) : Wt := List.rec (motive := fun _ => Wt → Wt) (fun t => t) (fun x _ ih t => Prod.rec (fun i n => ih (wst t i n)) x) l t
noncomputable def hmk (l : List (Pth × B)) (n : Pth) (er eq : Nat) : Hp := hset ⟨Tr.e .dd, .z, 0, 0, 0, [], false⟩ l n er eq
noncomputable def wB (h : Hp) (p : Pth) (l : List (Nat × Int)) : B := B.rec .dd (fun _ => .dd) (fun _ => .dd) (fun _ _ _ => .dd) (fun k m D d => .w k m D (wup d l)) (fun _ _ => .dd) (fun _ => .dd) (fun _ _ _ _ => .dd) (fun _ _ _ _ _ _ => .dd) .dd (fun _ => .dd) (h.at p)
noncomputable def Tt (l : List (Pth × V)) : T := l.foldl (fun t x => st vu x.1 x.2 t) tE
end Go.E
