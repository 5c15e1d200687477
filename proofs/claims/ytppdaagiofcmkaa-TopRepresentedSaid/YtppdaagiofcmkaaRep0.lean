import Derived.Test.YtppdaagiofcmkaaChk3
/- The check of the numbers of representations at one discriminant, as a function for the kernel. -/
namespace Go.Proofs.Ytppdaagiofcmkaa.Rep
open Go.Proofs.Ytppdaagiofcmkaa.Chk (fsum fall force good amb units factor masks dbl)
/-- the points of a form with |x|, |y| at most 24, those with large y left out, each value told to g -/
def pts (D a b c : Nat) (g : Nat → Nat) : Nat :=
  fsum (fun y => cond (Nat.blt (Nat.mul 1200 a) (Nat.mul D (Nat.mul y y))) 0
    (fsum (fun x => Nat.mul (cond (Nat.beq x 0) 1 (cond (Nat.beq y 0) 1 2))
      (force (Nat.mul (Nat.mul b x) y) 0 fun bxy => force (Nat.add (Nat.mul a (Nat.mul x x)) (Nat.mul c (Nat.mul y y))) 0 fun v => Nat.add (g (Nat.add v bxy)) (g (Nat.sub v bxy)))) 25)) 25
/-- all forms -/
def phi (D : Nat) (g : Nat → Nat) : Nat :=
  fsum (fun a => cond (Nat.blt D (Nat.mul 3 (Nat.mul (a+1) (a+1)))) 0 (fsum (fun b => cond (good D (a+1) b) (Nat.mul (cond (amb D (a+1) b) 1 2) (pts D (a+1) b (Nat.div (Nat.add (Nat.mul b b) D) (Nat.mul 4 (a+1))) g)) 0) (a+2))) 26
/-- a power of 2^32 for each value from 1 to 300 -/
def gB (v : Nat) : Nat := cond (Nat.ble v 300) (cond (Nat.beq v 0) 0 (Nat.shiftLeft 1 (Nat.mul 32 v))) 0
/-- the multiples of the numbers in a mask -/
def mults (A : Nat) : Nat := fsum (fun k => cond (Nat.testBit A (k+1)) (fsum (fun j => Nat.shiftLeft 1 (Nat.mul 32 (Nat.mul (k+1) (j+1)))) (Nat.div 300 (k+1))) 0) 300
def fin (D : Nat) (A B : Nat) : Bool := Nat.beq (Nat.add (phi D gB) (Nat.mul (units D) (mults B))) (Nat.mul (units D) (mults A))
def ones (n : Nat) : Nat := Nat.sub (Nat.pow 2 n) 1
def cutW (W x : Nat) : Nat := Nat.mod x (Nat.pow 2 W)
def rep1 (D m A B : Nat) : Bool :=
  match factor 60 m 3 [] with
  | none => true
  | some L => masks 301 L A B (fin D)
def rep (D : Nat) : Bool :=
  cond (Nat.beq (Nat.mod D 4) 3) (rep1 D D (ones 301) 0)
    (cond (Nat.beq (Nat.mod D 16) 4) (force (cutW 301 (dbl 301 14 34 8)) false fun A => force (cutW 301 (dbl 301 14 136 8)) false fun B => rep1 D (Nat.div D 4) A B)
      (cond (Nat.beq (Nat.mod D 32) 8) (force (cutW 301 (dbl 301 14 10 8)) false fun A => force (cutW 301 (dbl 301 14 160 8)) false fun B => rep1 D (Nat.div D 8) A B)
        (cond (Nat.beq (Nat.mod D 32) 24) (force (cutW 301 (dbl 301 14 130 8)) false fun A => force (cutW 301 (dbl 301 14 40 8)) false fun B => rep1 D (Nat.div D 8) A B) true)))
def chunk (a n : Nat) : Bool := fall (fun i => rep (Nat.add a i)) n
end Go.Proofs.Ytppdaagiofcmkaa.Rep
