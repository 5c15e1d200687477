import Derived.Test.YtppdaagiofcmkaaRecip
/- The check of the class number formula at one discriminant, as a function for the kernel. -/
namespace Go.Proofs.Ytppdaagiofcmkaa.Chk
/-- sums by recursion on the bound, for the kernel -/
def fsum (f : Nat → Nat) (n : Nat) : Nat := Nat.rec (motive := fun _ => Nat) 0 (fun k acc => Nat.add acc (f k)) n
def fall (f : Nat → Bool) (n : Nat) : Bool := Nat.rec (motive := fun _ => Bool) true (fun k acc => cond (f k) acc false) n
/-- force a number -/
def force {α : Type} (x : Nat) (d : α) (c : Nat → α) : α := Nat.casesOn (motive := fun _ => α) (Nat.succ x) d (fun y => c y)

/-- Jacobi's algorithm with fuel: true for -1 -/
def jacb (fuel : Nat) : Nat → Nat → Bool → Bool :=
  Nat.rec (motive := fun _ => Nat → Nat → Bool → Bool) (fun _ _ _ => false)
    (fun _ ih a n s =>
      Nat.casesOn (motive := fun _ => Bool) a (cond (Nat.beq n 1) s false)
        (fun a1 =>
          cond (Nat.beq (Nat.mod (Nat.succ a1) 2) 0)
            (ih (Nat.div (Nat.succ a1) 2) n (cond (Nat.beq (Nat.mod n 8) 3) (!s) (cond (Nat.beq (Nat.mod n 8) 5) (!s) s)))
            (ih (Nat.mod n (Nat.succ a1)) (Nat.succ a1) (cond (Nat.beq (Nat.mod (Nat.succ a1) 4) 3) (cond (Nat.beq (Nat.mod n 4) 3) (!s) s) s))))
    fuel
/-- the least n from k on with symbol -1 -/
def nonres (fuel p : Nat) : Nat → Nat :=
  Nat.rec (motive := fun _ => Nat → Nat) (fun _ => 0) (fun _ ih k => cond (jacb 64 (Nat.mod k p) p false) k (ih (Nat.succ k))) fuel

/-- the masks of the squares, and of n times the squares -/
def gen (p n : Nat) (k : Nat) : Nat → Nat → Nat → (Nat → Nat → Bool) → Bool :=
  Nat.rec (motive := fun _ => Nat → Nat → Nat → (Nat → Nat → Bool) → Bool)
    (fun _ P N c => c P N)
    (fun _ ih j P N c =>
      Nat.casesOn (motive := fun _ => Bool) (Nat.succ (Nat.mod (Nat.mul j j) p)) false (fun sq1 =>
        ih (Nat.succ j) (Nat.lor P (Nat.shiftLeft 1 sq1)) (Nat.lor N (Nat.shiftLeft 1 (Nat.mod (Nat.mul n sq1) p))) c))
    k

/-- doubling: m with period, width w, until w is at least W -/
def dbl (W fuel : Nat) : Nat → Nat → Nat :=
  Nat.rec (motive := fun _ => Nat → Nat → Nat) (fun m _ => m)
    (fun _ ih m w => cond (Nat.ble W w) m (ih (Nat.lor m (Nat.shiftLeft m w)) (Nat.add w w))) fuel

def isprime (p : Nat) : Bool := cond (Nat.blt 1 p) (fall (fun i => cond (Nat.blt p (Nat.mul (i+2) (i+2))) true (!(Nat.beq (Nat.mod p (i+2)) 0))) 100) false

def factor (fuel : Nat) : Nat → Nat → List Nat → Option (List Nat) :=
  Nat.rec (motive := fun _ => Nat → Nat → List Nat → Option (List Nat)) (fun m _ L => some (m :: L))
    (fun _ ih m p L =>
      cond (Nat.blt m (Nat.mul p p)) (some (cond (Nat.blt 1 m) (m :: L) L))
        (cond (Nat.beq (Nat.mod m p) 0)
          (cond (Nat.beq (Nat.mod (Nat.div m p) p) 0) none (force (Nat.div m p) none fun m' => ih m' (Nat.add p 2) (p :: L)))
          (ih m (Nat.add p 2) L))) fuel

def BB : Nat := 4294967295
def wt (M m : Nat) : Nat := fsum (fun s => force (Nat.mod (Nat.land (Nat.shiftRight m s) M) (BB * BB)) 0 fun r => Nat.add (Nat.mul 32 (Nat.div r BB)) (Nat.mul s (Nat.mod r BB))) 32

def masks (D : Nat) : List Nat → Nat → Nat → (Nat → Nat → Bool) → Bool
  | [], A, B, c => c A B
  | p :: L, A, B, c =>
    cond (isprime p)
       (force (nonres 60 p 2) false fun n =>
        cond (jacb 64 (Nat.mod n p) p false)
        (gen p n (Nat.div p 2) 1 0 0 fun P N =>
          force P false fun P => force N false fun N =>
          cond (Nat.beq (Nat.lor P N) (Nat.sub (Nat.pow 2 p) 2))
            (force (dbl D 14 P p) false fun P => force (dbl D 14 N p) false fun N =>
             force (Nat.mod (Nat.lor (Nat.land A P) (Nat.land B N)) (Nat.pow 2 D)) false fun A1 =>
             force (Nat.mod (Nat.lor (Nat.land A N) (Nat.land B P)) (Nat.pow 2 D)) false fun B1 => masks D L A1 B1 c)
            false) false) false

def good (D a b : Nat) : Bool :=
  cond (Nat.beq (Nat.mod (Nat.add (Nat.mul b b) D) (Nat.mul 4 a)) 0)
    (force (Nat.div (Nat.add (Nat.mul b b) D) (Nat.mul 4 a)) false fun c => cond (Nat.ble a c) (Nat.beq (Nat.gcd (Nat.gcd a b) c) 1) false) false
def amb (D a b : Nat) : Bool := cond (Nat.beq b 0) true (cond (Nat.beq a b) true (Nat.beq (Nat.div (Nat.add (Nat.mul b b) D) (Nat.mul 4 a)) a))
/-- 65536 for each form, 1 for each ambiguous one; b from 0 on, of D's parity -/
def hf (D : Nat) : Nat := fsum (fun a => cond (Nat.blt D (Nat.mul 3 (Nat.mul (a+1) (a+1)))) 0 (fsum (fun b => force (Nat.add (Nat.mul 2 b) (Nat.mod D 2)) 0 fun b => cond (Nat.ble b (a+1)) (cond (good D (a+1) b) (cond (amb D (a+1) b) 65537 131072) 0) 0) (Nat.add (Nat.div (a+1) 2) 1))) 58

def units (D : Nat) : Nat := cond (Nat.beq D 3) 6 (cond (Nat.beq D 4) 4 2)
def fin (M D h : Nat) (n2 : Nat) (L : List Nat) (A B : Nat) : Bool :=
  cond (Nat.beq (Nat.mul 2 (Nat.mod h 65536)) (Nat.pow 2 (L.length + n2)))
    (Nat.beq (Nat.mul (units D) (wt M B)) (Nat.add (Nat.mul (Nat.mul 2 D) (Nat.div h 65536)) (Nat.mul (units D) (wt M A)))) false

def chk1 (M D m n2 A B : Nat) : Bool :=
  match factor 60 m 3 [] with
  | none => true
  | some L => force (hf D) false fun h => masks D L A B (fin M D h n2 L)

def chk (M D : Nat) : Bool :=
  cond (Nat.beq (Nat.mod D 4) 3) (chk1 M D D 0 (Nat.sub (Nat.pow 2 D) 1) 0)
    (cond (Nat.beq (Nat.mod D 16) 4) (force (Nat.mod (dbl D 14 34 8) (Nat.pow 2 D)) false fun A => force (Nat.mod (dbl D 14 136 8) (Nat.pow 2 D)) false fun B => chk1 M D (Nat.div D 4) 1 A B)
      (cond (Nat.beq (Nat.mod D 32) 8) (force (Nat.mod (dbl D 14 10 8) (Nat.pow 2 D)) false fun A => force (Nat.mod (dbl D 14 160 8) (Nat.pow 2 D)) false fun B => chk1 M D (Nat.div D 8) 1 A B)
        (cond (Nat.beq (Nat.mod D 32) 24) (force (Nat.mod (dbl D 14 130 8) (Nat.pow 2 D)) false fun A => force (Nat.mod (dbl D 14 40 8) (Nat.pow 2 D)) false fun B => chk1 M D (Nat.div D 8) 1 A B) true)))
def chunk (M a n : Nat) : Bool := fall (fun i => chk M (Nat.add a i)) n
end Go.Proofs.Ytppdaagiofcmkaa.Chk
