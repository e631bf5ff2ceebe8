/- WirePlays' law and the reading of its argument. -/
import Derived.Test.YtejkajlbffkdnaaDoorPlaysLaw24
import Derived.Test.YtejkajlbffkdnaaDoorOpenActsB
